import Derived.Test.YtddlhljflggenaaGreatDoorKY8
import Derived.Test.YtddlhljflggenaaGreatDoorKM3
import Derived.Test.YtddlhljflggenaaGreatDoorKNB
import Derived.Test.YtddlhljflggenaaGreatDoorAbsZ
set_option linter.unusedSimpArgs false
set_option linter.unusedVariables false
namespace Go.Abs
mutual
theorem ztB : ∀ v w : IT, IT.same v w = true → v = w
 | .mk n ks, .mk n' ks' => by
  simp only [IT.same, Bool.and_eq_true, beq_iff_eq]
  rintro ⟨rfl, h⟩; rw [ztx ks ks' h]
theorem ztx : ∀ v w : List IT, IT.sameL v w = true → v = w
 | [], [], _ => rfl
 | [], _ :: _, h => by simp [IT.sameL] at h
 | _ :: _, [], h => by simp [IT.sameL] at h
 | v :: vs, w :: ws, h => by
  simp only [IT.sameL, Bool.and_eq_true] at h
  rw [ztB v w h.1, ztx vs ws h.2]
end
mutual
theorem ztC : ∀ v : IT, IT.same v v = true
 | .mk n ks => by simp [IT.same, ztA ks]
theorem ztA : ∀ v : List IT, IT.sameL v v = true
 | [] => rfl
 | v :: vs => by simp [IT.sameL, ztC v, ztA vs]
end
theorem same_iff {v w : IT} : IT.same v w = true ↔ v = w := ⟨ztB v w, fun h => by rw [h]; exact ztC w⟩
theorem cmp_zero' {v w : IT} : IT.cmp v w = 0 ↔ v = w := by rw [IT.cmp_zero, same_iff]
theorem zfP (v : IT) : IT.cmp v v = 0 := cmp_zero'.2 rfl
theorem zlu {u v w : IT} (h1 : IT.cmp u v < 0) (h2 : IT.cmp v w < 0) : IT.cmp u w < 0 := by
 have h := IT.cmp_tri u v w
 unfold Tri at h
 rcases IT.cmp_rng u w with h3 | h3 | h3 <;> omega
abbrev zc2 (l : List IT) : Prop := l.Pairwise fun a b => IT.cmp a b < 0
theorem zrv : ∀ {l l' : List IT}, zc2 l → zc2 l' → (∀ x, x ∈ l ↔ x ∈ l') → l = l'
 | [], [], _, _, _ => rfl
 | [], b :: l', _, _, h => by have := (h b).2 (by simp); simp at this
 | a :: l, [], _, _, h => by have := (h a).1 (by simp); simp at this
 | a :: l, b :: l', h1, h2, h => by
  have h3 := List.pairwise_cons.1 h1
  have h4 := List.pairwise_cons.1 h2
  have hab : a = b := by
   rcases List.mem_cons.1 ((h a).1 (by simp)) with e | ha
   ·exact e
   rcases List.mem_cons.1 ((h b).2 (by simp)) with e | hb
   ·exact e.symm
   have h5 := h3.1 b hb
   have h6 := h4.1 a ha
   have h7 := zlu h5 h6
   rw [zfP] at h7; omega
  subst hab
  congr 1
  refine zrv h3.2 h4.2 fun x => ?_
  constructor
  ·intro hx
   rcases List.mem_cons.1 ((h x).1 (by simp [hx])) with e | hx'
   ·subst e
    have := h3.1 x hx
    rw [zfP] at this; omega
   ·exact hx'
  ·intro hx
   rcases List.mem_cons.1 ((h x).2 (by simp [hx])) with e | hx'
   ·subst e
    have := h4.1 x hx
    rw [zfP] at this; omega
   ·exact hx'
def zdQ (x : IT) : List IT → List IT
 | [] => [x]
 | a :: l => if IT.cmp x a < 0 then x :: a :: l else a :: zdQ x l
def zaW : List IT → List IT
 | [] => []
 | x :: l => zdQ x (zaW l)
theorem zlV (x : IT) : ∀ l : List IT, (zdQ x l).Perm (x :: l)
 | [] => .refl _
 | a :: l => by
  unfold zdQ
  split
  ·exact .refl _
  ·exact ((zlV x l).cons a).trans (.swap x a l)
theorem zcl : ∀ l : List IT, (zaW l).Perm l
 | [] => .refl _
 | x :: l => by rw [zaW]; exact (zlV x _).trans ((zcl l).cons x)
theorem zsi {x : IT} : ∀ {l : List IT}, zc2 l → x ∉ l → zc2 (zdQ x l)
 | [], _, _ => by simp [zdQ, zc2]
 | a :: l, h, hx => by
  have h1 := List.pairwise_cons.1 h
  have hxa : x ≠ a := fun e => hx (by simp [e])
  unfold zdQ
  split
  ·rename_i hc
   refine List.pairwise_cons.2 ⟨fun b hb => ?_, h⟩
   rcases List.mem_cons.1 hb with e | hb
   ·rw [e]; exact hc
   ·exact zlu hc (h1.1 b hb)
  ·rename_i hc
   refine List.pairwise_cons.2 ⟨fun b hb => ?_, zsi h1.2 fun h => hx (by simp [h])⟩
   rcases List.mem_cons.1 ((zlV x l).mem_iff.1 hb) with e | hb
   ·subst e
    have h2 := IT.cmp_anti a b
    have h3 : IT.cmp b a ≠ 0 := fun e => hxa (cmp_zero'.1 e)
    omega
   ·exact h1.1 b hb
theorem zix : ∀ {l : List IT}, l.Nodup → zc2 (zaW l)
 | [], _ => by simp [zaW, zc2]
 | x :: l, h => by
  have h1 := List.nodup_cons.1 h
  exact zsi (zix h1.2) fun hx => h1.1 ((zcl l).mem_iff.1 hx)
theorem zm0 {l l' : List IT} (hn : l.Nodup) (ha : zc2 l') (hm : ∀ x, x ∈ l' ↔ x ∈ l) : l' = zaW l :=
 zrv ha (zix hn) fun x => by rw [hm, (zcl l).mem_iff]
theorem zru {l : List IT} (hn : l.Nodup) (h : l.Pairwise fun a b => ¬ IT.cmp b a < 0) : zc2 l := by
 refine (List.Pairwise.and h hn).imp fun {a b} hab => ?_
 have h1 := IT.cmp_anti a b
 have h2 : IT.cmp b a ≠ 0 := fun e => hab.2 (cmp_zero'.1 e).symm
 have h3 := hab.1
 omega
def zaB (ls : LL) : List IT := (ls.map zaW).flatten
section
variable {P : VT → Int → Option (List VT)}
theorem zhM {t : VT} {d : Nat} {ls : LL} (h : Lst (fun v => dV P v t) d ls) (v : IT) : v ∈ zaB ls ↔ ∃ k, k ≤ d ∧ dV P v t = some k := by
 have hl := h.len
 have hg : ∀ (i : Nat) (hi : i < ls.length), ls.getD i [] = ls[i] := fun i hi => by simp [List.getD_eq_getElem?_getD, hi]
 rw [zaB, List.mem_flatten]
 constructor
 ·rintro ⟨r, hr, hv⟩
  obtain ⟨l, hl', rfl⟩ := List.mem_map.1 hr
  obtain ⟨i, hi, rfl⟩ := List.mem_iff_getElem.1 hl'
  exact ⟨i, by omega, (h.mem i (by omega) v).1 (by rw [hg i hi]; exact (zcl _).mem_iff.1 hv)⟩
 ·rintro ⟨k, hk, hv⟩
  have hi : k < ls.length := by omega
  refine ⟨zaW ls[k], List.mem_map.2 ⟨_, List.getElem_mem hi, rfl⟩, ?_⟩
  rw [(zcl _).mem_iff, ← hg k hi]
  exact (h.mem k hk v).2 hv
theorem zsp {t : VT} {d : Nat} {ls : LL} (h : Lst (fun v => dV P v t) d ls) : (zaB ls).Pairwise fun a b => ∃ i j, dV P a t = some i ∧ dV P b t = some j ∧ (i < j ∨ i = j ∧ IT.cmp a b < 0) := by
 have hl := h.len
 have hg : ∀ (i : Nat) (hi : i < ls.length), ls.getD i [] = ls[i] := fun i hi => by simp [List.getD_eq_getElem?_getD, hi]
 rw [zaB, List.pairwise_flatten]
 refine ⟨fun r hr => ?_, ?_⟩
 ·obtain ⟨l, hl', rfl⟩ := List.mem_map.1 hr
  obtain ⟨i, hi, rfl⟩ := List.mem_iff_getElem.1 hl'
  have hn := h.nodup i (by omega)
  rw [hg i hi] at hn
  refine List.Pairwise.imp_of_mem (fun {a b} ha hb hab => ?_) (zix hn)
  have h1 := (h.mem i (by omega) a).1 (by rw [hg i hi]; exact (zcl _).mem_iff.1 ha)
  have h2 := (h.mem i (by omega) b).1 (by rw [hg i hi]; exact (zcl _).mem_iff.1 hb)
  exact ⟨i, i, h1, h2, .inr ⟨rfl, hab⟩⟩
 ·rw [List.pairwise_iff_getElem]
  intro i j hi hj hij a ha b hb
  simp only [List.length_map] at hi hj
  rw [List.getElem_map] at ha hb
  have h1 := (h.mem i (by omega) a).1 (by rw [hg i hi]; exact (zcl _).mem_iff.1 ha)
  have h2 := (h.mem j (by omega) b).1 (by rw [hg j hj]; exact (zcl _).mem_iff.1 hb)
  exact ⟨i, j, h1, h2, .inl hij⟩
theorem zl1 {t : VT} {d : Nat} {ls : LL} (h : Lst (fun v => dV P v t) d ls) : (zaB ls).Nodup := by
 refine (zsp h).imp fun {a b} hab e => ?_
 subst e
 obtain ⟨i, j, h1, h2, h3⟩ := hab
 rw [h1] at h2
 injection h2 with h2
 rcases h3 with h3 | ⟨_, h3⟩
 ·omega
 ·rw [zfP] at h3; omega
theorem zfW : ∀ {es : List IT} {t : VT} {m : Nat}, dE P es t = some m → es.length ≤ m
 | [], t, m, h => by simp
 | e :: es, t, m, h => by
  obtain ⟨a, b, h1, h2, rfl⟩ := dE_cons'.1 h
  have := zfY h1
  have := zfW h2
  simp; omega
/- Degree 0: the trivial index alone. -/
mutual
theorem zeP : ∀ (v : IT) (t : VT), dV P v t = some 0 → v = zV t
 | .mk n ks, .mk k m ts, h => by
  by_cases h6 : k = 6
  ·subst h6
   simp [dV, VT.kind, VT.kids] at h
   rw [zV, if_pos rfl, h.1, zrO ks ts h.2]
  ·rw [zV, if_neg h6]
   by_cases h7 : k = 7
   ·subst h7
    simp [dV, VT.kind] at h
    rw [h.1.2, show n = 0 by omega]
   ·by_cases h5 : k = 5
    ·subst h5
     simp [dV, VT.kind] at h
     have := zfW h.2
     rw [h.1, List.length_eq_zero_iff.1 (by omega : ks.length = 0)]
    ·simp [dV, VT.kind, h6, h7, h5] at h
     rw [h.1, h.2]
theorem zrO : ∀ (vs : List IT) (ts : List VT), dA P vs ts = some 0 → vs = zL ts
 | [], ts, h => by
  simp only [dA] at h
  split at h
  ·rename_i e; subst e; rfl
  ·cases h
 | v :: vs, [], h => by simp [dA] at h
 | v :: vs, t :: ts, h => by
  obtain ⟨a, b, h1, h2, h3⟩ := dA_cons.1 h
  obtain rfl : a = 0 := by omega
  obtain rfl : b = 0 := by omega
  rw [zL, zeP v t h1, zrO vs ts h2]
end
theorem zAq (t : VT) : ¬ WitV P 0 t := by
 rintro ⟨M, h1, h2, h3⟩
 match M, h1, h2, h3 with
 | [], _, h2, _ => simp at h2
 | [_], _, h2, _ => simp at h2
 | a :: b :: M, h1, _, h3 =>
  obtain ⟨k, hk, ha⟩ := h3 a (by simp)
  obtain ⟨k', hk', hb⟩ := h3 b (by simp)
  obtain rfl : k = 0 := by omega
  obtain rfl : k' = 0 := by omega
  have := (List.nodup_cons.1 h1).1
  rw [zeP a t ha, zeP b t hb] at this
  simp at this
theorem zz6 {t : VT} {ls : LL} (h : Lst (fun v => dV P v t) 0 ls) : zaB ls = [zV t] := by
 have hm := zhM h
 have hn := zl1 h
 have h0 : ∀ v ∈ zaB ls, v = zV t := fun v hv => by
  obtain ⟨k, hk, h1⟩ := (hm v).1 hv
  obtain rfl : k = 0 := by omega
  exact zeP v t h1
 have hz := (hm (zV t)).2 ⟨0, Nat.le_refl _, zfg t⟩
 match zaB ls, hn, h0, hz with
 | [], _, _, hz => simp at hz
 | [a], _, h0, _ => rw [h0 a (by simp)]
 | a :: b :: l, hn, h0, _ =>
  have := (List.nodup_cons.1 hn).1
  rw [h0 a (by simp), h0 b (by simp)] at this
  simp at this
mutual
def zbs (P : VT → Int → Option (List VT)) (nc : VT → Nat) : VT → Bool
 | .mk k n ks => if k = 7 then true else if k = 6 then zc3 P nc ks else if k = 5 then (List.range (nc (.mk k n ks))).any fun c => (P (.mk k n ks) c).isSome else false
def zc3 (P : VT → Int → Option (List VT)) (nc : VT → Nat) : List VT → Bool
 | [] => false
 | t :: ts => zbs P nc t || zc3 P nc ts
end
theorem zyD {a b : Nat} (h : 1 = a + b) : (a = 1 ∧ b = 0) ∨ (a = 0 ∧ b = 1) := by omega
mutual
theorem zr0 {nc : VT → Nat} (hP : ∀ t c ps, P t c = some ps → 0 ≤ c ∧ c < nc t) : ∀ t : VT, zbs P nc t = true ↔ ∃ v, dV P v t = some 1
 | .mk k n ks => by
  rw [zbs]
  by_cases h7 : k = 7
  ·subst h7
   rw [if_pos rfl]
   exact ⟨fun _ => ⟨.mk 1 [], by simp [dV, VT.kind]⟩, fun _ => rfl⟩
  rw [if_neg h7]
  by_cases h6 : k = 6
  ·subst h6
   rw [if_pos rfl, zrZ hP ks]
   constructor
   ·rintro ⟨vs, h⟩; exact ⟨.mk 0 vs, by simpa [dV, VT.kind, VT.kids] using h⟩
   ·rintro ⟨⟨c, vs⟩, h⟩
    simp [dV, VT.kind, VT.kids] at h
    exact ⟨vs, h.2⟩
  rw [if_neg h6]
  by_cases h5 : k = 5
  ·subst h5
   rw [if_pos rfl, List.any_eq_true]
   constructor
   ·rintro ⟨c, hc, h⟩
    obtain ⟨ps, hps⟩ := Option.isSome_iff_exists.1 h
    exact ⟨.mk 0 [.mk c (zL ps)], (zbI rfl _ _).2 ⟨rfl, dE_cons.2 ⟨ps, 0, 0, hps, zd2 ps, by simp [dE], rfl⟩⟩⟩
   ·rintro ⟨v, h⟩
    obtain ⟨_, h⟩ := (zbI rfl _ _).1 h
    cases hk : v.kids with
    | nil => rw [hk] at h; simp [dE] at h
    | cons e es =>
     rw [hk] at h
     obtain ⟨a, b, h1, _, _⟩ := dE_cons'.1 h
     obtain ⟨ps, _, h2, _, _⟩ := dX_some.1 h1
     obtain ⟨h3, h4⟩ := hP _ _ _ h2
     exact ⟨e.num.toNat, List.mem_range.2 (by omega), by rw [Int.toNat_of_nonneg h3, h2]; rfl⟩
  ·rw [if_neg h5]
   simp only [Bool.false_eq_true, false_iff, not_exists]
   rintro ⟨c, vs⟩
   simp [dV, VT.kind, h6, h7, h5]
theorem zrZ {nc : VT → Nat} (hP : ∀ t c ps, P t c = some ps → 0 ≤ c ∧ c < nc t) : ∀ ts : List VT, zc3 P nc ts = true ↔ ∃ vs, dA P vs ts = some 1
 | [] => by
  simp only [zc3, Bool.false_eq_true, false_iff, not_exists]
  intro vs h
  have := (dA_nil.1 h).2
  omega
 | t :: ts => by
  rw [zc3, Bool.or_eq_true, zr0 hP t, zrZ hP ts]
  constructor
  ·rintro (⟨v, h⟩ | ⟨vs, h⟩)
   ·exact ⟨v :: zL ts, dA_cons.2 ⟨1, 0, h, zd2 ts, rfl⟩⟩
   ·exact ⟨zV t :: vs, dA_cons.2 ⟨0, 1, zfg t, h, rfl⟩⟩
  ·rintro ⟨vs, h⟩
   cases vs with
   | nil => simp [dA] at h
   | cons v vs =>
    obtain ⟨a, b, h1, h2, h3⟩ := dA_cons.1 h
    rcases zyD h3 with ⟨rfl, rfl⟩ | ⟨rfl, rfl⟩
    ·exact .inl ⟨v, h1⟩
    ·exact .inr ⟨vs, h2⟩
end
theorem zz7 {nc : VT → Nat} (hP : ∀ t c ps, P t c = some ps → 0 ≤ c ∧ c < nc t) {t : VT} {ls : LL} (h : Lst (fun v => dV P v t) 1 ls) : 1 < (zaB ls).length ↔ zbs P nc t = true := by
 have hm := zhM h
 have hn := zl1 h
 rw [zr0 hP]
 have hz := (hm (zV t)).2 ⟨0, by omega, zfg t⟩
 constructor
 ·intro hl
  match hL : zaB ls, hl with
  | a :: b :: l, _ =>
   rw [hL] at hn
   have hab := (List.nodup_cons.1 hn).1
   obtain ⟨k, hk, ha⟩ := (hm a).1 (by rw [hL]; simp)
   obtain ⟨k', hk', hb⟩ := (hm b).1 (by rw [hL]; simp)
   by_cases h1 : k = 1
   ·subst h1; exact ⟨a, ha⟩
   by_cases h2 : k' = 1
   ·subst h2; exact ⟨b, hb⟩
   obtain rfl : k = 0 := by omega
   obtain rfl : k' = 0 := by omega
   rw [zeP a t ha, zeP b t hb] at hab
   simp at hab
 ·rintro ⟨v, hv⟩
  have h1 := (hm v).2 ⟨1, by omega, hv⟩
  match hL : zaB ls with
  | [] => rw [hL] at h1; simp at h1
  | [a] =>
   rw [hL] at h1 hz
   simp at h1 hz
   rw [h1, ← hz] at hv
   have := zfg (P := P) t
   rw [hv] at this
   simp at this
  | a :: b :: l => simp
end
end Go.Abs
namespace Go.Abs
theorem zsR {α : Type} : ∀ {M N : List α}, M.Nodup → (∀ x ∈ M, x ∈ N) → M.length ≤ N.length
 | [], N, _, _ => Nat.zero_le _
 | a :: M, N, h, hs => by
  have h1 := List.nodup_cons.1 h
  obtain ⟨s, t, rfl⟩ := List.append_of_mem (hs a (by simp))
  have := zsR (N := s ++ t) h1.2 fun x hx => by
   have h2 := hs x (by simp [hx])
   have h3 : x ≠ a := fun e => h1.1 (by rw [← e]; exact hx)
   simp [h3] at h2 ⊢
   exact h2
  simp at this ⊢
  omega
structure SetOf {α : Type} (D : α → Option Nat) (k : Nat) (l : List α) : Prop where
 nodup : l.Nodup
 mem : ∀ x, x ∈ l ↔ D x = some k
section
variable {P : VT → Int → Option (List VT)}
def zk6 (P : VT → Int → Option (List VT)) (k : Nat) (t : VT) : Option (List IT) → Prop
 | some l => SetOf (fun v => dV P v t) k l ∧ l.length ≤ 500
 | none => WitV P k t
def zym (P : VT → Int → Option (List VT)) (k : Nat) (ts : List VT) : Option (List (List IT)) → Prop
 | some l => SetOf (fun v => dA P v ts) k l ∧ l.length ≤ 500
 | none => WitA P k ts
structure PrPart (P : VT → Int → Option (List VT)) (k : Nat) (t : VT) (ts : List VT) (j : Nat) (out : List (List IT)) : Prop where
 nodup : out.Nodup
 mem : ∀ x, x ∈ out ↔ ∃ a b f r, a < j ∧ a + b = k ∧ dV P f t = some a ∧ dA P r ts = some b ∧ x = f :: r
def zbt (first : List IT) (rest : List (List IT)) : List (List IT) := first.flatMap fun f => rest.map (f :: ·)
@[simp] theorem ztg (first : List IT) (rest : List (List IT)) : (zbt first rest).length = first.length * rest.length := by
 induction first with
 | nil => simp [zbt]
 | cons f first ih =>
  simp only [zbt, List.flatMap_cons, List.length_append, List.length_map, List.length_cons] at ih ⊢
  rw [ih, Nat.succ_mul, Nat.add_comm]
theorem prodI_mem {first : List IT} {rest : List (List IT)} {x : List IT} : x ∈ zbt first rest ↔ ∃ f r, f ∈ first ∧ r ∈ rest ∧ x = f :: r := by
 simp only [zbt, List.mem_flatMap, List.mem_map]
 exact ⟨fun ⟨f, h1, r, h2, h3⟩ => ⟨f, r, h1, h2, h3.symm⟩, fun ⟨f, r, h1, h2, h3⟩ => ⟨f, h1, r, h2, h3.symm⟩⟩
theorem zAV {first : List IT} {rest : List (List IT)} (h1 : first.Nodup) (h2 : rest.Nodup) : (zbt first rest).Nodup := by
 rw [zbt, List.Nodup, List.pairwise_flatMap]
 refine ⟨fun f _ => zcR (fun a b e => by simpa using e) h2, h1.imp fun {a b} hab x hx y hy e => ?_⟩
 obtain ⟨r, _, rfl⟩ := List.mem_map.1 hx
 obtain ⟨r', _, rfl⟩ := List.mem_map.1 hy
 simp at e
 exact hab e.1
theorem PrPart.start (k : Nat) (t : VT) (ts : List VT) : PrPart P k t ts 0 [] :=
 ⟨by simp, fun x => ⟨fun h => by simp at h, fun ⟨a, _, _, _, h, _⟩ => by omega⟩⟩
theorem PrPart.skip {k : Nat} {t : VT} {ts : List VT} {j : Nat} {out : List (List IT)} (h : PrPart P k t ts j out) (h0 : SetOf (fun v => dV P v t) j []) : PrPart P k t ts (j + 1) out := by
 refine ⟨h.nodup, fun x => ?_⟩
 rw [h.mem]
 constructor
 ·rintro ⟨a, b, f, r, h1, h2⟩; exact ⟨a, b, f, r, by omega, h2⟩
 ·rintro ⟨a, b, f, r, h1, h2, h3, h4⟩
  refine ⟨a, b, f, r, ?_, h2, h3, h4⟩
  by_cases he : a = j
  ·subst he
   have := (h0.mem f).2 h3
   simp at this
  ·omega
theorem PrPart.step {k : Nat} {t : VT} {ts : List VT} {j : Nat} {out : List (List IT)} (h : PrPart P k t ts j out) (hj : j ≤ k) {first : List IT} {rest : List (List IT)} (hf : SetOf (fun v => dV P v t) j first) (hr : SetOf (fun v => dA P v ts) (k - j) rest) : PrPart P k t ts (j + 1) (out ++ zbt first rest) := by
 refine ⟨?_, fun x => ?_⟩
 ·rw [List.nodup_append]
  refine ⟨h.nodup, zAV hf.nodup hr.nodup, fun x hx y hy e => ?_⟩
  subst e
  obtain ⟨a, b, f, r, h1, _, h3, _, rfl⟩ := (h.mem x).1 hx
  obtain ⟨f', r', h5, _, h7⟩ := prodI_mem.1 hy
  simp at h7
  obtain ⟨rfl, rfl⟩ := h7
  have := (hf.mem f).1 h5
  rw [h3] at this
  injection this with this
  omega
 ·rw [List.mem_append, h.mem, prodI_mem]
  constructor
  ·rintro (⟨a, b, f, r, h1, h2⟩ | ⟨f, r, h1, h2, rfl⟩)
   ·exact ⟨a, b, f, r, by omega, h2⟩
   ·exact ⟨j, k - j, f, r, by omega, by omega, (hf.mem f).1 h1, (hr.mem r).1 h2, rfl⟩
  ·rintro ⟨a, b, f, r, h1, h2, h3, h4, rfl⟩
   by_cases he : a = j
   ·subst he
    exact .inr ⟨f, r, (hf.mem f).2 h3, (hr.mem r).2 (by rw [h4]; congr 1; omega), rfl⟩
   ·exact .inl ⟨a, b, f, r, by omega, h2, h3, h4, rfl⟩
theorem PrPart.wit {k : Nat} {t : VT} {ts : List VT} {j : Nat} {out : List (List IT)} (h : PrPart P k t ts j out) (hl : 500 < out.length) : WitA P k (t :: ts) :=
 ⟨out, h.nodup, hl, fun x hx => by
  obtain ⟨a, b, f, r, _, h2, h3, h4, rfl⟩ := (h.mem x).1 hx
  exact ⟨k, Nat.le_refl _, dA_cons.2 ⟨a, b, h3, h4, by omega⟩⟩⟩
theorem PrPart.fin {k : Nat} {t : VT} {ts : List VT} {out : List (List IT)} (h : PrPart P k t ts (k + 1) out) : SetOf (fun v => dA P v (t :: ts)) k out := by
 refine ⟨h.nodup, fun x => ?_⟩
 rw [h.mem]
 constructor
 ·rintro ⟨a, b, f, r, _, h2, h3, h4, rfl⟩; exact dA_cons.2 ⟨a, b, h3, h4, by omega⟩
 ·intro hx
  cases x with
  | nil => simp [dA] at hx
  | cons f r =>
   obtain ⟨a, b, h1, h2, h3⟩ := dA_cons.1 hx
   exact ⟨a, b, f, r, by omega, by omega, h1, h2, rfl⟩
theorem zCF {k j : Nat} {t : VT} {ts : List VT} (h : WitV P j t) (hj : j ≤ k) : WitA P k (t :: ts) := by
 have := (h.toA [] ts).mono hj
 simpa using this
theorem zCG {k j : Nat} {t : VT} {ts : List VT} {f : IT} (hf : dV P f t = some j) (hj : j ≤ k) (h : WitA P (k - j) ts) : WitA P k (t :: ts) := by
 obtain ⟨M, h1, h2, h3⟩ := h
 refine ⟨M.map (f :: ·), zcR (fun a b e => by simpa using e) h1, by simpa using h2, fun v hv => ?_⟩
 obtain ⟨r, hr, rfl⟩ := List.mem_map.1 hv
 obtain ⟨m, h4, h5⟩ := h3 r hr
 exact ⟨j + m, by omega, dA_cons.2 ⟨j, m, hf, h5, rfl⟩⟩
theorem zAS : SetOf (fun v => dA P v []) 0 [[]] := ⟨by simp, fun x => by rw [dA_nil]; simp⟩
theorem zAR {k : Nat} (hk : 0 < k) : SetOf (fun v => dA P v []) k [] := ⟨by simp, fun x => by rw [dA_nil]; simp; omega⟩
theorem zzw {k : Nat} {n : Int} {ks : List VT} {rows : List (List IT)} (h : SetOf (fun v => dA P v ks) k rows) : SetOf (fun v => dV P v (.mk 6 n ks)) k (rows.map (IT.mk 0)) := by
 refine ⟨zcR (fun a b e => by simpa using e) h.nodup, fun x => ?_⟩
 cases x with
 | mk c r =>
  rw [List.mem_map]
  simp only [dV, VT.kind, VT.kids, if_true]
  constructor
  ·rintro ⟨r', h1, e⟩
   injection e with e1 e2
   subst e1 e2
   rw [if_pos rfl]; exact (h.mem _).1 h1
  ·intro h1
   split at h1
   ·rename_i e; subst e; exact ⟨r, (h.mem r).2 h1, rfl⟩
   ·cases h1
theorem zCI {k : Nat} {n : Int} {ks : List VT} (h : WitA P k ks) : WitV P k (.mk 6 n ks) := by
 obtain ⟨M, h1, h2, h3⟩ := h
 refine ⟨M.map (IT.mk 0), zcR (fun a b e => by simpa using e) h1, by simpa using h2, fun v hv => ?_⟩
 obtain ⟨r, hr, rfl⟩ := List.mem_map.1 hv
 obtain ⟨m, h4, h5⟩ := h3 r hr
 exact ⟨m, h4, by simpa [dV, VT.kind, VT.kids] using h5⟩
theorem zzr (k : Nat) (n : Int) (ks : List VT) : SetOf (fun v => dV P v (.mk 7 n ks)) k [.mk (k : Int) []] := by
 refine ⟨by simp, fun x => ?_⟩
 cases x with
 | mk c r =>
  simp [dV, VT.kind]
  constructor
  ·rintro ⟨h1, rfl⟩; exact ⟨⟨by omega, rfl⟩, by omega⟩
  ·rintro ⟨⟨h1, h2⟩, h3⟩; exact ⟨by omega, h2⟩
theorem zzv {t : VT} (h6 : t.kind ≠ 6) (h7 : t.kind ≠ 7) (h5 : t.kind ≠ 5) : SetOf (fun v => dV P v t) 0 [.mk 0 []] := by
 refine ⟨by simp, fun x => ?_⟩
 cases x with
 | mk c r => simp [dV, h6, h7, h5]
theorem zzu {t : VT} (h6 : t.kind ≠ 6) (h7 : t.kind ≠ 7) (h5 : t.kind ≠ 5) {k : Nat} (hk : 0 < k) : SetOf (fun v => dV P v t) k [] := by
 refine ⟨by simp, fun x => ?_⟩
 cases x with
 | mk c r =>
  simp [dV, h6, h7, h5]
  intro _ _; omega
theorem zzs {t : VT} (h5 : t.kind = 5) : SetOf (fun v => dV P v t) 0 [.mk 0 []] := by
 refine ⟨by simp, fun x => ?_⟩
 rw [zbI h5]
 cases x with
 | mk c r =>
  simp [IT.num, IT.kids]
  intro _
  constructor
  ·rintro rfl; rfl
  ·intro h; exact List.length_eq_zero_iff.1 (by have := zfW h; omega)
structure DaPart (P : VT → Int → Option (List VT)) (d : Nat) (t : VT) (p c : Nat) (out : List IT) : Prop where
 nodup : out.Nodup
 mem : ∀ x, x ∈ out ↔ ∃ (p' : Nat) (c' : Int) (r s : List IT), p' + 1 ≤ d ∧ (p' < p ∨ p' = p ∧ c' < c) ∧ dX P t (.mk c' r) = some (1 + p') ∧ dE P s t = some (d - 1 - p') ∧ x = .mk 0 (.mk c' r :: s)
def zbp (c : Int) (rows : List (List IT)) (rest : List IT) : List IT := rows.flatMap fun r => rest.map fun s => .mk 0 (.mk c r :: s.kids)
@[simp] theorem ztF (c : Int) (rows : List (List IT)) (rest : List IT) : (zbp c rows rest).length = rows.length * rest.length := by
 induction rows with
 | nil => simp [zbp]
 | cons f rows ih =>
  simp only [zbp, List.flatMap_cons, List.length_append, List.length_map, List.length_cons] at ih ⊢
  rw [ih, Nat.succ_mul, Nat.add_comm]
theorem seqI_mem {c : Int} {rows : List (List IT)} {rest : List IT} {x : IT} : x ∈ zbp c rows rest ↔ ∃ r s, r ∈ rows ∧ s ∈ rest ∧ x = .mk 0 (.mk c r :: s.kids) := by
 simp only [zbp, List.mem_flatMap, List.mem_map]
 exact ⟨fun ⟨f, h1, r, h2, h3⟩ => ⟨f, r, h1, h2, h3.symm⟩, fun ⟨f, r, h1, h2, h3⟩ => ⟨f, h1, r, h2, h3.symm⟩⟩
theorem DaPart.start (d : Nat) (t : VT) (hP : ∀ c ps, P t c = some ps → 0 ≤ c) : DaPart P d t 0 0 [] := by
 refine ⟨by simp, fun x => ⟨fun h => by simp at h, ?_⟩⟩
 rintro ⟨p', c', r, s, _, h1, h2, _⟩
 obtain ⟨ps, _, h3, _⟩ := dX_some.1 h2
 have : 0 ≤ c' := hP _ _ h3
 omega
theorem DaPart.skip {d : Nat} {t : VT} {p c : Nat} {out : List IT} (h : DaPart P d t p c out) (h0 : P t c = none) : DaPart P d t p (c + 1) out := by
 refine ⟨h.nodup, fun x => ?_⟩
 rw [h.mem]
 constructor
 ·rintro ⟨p', c', r, s, h1, h2, h3⟩; exact ⟨p', c', r, s, h1, by omega, h3⟩
 ·rintro ⟨p', c', r, s, h1, h2, h3, h4⟩
  refine ⟨p', c', r, s, h1, ?_, h3, h4⟩
  by_cases he : c' = c
  ·subst he
   obtain ⟨ps, _, h5, _⟩ := dX_some.1 h3
   simp only [IT.num] at h5
   rw [h0] at h5; cases h5
  ·omega
theorem DaPart.step {d : Nat} {t : VT} (ht : t.kind = 5) {p c : Nat} {out : List IT} (h : DaPart P d t p c out) (hp : p < d) {ps : List VT} (hps : P t c = some ps) {rows : List (List IT)} {rest : List IT} (hr : SetOf (fun v => dA P v ps) p rows) (hs : SetOf (fun v => dV P v t) (d - 1 - p) rest) : DaPart P d t p (c + 1) (out ++ zbp c rows rest) := by
 refine ⟨?_, fun x => ?_⟩
 ·rw [List.nodup_append]
  refine ⟨h.nodup, ?_, fun x hx y hy e => ?_⟩
  ·rw [zbp, List.Nodup, List.pairwise_flatMap]
   refine ⟨fun f _ => ?_, hr.nodup.imp fun {a b} hab x hx y hy e => ?_⟩
   ·rw [List.pairwise_map]
    refine List.Pairwise.imp_of_mem (fun {a b} ha hb hab e => ?_) hs.nodup
    have h1 := ((zbI ht _ _).1 ((hs.mem a).1 ha)).1
    have h2 := ((zbI ht _ _).1 ((hs.mem b).1 hb)).1
    simp at e
    exact hab (by rw [← IT.eta a, ← IT.eta b, h1, h2, e])
   ·obtain ⟨r, _, rfl⟩ := List.mem_map.1 hx
    obtain ⟨r', _, rfl⟩ := List.mem_map.1 hy
    simp at e
    exact hab e.1
  ·subst e
   obtain ⟨p', c', r, s, _, h2, h3, _, rfl⟩ := (h.mem x).1 hx
   obtain ⟨r', s', h5, _, h7⟩ := seqI_mem.1 hy
   simp only [IT.mk.injEq, List.cons.injEq, true_and] at h7
   obtain ⟨⟨rfl, rfl⟩, _⟩ := h7
   obtain ⟨ps', a, h8, h9, h10⟩ := dX_some.1 h3
   simp only [IT.num, IT.kids] at h8 h9
   rw [hps] at h8
   injection h8 with h8
   subst h8
   have := (hr.mem r).1 h5
   rw [h9] at this
   injection this with this
   omega
 ·rw [List.mem_append, h.mem, seqI_mem]
  constructor
  ·rintro (⟨p', c', r, s, h1, h2, h3⟩ | ⟨r, s, h1, h2, rfl⟩)
   ·exact ⟨p', c', r, s, h1, by omega, h3⟩
   ·exact ⟨p, c, r, s.kids, by omega, by omega, dX_some.2 ⟨ps, p, hps, (hr.mem r).1 h1, rfl⟩, ((zbI ht _ _).1 ((hs.mem s).1 h2)).2, rfl⟩
  ·rintro ⟨p', c', r, s, h1, h2, h3, h4, rfl⟩
   by_cases he : p' = p ∧ c' = c
   ·obtain ⟨rfl, rfl⟩ := he
    obtain ⟨ps', a, h8, h9, h10⟩ := dX_some.1 h3
    simp only [IT.num, IT.kids] at h8 h9
    rw [hps] at h8
    injection h8 with h8
    subst h8
    obtain rfl : p' = a := by omega
    exact .inr ⟨r, .mk 0 s, (hr.mem r).2 h9, (hs.mem _).2 ((zbI ht _ _).2 ⟨rfl, h4⟩), rfl⟩
   ·exact .inl ⟨p', c', r, s, h1, by omega, h3, h4, rfl⟩
theorem DaPart.next {d : Nat} {t : VT} {p n : Nat} {out : List IT} (hP : ∀ c ps, P t c = some ps → 0 ≤ c ∧ c < n) (h : DaPart P d t p n out) : DaPart P d t (p + 1) 0 out := by
 refine ⟨h.nodup, fun x => ?_⟩
 rw [h.mem]
 constructor
 ·rintro ⟨p', c', r, s, h1, h2, h3⟩; exact ⟨p', c', r, s, h1, by omega, h3⟩
 ·rintro ⟨p', c', r, s, h1, h2, h3, h4⟩
  obtain ⟨ps, _, h5, _⟩ := dX_some.1 h3
  have : 0 ≤ c' ∧ c' < n := hP _ _ h5
  exact ⟨p', c', r, s, h1, by omega, h3, h4⟩
theorem DaPart.fin {d : Nat} {t : VT} (ht : t.kind = 5) (hd : 0 < d) {out : List IT} (hP : ∀ c ps, P t c = some ps → 0 ≤ c) (h : DaPart P d t d 0 out) : SetOf (fun v => dV P v t) d out := by
 refine ⟨h.nodup, fun x => ?_⟩
 rw [h.mem, zbI ht]
 constructor
 ·rintro ⟨p', c', r, s, h1, h2, h3, h4, rfl⟩
  exact ⟨rfl, dE_cons'.2 ⟨_, _, h3, h4, by omega⟩⟩
 ·rintro ⟨h1, h2⟩
  cases x with
  | mk n ks =>
   simp only [IT.num, IT.kids] at h1 h2
   subst h1
   cases ks with
   | nil => simp [dE] at h2; omega
   | cons e es =>
    obtain ⟨a, b, h3, h4, h5⟩ := dE_cons'.1 h2
    have ha := zfY h3
    refine ⟨a - 1, e.num, e.kids, es, by omega, by omega, ?_, ?_, ?_⟩
    ·rw [IT.eta, h3]; congr 1; omega
    ·rw [h4]; congr 1; omega
    ·rw [IT.eta]
theorem DaPart.wit {d : Nat} {t : VT} (ht : t.kind = 5) {p c : Nat} {out : List IT} (h : DaPart P d t p c out) (hl : 500 < out.length) : WitV P d t :=
 ⟨out, h.nodup, hl, fun x hx => by
  obtain ⟨p', c', r, s, h1, h2, h3, h4, rfl⟩ := (h.mem x).1 hx
  exact ⟨d, Nat.le_refl _, (zbI ht _ _).2 ⟨rfl, dE_cons'.2 ⟨_, _, h3, h4, by omega⟩⟩⟩⟩
theorem znn {d : Nat} {t : VT} {ls : LL} (h : Lst (fun v => dV P v t) d ls) (hw : WitV P d t) : 500 < zaq ls := by
 obtain ⟨M, h1, h2, h3⟩ := hw
 have hl := h.len
 have hg : ∀ (i : Nat) (hi : i < ls.length), ls.getD i [] = ls[i] := fun i hi => by simp [List.getD_eq_getElem?_getD, hi]
 have := zsR (N := ls.flatten) h1 fun v hv => by
  obtain ⟨k, hk, hd⟩ := h3 v hv
  have hi : k < ls.length := by omega
  refine List.mem_flatten.2 ⟨ls[k], List.getElem_mem hi, ?_⟩
  rw [← hg k hi]; exact (h.mem k hk v).2 hd
 rw [znd]; omega
structure Lst' {α : Type} (D : α → Option Nat) (n : Nat) (l : List (List α)) : Prop where
 len : l.length = n
 set : ∀ k, k < n → SetOf D k (l.getD k [])
theorem Lst'.snoc {α : Type} {D : α → Option Nat} {n : Nat} {l : List (List α)} (h : Lst' D n l) {x : List α} (hx : SetOf D n x) : Lst' D (n + 1) (l ++ [x]) := by
 have hl := h.len
 refine ⟨by simp [hl], fun k hk => ?_⟩
 by_cases hkn : k = n
 ·subst hkn
  have : (l ++ [x]).getD k [] = x := by rw [List.getD_eq_getElem?_getD, List.getElem?_append_right (by omega)]; simp [hl]
  rw [this]; exact hx
 ·have : (l ++ [x]).getD k [] = l.getD k [] := by simp [List.getD_eq_getElem?_getD, List.getElem?_append_left (show k < l.length by omega)]
  rw [this]; exact h.set k (by omega)
theorem Lst'.lst {α : Type} {D : α → Option Nat} {d : Nat} {l : List (List α)} (h : Lst' D (d + 1) l) : Lst D d l :=
 ⟨h.len, fun k hk x => (h.set k (by omega)).mem x, fun k hk => (h.set k (by omega)).nodup⟩
@[simp] theorem zf6 (l : LL) : (zaB l).length = zaq l := by
 induction l with
 | nil => rfl
 | cons a l ih => simp only [zaB, List.map_cons, List.flatten_cons, List.length_append] at ih ⊢; rw [ih, (zcl a).length_eq]; simp
theorem zsq (l : LL) (x : List IT) : zaB (l ++ [x]) = zaB l ++ zaW x := by simp [zaB]
theorem zz8 {t : VT} {d : Nat} {l l' : LL} (h : Lst (fun v => dV P v t) d l) (h' : Lst (fun v => dV P v t) d l') : zaB l = zaB l' := by
 unfold zaB
 congr 1
 have h1 := h.len
 have h2 := h'.len
 refine List.ext_getElem (by simp [h1, h2]) fun i hi hi' => ?_
 simp only [List.length_map] at hi hi'
 have hg : ∀ (l : LL) (i : Nat) (hi : i < l.length), l.getD i [] = l[i] := fun l i hi => by simp [List.getD_eq_getElem?_getD, hi]
 simp only [List.getElem_map]
 have hn := h.nodup i (by omega)
 have hn' := h'.nodup i (by omega)
 have hm := h.mem i (by omega)
 have hm' := h'.mem i (by omega)
 rw [hg _ i hi] at hn hm
 rw [hg _ i hi'] at hn' hm'
 refine zm0 hn' (zix hn) fun x => ?_
 rw [(zcl _).mem_iff, hm, hm']
theorem zCH {d k : Nat} {t : VT} {l : LL} (h : Lst' (fun v => dV P v t) k l) (hk : k ≤ d) {x : List IT} (hx : SetOf (fun v => dV P v t) k x) (hl : 500 < zaq l + x.length) : WitV P d t := by
 have h1 := (h.snoc hx).lst
 exact zsw h1 (by rw [zfe]; simpa using hl) hk
end
end Go.Abs
namespace Go.Proofs.YtddlhljflggenaaGreatDoor
open Go Go.Abs
set_option maxRecDepth 8000
def pos (v : Bool) (bs : List Bool) (i : Nat) : List Nat := (List.range i).filter fun j => bs.getD j false == v
def zbo (l : List Nat) : List (List AV) := l.map fun (n : Nat) => [AV.int .i64 (Int.ofNat n)]
theorem zmN (v : Bool) (bs : List Bool) (i : Nat) (h : i < bs.length) : pos v bs (i + 1) = pos v bs i ++ (if bs[i] == v then [i] else []) := by
 unfold pos
 rw [List.range_succ, List.filter_append]
 congr 1
 simp [List.filter_cons, List.getD_eq_getElem?_getD, h]
theorem zmM (v : Bool) (bs : List Bool) (i : Nat) : (pos v bs i).length ≤ i := by
 have := List.length_filter_le (fun j => bs.getD j false == v) (List.range i)
 simpa [pos] using this
theorem zAQ {v : Bool} {bs : List Bool} {i j : Nat} (h : j ∈ pos v bs i) : j < i := by
 simp [pos] at h
 exact h.1
theorem zs6 {l : List VT} {bs : List Bool} (h : l.length = bs.length) (d : VT) : ∀ i, i ≤ l.length → pick (l.take i) (bs.take i) = (pos false bs i).map fun j => l.getD j d
 | 0, _ => by simp [pick, pos]
 | i + 1, hi => by
  rw [zs8 h (by omega), zmN false bs i (by omega), List.map_append, zs6 h d i (by omega)]
  congr 1
  cases hb : bs[i]'(by omega) <;> simp [List.getD_eq_getElem?_getD, show i < l.length by omega]
theorem zgu (l : List Nat) : (zbo l).length = l.length := by simp [zbo]
theorem zAo {l : List Nat} {i : Nat} (h : i < (zbo l).length) : (zbo l)[i] = [.int .i64 ((l[i]'(by simpa [zbo] using h) : Nat) : Int)] := by simp [zbo]
theorem zsK (l m : List Nat) : zbo (l ++ m) = zbo l ++ zbo m := by simp [zbo]
theorem zIM (data : List Dat) (hk : zaP data) (k n : Int) (ks : List VT) (ht : (VT.mk k n ks).nodes ≤ 1000) (c : Int) {l : List VT} {bs : List Bool} (hf : za7 data (.mk k n ks) c = some l)
  (hlb : l.length = bs.length) (hl8 : l.length ≤ 8) (hrec : ∀ H K, K (.sl (zbA bs) .none) H → ACalls tP zgt [.sl (data.map Dat.cs) .none, .int .i64 n, .int .i64 c] H K) (H : zaa) (K : Kt)
  (hK : K (.tup [.sl (zbo (pos false bs bs.length)) .none, .sl (zbo (pos true bs bs.length)) .none, .bool true]) H) :
  ACalls tP zmq [.sl (data.map Dat.cs) .none, .agg (VT.mk k n ks).cs, .int .i64 c] H K := by
 refine ACalls.out (zIK fun hs => ?_)
 obtain ⟨f1, f2, f3⟩ := zhJ hk
 simp [zwP, VT.cs, Nat.add_assoc]
 refine zwO data f1 f2 f3 (.mk k n ks) ht c _ _ ?_
 rw [hf]
 simp [zbL]
 refine hrec _ _ ?_
 simp [zfN]
 unfold zkr
 refine ALoop.own 11 zb3 1 rfl ?_
 refine ALoop.own 12 zb3 1 rfl ?_
 have hl1 : (H ++ [AB.cells [AV.int IntKind.i64 k, AV.int IntKind.i64 n, AV.sl (VT.css ks) Tok.none]]).length = H.length + 1 := by simp
 have hl2 : (H ++ [AB.cells [AV.int IntKind.i64 k, AV.int IntKind.i64 n, AV.sl (VT.css ks) Tok.none]] ++ [AB.perm zb3 1 0]).length = H.length + 2 := by simp
 rw [hl1, hl2]
 show zkr (.sl [] (.own (H.length + 1))) (.sl [] (.own (H.length + 2))) (.sl (zbA bs) .none) (.int .i64 bs.length) (.int .i64 0) (H ++ [.cells [.int .i64 k, .int .i64 n, .sl (VT.css ks) .none]] ++ [.perm zb3 1 0] ++ [.perm zb3 1 0]) (Out H.length K)
 have hperm : ∀ m m2, HSc (H ++ [.cells [.int .i64 k, .int .i64 n, .sl (VT.css ks) .none], .perm zb3 1 m, .perm zb3 1 m2]) := fun m m2 => hs.append (by simp [AB.sc, AV.scA, AV.scB])
 refine zII (Inv := fun q t11 t12 t30 H' => ∃ i : Nat, i ≤ bs.length ∧ q = bs.length - i ∧ t30 = .int .i64 i ∧ t11 = .sl (zbo (pos false bs i)) (.own (H.length + 1)) ∧ t12 = .sl (zbo (pos true bs i)) (.own (H.length + 2)) ∧
  H' = H ++ [.cells [.int .i64 k, .int .i64 n, .sl (VT.css ks) .none], .perm zb3 1 (pos false bs i).length, .perm zb3 1 (pos true bs i).length]) bs.length ?_ ?_
 ·intro _; exact ⟨0, by omega, by omega, rfl, by simp [pos, zbo], by simp [pos, zbo], by simp [pos]⟩
 ·rintro q t11 t12 t30 H' ⟨i, hi, rfl, rfl, rfl, rfl, rfl⟩ hsc' hlen hsF Kb hKb
  by_cases hlt : i < bs.length
  ·have hp1 := zmN false bs i hlt
   have hp2 := zmN true bs i hlt
   have hn1 := zmM false bs i
   have hn2 := zmM true bs i
   have hnext : zkq (.sl (zbo (pos false bs (i + 1))) (.own (H.length + 1))) (.sl (zbo (pos true bs (i + 1))) (.own (H.length + 2))) (.sl (zbA bs) .none) (.int .i64 bs.length) (.int .i64 i)
     (H ++ [.cells [.int .i64 k, .int .i64 n, .sl (VT.css ks) .none], .perm zb3 1 (pos false bs (i + 1)).length, .perm zb3 1 (pos true bs (i + 1)).length]) (Out H.length K) Kb := by
    simp [zkq, zwQ]
    rw [zam (by omega) (by omega)]
    refine hKb _ _ ⟨bs.length - (i + 1), by omega, Back.at (J := []) (H2 := H ++ [.cells [.int .i64 k, .int .i64 n, .sl (VT.css ks) .none], .perm zb3 1 (pos false bs (i + 1)).length, .perm zb3 1 (pos true bs (i + 1)).length]) (by simp) (by simp) (hperm _ _) ?_ ⟨_, _, _, rfl, i + 1, by omega, rfl, by simp, rfl, rfl, rfl⟩⟩
    simp [zkp, AV.sc, AV.scV, AV.scA, AV.scB]
   cases hbi : bs[i] with
   | true =>
    rw [hbi] at hp1 hp2
    simp at hp1 hp2
    rw [hp1, hp2] at hnext
    simp [zko, zfN, hlt, zlr, hbi, zay, za8, plain, AV.pd, zat, zaI, zaE, zgu]
    refine ⟨⟨by omega, by omega⟩, ?_⟩
    simpa [zsK, zbo] using hnext
   | false =>
    rw [hbi] at hp1 hp2
    simp at hp1 hp2
    rw [hp1, hp2] at hnext
    simp [zko, zfN, hlt, zlr, hbi, zay, za8, plain, AV.pd, zat, zaI, zaE, zgu]
    refine ⟨⟨by omega, by omega⟩, ?_⟩
    simpa [zsK, zbo] using hnext
  ·obtain rfl : i = bs.length := by omega
   simp [zko]
   refine ⟨⟨rfl, rfl, rfl⟩, ?_⟩
   exact Out.tup (bs := [.sl (zbo (pos false bs bs.length)) .none, .sl (zbo (pos true bs bs.length)) .none, .bool true]) hs hK ⟨slV, slV, zaC rfl rfl, trivial⟩
theorem zvV (data : List Dat) (hk : zaP data) (t : VT) (ht : t.nodes ≤ 1000) (c : Int) (H : zaa) (K : Kt) (hK : K (zbL (zan data t c)) H) :
  ACalls tP zh5 [.sl (data.map Dat.cs) .none, .agg t.cs, .int .i64 c] H K := by
 refine ACalls.out (zG7 fun hs => ?_)
 obtain ⟨f1, f2, f3⟩ := zhJ hk
 obtain ⟨k, n, ks⟩ := t
 simp [zvU, VT.cs, Nat.add_assoc]
 refine zwO data f1 f2 f3 (.mk k n ks) ht c _ _ ?_
 cases hf : za7 data (.mk k n ks) c with
 | none =>
  rw [zs4 hf] at hK
  simp [zbL]
  refine ⟨⟨rfl, rfl⟩, ?_⟩
  exact Out.tup (bs := [.sl [] .none, .bool false]) hs hK ⟨zdY, zaC rfl rfl, trivial⟩
 | some l =>
  obtain ⟨bs, hlb, hl8, hpay, h200, k5, _, hrec⟩ := zs5 hk hf
  rw [hpay] at hK
  simp [zbL]
  refine zIM data hk k n ks ht c hf hlb hl8 hrec _ _ ?_
  simp [zgu]
  unfold zjV
  refine ALoop.own 13 zaO 3 rfl ?_
  have hl1 : (H ++ [AB.cells [AV.int IntKind.i64 k, AV.int IntKind.i64 n, AV.sl (VT.css ks) Tok.none]]).length = H.length + 1 := by simp
  rw [hl1]
  have hpp := zs6 hlb (.mk 0 0 []) l.length (Nat.le_refl _)
  rw [List.take_length, hlb, List.take_length] at hpp
  rw [hpp] at hK
  have hpt : ∀ j ∈ pos false bs bs.length, j < l.length := fun j hj => by have := zAQ hj; omega
  have hp8 := zmM false bs bs.length
  generalize pos false bs bs.length = P at *
  show zjV (.sl (VT.css l) .none) (.sl [] (.own (H.length + 1))) (.sl (zbo P) .none) (.int .i64 P.length) (.int .i64 0) (H ++ [.cells [.int .i64 k, .int .i64 n, .sl (VT.css ks) .none]] ++ [.perm zaO 3 0]) (Out H.length K)
  have hperm : ∀ m, HSc (H ++ [.cells [.int .i64 k, .int .i64 n, .sl (VT.css ks) .none], .perm zaO 3 m]) := fun m => hs.append (by simp [AB.sc, AV.scA, AV.scB])
  refine zG5 (Inv := fun q t13 t35 H' => ∃ i : Nat, i ≤ P.length ∧ q = P.length - i ∧ t35 = .int .i64 i ∧ t13 = .sl (VT.css ((P.take i).map fun j => l.getD j (.mk 0 0 []))) (.own (H.length + 1)) ∧ H' = H ++ [.cells [.int .i64 k, .int .i64 n, .sl (VT.css ks) .none], .perm zaO 3 i]) P.length ?_ ?_
  ·intro _; exact ⟨0, by omega, by omega, rfl, by simp [VT.css], by simp⟩
  ·rintro q t13 t35 H' ⟨i, hi, rfl, rfl, rfl, rfl⟩ hsc' hlen hsF Kb hKb
   by_cases hlt : i < P.length
   ·have hj := hpt _ (List.getElem_mem hlt)
    simp [zoI, zgu, zAo, hlt, hj]
    rw [zeg]
    simp [zat, zaI, zaE, Nat.min_eq_left hi]
    refine ⟨⟨by omega, by omega⟩, ?_⟩
    rw [zam (by omega) (by omega)]
    have hst : VT.css (List.take i (List.map (fun j => l[j]?.getD (VT.mk 0 0 [])) P)) ++ [(l[P[i]]'hj).cs] = VT.css ((P.take (i + 1)).map fun j => l.getD j (.mk 0 0 [])) := by
     rw [List.take_succ_eq_append_getElem hlt, VT.css_map, VT.css_map, List.map_append, List.map_append, List.map_take]
     simp [List.getD_eq_getElem?_getD, hj]
    rw [hst]
    refine hKb _ _ ⟨P.length - (i + 1), by omega, Back.at (J := []) (H2 := H ++ [.cells [.int .i64 k, .int .i64 n, .sl (VT.css ks) .none], .perm zaO 3 (i + 1)]) (by simp) (by simp) (hperm _) ?_ ⟨_, _, rfl, i + 1, by omega, rfl, by simp, rfl, rfl⟩⟩
    simp [zjU, AV.sc, AV.scV, AV.scA, AV.scB]
   ·obtain rfl : i = P.length := by omega
    rw [List.take_length] at *
    simp [zoI, zgu]
    refine ⟨⟨rfl, rfl⟩, ?_⟩
    exact Out.tup (bs := [.sl (VT.css (P.map fun j => l.getD j (.mk 0 0 []))) .none, .bool true]) hs hK ⟨slV, zaC rfl rfl, trivial⟩
theorem it2 (v : IT) : ∃ a b, v.cs = [a, b] ∧ a.known = true ∧ b.known = true := by
 obtain ⟨n, ks⟩ := v; exact ⟨_, _, rfl, rfl, rfl⟩
theorem zsA {data : List Dat} (h8 : ∀ D ∈ data, D.cons.length ≤ 8) (v : IT) (t : VT) (h : (zbN data v t).2 = true) : 0 ≤ (zbN data v t).1 ∧ (zbN data v t).1 ≤ 6 := by
 obtain ⟨e1, e2, e3⟩ := (zlk h8 v t).1 h
 omega
theorem zsz {data : List Dat} (h8 : ∀ D ∈ data, D.cons.length ≤ 8) : ∀ (vs : List IT) (ts : List VT) (a : Int), 0 ≤ a → 0 ≤ (zbn data vs ts a).1 ∧ (zbn data vs ts a).1 ≤ a + 6 * vs.length
 | [], ts, a, h => by simp [zbn]; omega
 | v :: vs, [], a, h => by simp [zbn]; omega
 | v :: vs, t :: ts, a, h => by
  simp only [zbn]
  split
  ·rename_i hb
   have := zsA h8 v t hb
   have := zsz h8 vs ts (a + (zbN data v t).1) (by omega)
   simp only [List.length_cons]
   omega
  ·simp; omega
theorem zir {x : VT} : ∀ {l : List VT} {bs : List Bool}, x ∈ pick l bs → x ∈ l
 | [], _, h => by simp [pick] at h
 | _ :: _, [], h => by simp [pick] at h
 | c :: l, b :: bs, h => by
  cases b with
  | true => simp [pick] at h; exact List.mem_cons_of_mem _ (zir h)
  | false =>
   simp [pick] at h
   rcases h with rfl | h
   ·exact List.mem_cons_self
   ·exact List.mem_cons_of_mem _ (zir h)
theorem zs3 {data : List Dat} {t : VT} {c : Int} {ps : List VT} (h : zan data t c = some ps) : ∀ x ∈ ps, x.nodes ≤ 1000 := by
 unfold zan at h
 obtain ⟨k, n, ks⟩ := t
 cases hf : za7 data (.mk k n ks) c with
 | none => rw [hf] at h; cases h
 | some l =>
  rw [hf] at h
  obtain ⟨_, _, _, _, _, _, _, h2⟩ := zem hf
  simp at h
  subst h
  exact fun x hx => by have := h2 x (zir hx); omega
theorem zAg (data : List Dat) (n : Int) (ks : List IT) (tk tn : Int) (tks : List VT) : zbN data (.mk n ks) (.mk tk tn tks) =
  if tk = 6 then (if n = 0 then (if tks.length = ks.length then zbn data ks tks 0 else (0, false)) else (0, false))
  else if tk = 7 then (n, decide (0 ≤ n) && decide (n ≤ 6) && decide (ks.length = 0))
  else if tk = 5 then (if n = 0 then zch data ks (.mk tk tn tks) 0 else (0, false))
  else (0, decide (n = 0) && decide (ks.length = 0)) := by
 rw [zbN]
 rfl
def zb8 (data : List Dat) (vs : List IT) (ts : List VT) : Int × Bool := if ts.length = vs.length then zbn data vs ts 0 else (0, false)
def zhn (data : List Dat) (v : IT) : Prop := ∀ t : VT, t.nodes ≤ 1000 → ∀ (H : zaa) (K : Kt), K (.tup [.int .i64 (zbN data v t).1, .bool (zbN data v t).2]) H → ACalls tP zh2 [.sl (data.map Dat.cs) .none, .agg t.cs, .agg v.cs] H K
theorem zcm {H : zaa} {K : Kt} {a : Int} {b : Bool} (hs : HSc H) (h : K (.tup [.int .i64 a, .bool b]) H) (J : zaa) : Out H.length K (.tup [.int .i64 a, .bool b]) (H ++ J) := Out.tup hs h ⟨zaC rfl rfl, zaC rfl rfl, trivial⟩
theorem zwH {data : List Dat} (h8 : ∀ D ∈ data, D.cons.length ≤ 8) (vs : List IT) (hv : vs.length ≤ 1000000) (hel : ∀ v ∈ vs, zhn data v) (ts : List VT) (ht : ∀ t ∈ ts, t.nodes ≤ 1000) (H : zaa) (K : Kt)
  (hK : K (.tup [.int .i64 (zb8 data vs ts).1, .bool (zb8 data vs ts).2]) H) : ACalls tP zh8 [.sl (data.map Dat.cs) .none, .sl (VT.css ts) .none, .sl (IT.css vs) .none] H K := by
 refine ACalls.out (zIk fun hs => ?_)
 have h0 : ∀ b J, zb8 data vs ts = (0, b) → Out H.length K (.tup [.int .i64 0, .bool b]) (H ++ J) := fun b J h => by rw [h] at hK; exact zcm hs hK J
 by_cases hl : ts.length = vs.length
 case neg =>
  have : ((ts.length : Int) != (vs.length : Int)) = true := by simp [bne]; omega
  simp [zpy, this]
  refine ⟨⟨rfl, rfl⟩, ?_⟩
  simpa using h0 false [] (by simp [zb8, hl])
 have htot : zb8 data vs ts = zbn data vs ts 0 := by simp [zb8, hl]
 rw [htot] at hK h0
 simp [zpy, hl]
 refine zIi (Inv := fun q t8 t20 H' => ∃ (i : Nat) (a : Int), i ≤ vs.length ∧ q = vs.length - i ∧ t20 = .int .i64 i ∧ t8 = .int .i64 a ∧ 0 ≤ a ∧ a ≤ 6 * i ∧ zbn data (vs.drop i) (ts.drop i) a = zbn data vs ts 0 ∧ H' = H) vs.length ?_ ?_
 ·intro _; exact ⟨0, 0, by omega, by omega, rfl, rfl, by omega, by omega, by simp, rfl⟩
 ·rintro q t8 t20 H' ⟨i, a, hi, rfl, rfl, rfl, ha0, ha6, ho, rfl⟩ hsc' hlen hsF Kb hKb
  by_cases hlt : i < vs.length
  ·have hlt' : i < ts.length := by omega
   rw [List.drop_eq_getElem_cons hlt, List.drop_eq_getElem_cons hlt'] at ho
   simp only [zbn] at ho
   obtain ⟨x, y, z, hvx, hx, hy, hz⟩ := zaX ts[i]
   obtain ⟨x2, y2, hvx2, hx2, hy2⟩ := it2 vs[i]
   have hti := ht _ (List.getElem_mem hlt')
   have hvi := hel _ (List.getElem_mem hlt)
   simp [zpz, hl, hlt, hlt', hvx, hvx2, Nat.add_assoc]
   refine ⟨⟨hx, hy, hz⟩, ?_⟩
   rw [← hvx, ← hvx2]
   refine zbH (.tup [.int .i64 (zbN data vs[i] ts[i]).1, .bool (zbN data vs[i] ts[i]).2]) (fun J => hvi _ hti _ _ ⟨rfl, rfl⟩) ?_
   cases hb : (zbN data vs[i] ts[i]).2 with
   | false =>
    rw [hb] at ho
    simp at ho
    simp
    exact ⟨⟨rfl, rfl⟩, h0 _ _ ho.symm⟩
   | true =>
    rw [hb] at ho
    simp at ho
    have hbd := zsA h8 _ _ hb
    simp
    rw [zam (by omega) (by omega), zam (by omega) (by omega)]
    refine hKb _ _ ⟨vs.length - (i + 1), by omega, Back.at (J := [_]) rfl (Nat.le_refl _) hs ?_ ⟨_, _, rfl, i + 1, _, by omega, rfl, by simp, rfl, by omega, by simp; omega, ho, rfl⟩⟩
    simp [zkf, AV.sc, AV.scV, AV.scA, AV.scB]
  ·obtain rfl : i = vs.length := by omega
   rw [List.drop_length] at ho
   simp only [zbn] at ho
   rw [← ho] at hK
   simp [zpz, hl]
   refine ⟨⟨rfl, rfl⟩, ?_⟩
   have := zcm hs hK []
   simpa using this
theorem zGw {data : List Dat} (hk : zaP data) (h8 : ∀ D ∈ data, D.cons.length ≤ 8) : ∀ (m : Nat) (v : IT), v.nodes ≤ m → v.nodes ≤ 900000 → zhn data v := by
 intro m
 induction m with
 | zero => intro v h; have := v.nodes_pos; omega
 | succ m ih =>
  intro v hv hb t ht H K hK
  obtain ⟨n, ks⟩ := v
  obtain ⟨tk, tn, tks⟩ := t
  have hnl : IT.nodesL ks + 1 ≤ 900000 := by simpa [IT.nodes] using hb
  have hll := IT.len_le ks
  have hkids : ∀ v ∈ ks, zhn data v := fun v hvm => by
   obtain ⟨i, hi, rfl⟩ := List.getElem_of_mem hvm
   have := IT.kid_lt (n := n) hi
   exact ih _ (by omega) (by omega)
  refine ACalls.out (zGu fun hs => ?_)
  rw [zAg] at hK
  by_cases h6 : tk = 6
  ·subst h6
   by_cases hn : n = 0
   ·subst hn
    simp [zcK, VT.cs, IT.cs, Nat.add_assoc]
    have htk : ∀ t ∈ tks, t.nodes ≤ 1000 := fun t htm => by
     obtain ⟨i, hi, rfl⟩ := List.getElem_of_mem htm
     have := VT.kid_lt (k := 6) (n := tn) hi
     omega
    refine zwH h8 ks (by omega) hkids tks htk _ _ ?_
    simp
    refine ⟨⟨rfl, rfl⟩, ?_⟩
    exact zcm hs (by simpa [zb8] using hK) _
   ·have : (n != 0) = true := by simp [bne, hn]
    simp [zcK, VT.cs, IT.cs, Nat.add_assoc, this]
    simp [hn] at hK
    exact ⟨⟨rfl, rfl⟩, zcm hs hK _⟩
  have h6' : (tk == 6) = false := by simp [h6]
  rw [if_neg h6] at hK
  by_cases h7 : tk = 7
  ·subst h7
   simp only [if_true] at hK
   by_cases g1 : 0 ≤ n
   ·by_cases g2 : n ≤ 6
    ·by_cases g3 : ks.length = 0
     ·simp [zcK, VT.cs, IT.cs, Nat.add_assoc, g1, g2, g3]
      simp [g1, g2, g3] at hK
      exact ⟨⟨rfl, rfl⟩, zcm hs hK _⟩
     ·have g3' : ((ks.length : Int) == 0) = false := by simp; exact fun h => g3 (by simp [h])
      simp [zcK, VT.cs, IT.cs, Nat.add_assoc, g1, g2, g3, g3']
      simp [g1, g2, g3] at hK
      exact ⟨⟨rfl, rfl⟩, zcm hs hK _⟩
    ·simp [zcK, VT.cs, IT.cs, Nat.add_assoc, g1, g2]
     simp [g1, g2] at hK
     exact ⟨⟨rfl, rfl⟩, zcm hs hK _⟩
   ·simp [zcK, VT.cs, IT.cs, Nat.add_assoc, g1]
    simp [g1] at hK
    exact ⟨⟨rfl, rfl⟩, zcm hs hK _⟩
  have h7' : (tk == 7) = false := by simp [h7]
  rw [if_neg h7] at hK
  by_cases h5 : tk = 5
  case neg =>
   have h5' : (tk == 5) = false := by simp [h5]
   rw [if_neg h5] at hK
   by_cases g1 : n = 0
   ·by_cases g2 : ks.length = 0
    ·simp [zcK, VT.cs, IT.cs, Nat.add_assoc, h6', h7', h5', g1, g2, zae]
     simp [g1, g2] at hK
     exact ⟨⟨rfl, rfl⟩, zcm hs hK _⟩
    ·have g2' : ((ks.length : Int) == 0) = false := by simp; exact fun h => g2 (by simp [h])
     simp [zcK, VT.cs, IT.cs, Nat.add_assoc, h6', h7', h5', g1, g2, g2', zae]
     simp [g1, g2] at hK
     exact ⟨⟨rfl, rfl⟩, zcm hs hK _⟩
   ·have g1' : (n == 0) = false := by simp [g1]
    simp [zcK, VT.cs, IT.cs, Nat.add_assoc, h6', h7', h5', g1, g1', zae]
    simp [g1] at hK
    exact ⟨⟨rfl, rfl⟩, zcm hs hK _⟩
  subst h5
  simp only [if_true] at hK
  by_cases hn : n = 0
  case neg =>
   have : (n != 0) = true := by simp [bne, hn]
   simp [zcK, VT.cs, IT.cs, Nat.add_assoc, this]
   simp [hn] at hK
   exact ⟨⟨rfl, rfl⟩, zcm hs hK _⟩
  subst hn
  simp only [if_true] at hK
  simp [zcK, VT.cs, IT.cs, Nat.add_assoc]
  have hT : (VT.mk 5 tn tks).nodes ≤ 1000 := ht
  have hT' : (VT.mk 5 tn tks).cs = [.int .i64 5, .int .i64 tn, .sl (VT.css tks) .none] := rfl
  generalize hTg : VT.mk 5 tn tks = T at *
  have hsc2 : HSc (H ++ [.cells [.int .i64 5, .int .i64 tn, .sl (VT.css tks) .none], .cells [.int .i64 0, .sl (IT.css ks) .none]]) := hs.append (by simp [AB.sc, AV.scA, AV.scB])
  have hF : zch data ks T 0 = (0, false) → ∀ J, Out H.length K (.tup [.int .i64 0, .bool false]) (H ++ J) := fun h J => zcm hs (by rw [h] at hK; exact hK) J
  refine zGs (Inv := fun q t8 t55 H' => ∃ (i : Nat) (a : Int), i ≤ ks.length ∧ q = ks.length - i ∧ t55 = .int .i64 i ∧ t8 = .int .i64 a ∧ 0 ≤ a ∧ a ≤ 6 ∧ zch data (ks.drop i) T a = zch data ks T 0 ∧
   H' = H ++ [.cells [.int .i64 5, .int .i64 tn, .sl (VT.css tks) .none], .cells [.int .i64 0, .sl (IT.css ks) .none]]) ks.length ?_ ?_
  ·intro _; exact ⟨0, 0, by omega, by omega, rfl, rfl, by omega, by omega, by simp, rfl⟩
  ·rintro q t8 t55 H' ⟨i, a, hi, rfl, rfl, rfl, ha0, ha6, ho, rfl⟩ hsc' hlen hsF Kb hKb
   by_cases hlt : i < ks.length
   ·rw [List.drop_eq_getElem_cons hlt] at ho
    have hkn := IT.kid_lt (n := 0) hlt
    obtain ⟨c, es, hx⟩ : ∃ c es, ks[i] = IT.mk c es := by cases h : ks[i] with | mk a b => exact ⟨a, b, rfl⟩
    rw [hx] at ho hkn
    have hesl := IT.len_le es
    have hen : IT.nodesL es + 1 ≤ 900000 := by
     have : (IT.mk c es).nodes = IT.nodesL es + 1 := by simp [IT.nodes]
     have : (IT.mk 0 ks).nodes = IT.nodesL ks + 1 := by simp [IT.nodes]
     omega
    have hes : ∀ v ∈ es, zhn data v := fun v hvm => by
     obtain ⟨j, hj, rfl⟩ := List.getElem_of_mem hvm
     have := IT.kid_lt (n := c) hj
     exact ih _ (by omega) (by omega)
    simp only [zch] at ho
    simp [zoy, hlt, hx, IT.cs, Nat.add_assoc]
    rw [← hT']
    refine zwK data hk T hT c _ _ ?_
    cases hp : zan data T c with
    | none =>
     rw [hp] at ho
     simp only at ho
     simp [zbL]
     exact ⟨⟨rfl, rfl⟩, hF ho.symm _⟩
    | some ps =>
     rw [hp] at ho
     simp only at ho
     simp [zbL]
     have hpn : ∀ t ∈ ps, t.nodes ≤ 1000 := zs3 hp
     refine zwH h8 es (by omega) hes ps hpn _ _ ?_
     have htb : 0 ≤ (zb8 data es ps).1 ∧ (zb8 data es ps).1 ≤ 6 * es.length := by
      unfold zb8
      split
      ·have := zsz h8 es ps 0 (by omega); omega
      ·simp; omega
     have ho' : (if (zb8 data es ps).2 && decide (a + (1 + (zb8 data es ps).1) ≤ 6) then zch data (ks.drop (i + 1)) T (a + (1 + (zb8 data es ps).1)) else (0, false)) = zch data ks T 0 := by
      rw [← ho]
      unfold zb8
      by_cases hl : ps.length = es.length
      ·simp only [hl, if_true]
      ·simp only [hl, if_false]; rfl
     generalize zb8 data es ps = w at *
     obtain ⟨w1, w2⟩ := w
     simp only at htb ho'
     simp
     have q1 : IntKind.i64.wrap (1 + w1) = 1 + w1 := zam (by omega) (by omega)
     have q2 : IntKind.i64.wrap (a + (1 + w1)) = a + (1 + w1) := zam (by omega) (by omega)
     rw [q1, q2]
     cases w2 with
     | false =>
      simp at ho' ⊢
      exact ⟨⟨rfl, rfl⟩, hF ho'.symm _⟩
     | true =>
      by_cases hh : a + (1 + w1) ≤ 6
      ·have hh' : ¬ (6 : Int) < a + (1 + w1) := by omega
       simp [hh] at ho'
       simp [hh']
       rw [zam (by omega) (by omega)]
       refine hKb _ _ ⟨ks.length - (i + 1), by omega, Back.at (J := [.cells [.int .i64 c, .sl (IT.css es) .none]]) (H2 := H ++ [.cells [.int .i64 5, .int .i64 tn, .sl (VT.css tks) .none], .cells [.int .i64 0, .sl (IT.css ks) .none]]) (by simp [hT']) (by simp) hsc2 ?_ ⟨_, _, rfl, i + 1, _, by omega, rfl, by simp, rfl, by omega, by omega, ho', rfl⟩⟩
       simp [zjF, AV.sc, AV.scV, AV.scA, AV.scB]
      ·have hh' : (6 : Int) < a + (1 + w1) := by omega
       simp [hh] at ho'
       simp [hh']
       exact ⟨⟨rfl, rfl⟩, hF ho'.symm _⟩
   ·obtain rfl : i = ks.length := by omega
    rw [List.drop_length] at ho
    simp only [zch] at ho
    rw [← ho] at hK
    simp [zoy]
    exact ⟨⟨rfl, rfl⟩, zcm hs hK _⟩
theorem zGp : ∀ (m : Nat) (v : IT), v.nodes ≤ m → ∀ (left : Int), left ≤ 1000000 → -1 ≤ left → ∀ (H : zaa) (id : Nat), H[id]? = some (.cells [.int .i64 left]) → ∀ (K : AV → zaa → Prop),
  ((v.nodes : Int) ≤ left → K (.bool true) (H.set id (.cells [.int .i64 (left - v.nodes)]))) → (¬ (v.nodes : Int) ≤ left → ∀ l', K (.bool false) (H.set id (.cells [.int .i64 l']))) →
  ACalls tP zh1 [.agg v.cs, .ptr id 0] H K := by
 intro m
 induction m with
 | zero => intro v h; have := v.nodes_pos; omega
 | succ m ih =>
  intro v hv left hl1 hl0 H id hid K hK hF
  obtain ⟨n, ks⟩ := v
  have hlt := zeU hid
  have hnn : (IT.mk n ks).nodes = IT.nodesL ks + 1 := by simp [IT.nodes]
  refine ACalls.out (zGn fun hs => ?_)
  have hget : (H ++ [AB.cells [.int .i64 n, .sl (IT.css ks) .none]])[id]? = some (.cells [.int .i64 left]) := zcP hid
  have bad : (¬ ((IT.mk n ks).nodes : Int) ≤ left) → ∀ l' H', H' = H.set id (.cells [.int .i64 l']) ++ [.cells [.int .i64 n, .sl (IT.css ks) .none]] → Out H.length K (.bool false) H' := by
   intro h l' H' he
   exact Out.bool he (by simp) (hs.set rfl) (hF h l')
  simp [zvJ, IT.cs, hget, AV.known]
  rw [zam (by omega) (by omega), zdl _ hid, zcP (zcH _ hid)]
  by_cases h0 : left - 1 < 0
  ·simp [h0]
   exact bad (by omega) _ _ rfl
  ·simp [h0]
   refine zGl (Inv := fun q t5 H' => ∃ i : Nat, i ≤ ks.length ∧ q = ks.length - i ∧ t5 = .int .i64 i ∧ ((IT.nodesL (ks.take i) : Int) + 1 ≤ left) ∧ H' = H.set id (.cells [.int .i64 (left - 1 - IT.nodesL (ks.take i))]) ++ [.cells [.int .i64 n, .sl (IT.css ks) .none]]) ks.length ?_ ?_
   ·intro _; exact ⟨0, by omega, by omega, rfl, by simp [IT.nodesL]; omega, by simp [IT.nodesL]⟩
   ·rintro q t5 H' ⟨i, hi, rfl, rfl, hb, rfl⟩ hsc hlen hsF Kb hKb
    by_cases hil : i < ks.length
    ·have hki := IT.kid_lt (n := n) hil
     have h1 := IT.nodesL_take hil
     have h2 := IT.nodesL_take_le ks (i + 1)
     have hll := IT.len_le (ks.take i)
     simp only [List.length_take] at hll
     have hge : (H.set id (.cells [.int .i64 (left - 1 - IT.nodesL (ks.take i))]) ++ [AB.cells [.int .i64 n, .sl (IT.css ks) .none]])[id]? = some (.cells [.int .i64 (left - 1 - IT.nodesL (ks.take i))]) := zcP (zcH _ hid)
     simp [zow, hil]
     refine ih ks[i] (by omega) (left - 1 - IT.nodesL (ks.take i)) (by omega) (by omega) _ id hge _ ?_ ?_
     ·intro hle
      rw [zdl _ (zcH _ hid), List.set_set]
      simp
      rw [zam (by omega) (by omega)]
      refine hKb _ _ ⟨ks.length - (i + 1), by omega, Back.here (by simp) ((hs.set rfl).snoc rfl) ?_ ⟨_, rfl, i + 1, by omega, rfl, by simp, by omega, ?_⟩⟩
      ·simp [zjD, AV.sc, AV.scV, AV.scA, AV.scB]; omega
      ·rw [h1]; congr 5; omega
     ·intro hle l'
      rw [zdl _ (zcH _ hid), List.set_set]
      simp
      exact bad (by omega) _ _ rfl
    ·obtain rfl : i = ks.length := by omega
     rw [List.take_length] at hb ⊢
     simp [zow]
     refine Out.bool rfl (by simp) (hs.set rfl) ?_
     have := hK (by omega)
     rw [hnn] at this
     rw [show left - 1 - (IT.nodesL ks : Int) = left - ((IT.nodesL ks + 1 : Nat) : Int) by omega]
     exact this
theorem zLZ (v : IT) (H : zaa) (K : Kt) (hK : ∀ b, (b = true → v.nodes ≤ 40) → K (.bool b) H) : ACalls tP zmD [.agg v.cs] H K := by
 refine ACalls.out (zLY fun hs => ?_)
 simp [zq9, AV.known]
 refine zGp _ v (Nat.le_refl _) 40 (by omega) (by omega) _ (H.length + 1) (by simp) _ ?_ ?_
 ·intro h
  exact Out.bool (J := [_, _]) (by simp; exact ⟨rfl, rfl⟩) (Nat.le_refl _) hs (hK true fun _ => by omega)
 ·intro h l'
  exact Out.bool (J := [_, _]) (by simp; exact ⟨rfl, rfl⟩) (Nat.le_refl _) hs (hK false fun h => by cases h)
section
variable {data : List Dat} (hD : DOk data)
end
theorem zzZ {data : List Dat} (h : zaP data) : zfF data := fun D hD => by
 obtain ⟨_, h2⟩ := h
 obtain ⟨_, h3, h4⟩ := h2 D hD
 refine ⟨by omega, fun c hc => ?_⟩
 obtain ⟨_, h5, h6⟩ := h4 c hc
 exact ⟨by omega, fun x hx => by have := h6 x hx; omega⟩
theorem zrN {data : List Dat} : ∀ {l : List Dat} {d : Nat}, zcf data l d = true → ∀ D ∈ l, D.cons.length ≤ 8
 | [], _, _, D, h => by cases h
 | E :: l, d, h, D, hD => by
  simp only [zcf, Bool.and_eq_true] at h
  rcases List.mem_cons.1 hD with rfl | hD
  ·have := h.1
   simp only [zb1, Bool.and_eq_true, decide_eq_true_eq] at this
   exact this.1.2
  ·exact zrN h.2 D hD
theorem zlI {data : List Dat} {t : VT} (h : zbm data t = true) : ∀ D ∈ data, D.cons.length ≤ 8 := by
 simp only [zbm, zbd, Bool.and_eq_true] at h
 exact zrN h.1.1.1.2
def zb2 (data : List Dat) (t : VT) (v : IT) : Int := if zbm data t then rdV data v t else -1
theorem zjr (data : List Dat) (hk : zaP data) (t : VT) (ht : t.nodes ≤ 1000000) (H : zaa) (K : Kt) (hK : K (.bool (zbm data t)) H) : ACalls tP zeZ [.sl (data.map Dat.cs) .none, .agg t.cs] H K := by
 refine ACalls.out (zFv fun hs => ?_)
 obtain ⟨x, y, z, hvx, hx, hy, hz⟩ := zaX t
 simp [zvi, zau, zaH, hvx, Nat.add_assoc]
 refine zHh data (zzZ hk) (by have := hk.1; omega) ?_
 unfold zbm at hK
 cases hd : zbd data with
 | false =>
  rw [hd] at hK
  simp
  exact Out.bool rfl (Nat.le_refl _) hs hK
 | true =>
  rw [hd, Bool.true_and] at hK
  simp
  rw [← hvx]
  refine zv1 data 0 t (by omega) _ _ ?_
  exact Out.bool rfl (Nat.le_refl _) hs hK
theorem zFT (data : List Dat) (hk : zaP data) (t : VT) (ht : t.nodes ≤ 1000000) (H : zaa) (K : Kt) (hK : K (.bool (zbm data t)) H) : ACalls tP zmi [.sl (data.map Dat.cs) .none, .agg t.cs] H K := by
 refine ACalls.out (zFS fun hs => ?_)
 obtain ⟨x, y, z, hvx, hx, hy, hz⟩ := zaX t
 simp [zvr, hvx, Nat.add_assoc]
 refine zHW data hk _ _ fun b hb => ?_
 have hbd : b = zbd data := by rw [Bool.eq_iff_iff, hb, zzm]
 subst hbd
 unfold zbm at hK
 cases hd : zbd data with
 | false =>
  rw [hd] at hK
  simp
  exact Out.bool rfl (Nat.le_refl _) hs hK
 | true =>
  rw [hd, Bool.true_and] at hK
  simp
  rw [← hvx]
  refine zwy data (by have := hk.1; omega) 0 t (by omega) _ _ ?_
  exact Out.bool rfl (Nat.le_refl _) hs hK
theorem zgK (data : List Dat) (hk : zaP data) (t : VT) (ht : t.nodes ≤ 1000) (v : IT) (hv : v.nodes ≤ 900000) (H : zaa) (K : Kt) (hK : K (.int .i64 (zb2 data t v)) H) : ACalls tP zdS [.sl (data.map Dat.cs) .none, .agg t.cs, .agg v.cs] H K := by
 refine ACalls.out (zDo fun hs => ?_)
 have hO : ∀ r J, zb2 data t v = r → Out H.length K (.int .i64 r) (H ++ J) := fun r J h => by subst h; exact Out.int rfl (Nat.le_refl _) hs hK
 obtain ⟨x, y, z, hvx, hx, hy, hz⟩ := zaX t
 obtain ⟨x2, y2, hvx2, hx2, hy2⟩ := it2 v
 simp [zuy, hvx, hvx2, Nat.add_assoc]
 rw [← hvx]
 refine zjr data hk t (by omega) _ _ ?_
 cases hf : zbm data t with
 | false =>
  simp
  exact hO _ _ (by simp [zb2, hf])
 | true =>
  have h8 := zlI hf
  obtain ⟨g1, g2⟩ := zlk h8 v t
  simp [Nat.add_assoc]
  rw [← hvx2]
  refine zGw hk h8 _ v (Nat.le_refl _) hv t ht _ _ ?_
  cases hb : (zbN data v t).2 with
  | false =>
   simp
   exact hO _ _ (by simp [zb2, hf, g2 hb])
  | true =>
   simp
   exact hO _ _ (by simp [zb2, hf, (g1 hb).1])
theorem zGf (data : List Dat) (hk : zaP data) (t : VT) (ht : t.nodes ≤ 1000) (v : IT) (hv : v.nodes ≤ 900000) (H : zaa) (K : Kt) (hK : K (.bool (decide (0 ≤ zb2 data t v))) H) : ACalls tP zgh [.sl (data.map Dat.cs) .none, .agg t.cs, .agg v.cs] H K := by
 refine ACalls.out (zGe fun hs => ?_)
 obtain ⟨x, y, z, hvx, hx, hy, hz⟩ := zaX t
 obtain ⟨x2, y2, hvx2, hx2, hy2⟩ := it2 v
 simp [zvH, hvx, hvx2, Nat.add_assoc]
 rw [← hvx, ← hvx2]
 refine zgK data hk t ht v hv _ _ ?_
 simp
 exact Out.bool rfl (Nat.le_refl _) hs (by simpa using hK)
theorem zmL (l : List IT) : plain (l.flatMap IT.cs) = some (l.map IT.cs).flatten := by
 induction l with
 | nil => rfl
 | cons x l ih =>
  rw [List.flatMap_cons, List.map_cons, List.flatten_cons]
  exact zmK (zta x) ih
theorem zlM (l : List IT) : (l.map IT.cs).flatten = l.flatMap IT.cs := by rw [List.flatMap_def]
theorem ztH {H : zaa} {id : Nat} {b : AB} (h : H[id]? = some b) : H.set id b = H := by
 refine List.ext_getElem? fun i => ?_
 rw [List.getElem?_set]
 split
 ·rename_i hi; subst hi; rw [if_pos (List.getElem?_eq_some_iff.1 h).1, h]
 ·rfl
theorem zBL {H : zaa} {b : Nat} {l : List IT} (hb : H[b]? = some (.vec zak 2 l.length (l.flatMap IT.cs))) (hn : l.length ≤ 1000000) (hnod : l.Nodup) (hnd : ∀ x ∈ l, x.nodes ≤ 1000000) (K : Kt)
  (hK : K (.tup []) (H.set b (.vec zak 2 l.length ((zaW l).flatMap IT.cs)))) : ACalls tP zmh [.ov b l.length, .fn zdT []] H K := by
 have hgd : ∀ i, i < l.length → (l.map IT.cs).getD i [] = (l.getD i (.mk 0 [])).cs := fun i hi => by simp [List.getD_eq_getElem?_getD, hi]
 have hgm : ∀ i, i < l.length → l.getD i (.mk 0 []) ∈ l := fun i hi => by simp [List.getD_eq_getElem?_getD, hi]
 refine ACalls.sortFuncK zuw (k := 2) (by omega) Tryz.isAgg35 Tryz.sizeOf35 hb (by omega) (l.map IT.cs) (fun i j => IT.cmp (l.getD i (.mk 0 [])) (l.getD j (.mk 0 []))) (zmL l) (by simp) (fun r hr => by
  obtain ⟨x, _, rfl⟩ := List.mem_map.1 hr; simp) (fun args w => rfl) (fun i j hi hj => ?_) (fun i hi => ?_) (fun i j k hi hj hk h1 h2 => ?_) (fun i j k hi hj hk h1 h2 => ?_) (fun p hp hsort => ?_)
 ·rw [hgd i hi, hgd j hj]
  exact zsg _ _ _ (Nat.le_refl _) (hnd _ (hgm i hi)) _ _ rfl
 ·rw [zfP]; omega
 ·exact zlu h1 h2
 ·have := IT.cmp_tri (l.getD k (.mk 0 [])) (l.getD j (.mk 0 [])) (l.getD i (.mk 0 []))
  have a1 := IT.cmp_anti (l.getD i (.mk 0 [])) (l.getD j (.mk 0 []))
  have a2 := IT.cmp_anti (l.getD j (.mk 0 [])) (l.getD k (.mk 0 []))
  have a3 := IT.cmp_anti (l.getD i (.mk 0 [])) (l.getD k (.mk 0 []))
  unfold Tri at this
  omega
 ·have hpm : ∀ i ∈ p, i < l.length := fun i hi => by simpa using hp.subset hi
  have hl2 : (List.range l.length).map (fun i => l.getD i (.mk 0 [])) = l := List.ext_getElem (by simp) fun i h1 h2 => by simp [List.getD_eq_getElem?_getD, h2]
  have hperm : (p.map fun i => l.getD i (.mk 0 [])).Perm l := by
   have h1 := hp.map fun i => l.getD i (IT.mk 0 [])
   rwa [hl2] at h1
  have hasc : zc2 (p.map fun i => l.getD i (.mk 0 [])) := by
   refine zru (hperm.nodup_iff.2 hnod) ?_
   rw [List.pairwise_iff_getElem]
   intro a b ha hb hab
   simp only [List.getElem_map]
   exact hsort a b (by simpa using ha) (by simpa using hb) hab
  have hu := zm0 hnod hasc fun x => hperm.mem_iff
  have hfl : (p.map fun i => (l.map IT.cs).getD i []).flatten = (zaW l).flatMap IT.cs := by
   rw [← hu, ← zlM, List.map_map]
   congr 1
   refine List.map_congr_left fun i hi => ?_
   exact hgd i (hpm i hi)
  rw [hfl]
  exact hK
theorem zBK (H : zaa) (f : Nat) (K : Kt) (hK : K (.tup []) H) : ACalls tP zmh [.snil, .fn f []] H K := by
 rintro B w G ⟨vs⟩ hR hv
 match vs, hv with
 | [v1, v2], ⟨h1, h2, _⟩ =>
 have h1 : v1 = .slice none 0 0 := h1
 subst h1
 refine (Go.Proofs.AnyF.slices_SortFunc_none (P := tP) (ρ := zux) zuw none 0 v2 w).mono ?_
 rintro e' w' ⟨rfl, rfl⟩
 exact ⟨_, .tup [], H, G, rfl, Ext.refl _ _ _, hR, ⟨#[], rfl, trivial⟩, hK⟩
end Go.Proofs.YtddlhljflggenaaGreatDoor
