import Derived.Test.YtddlhljflggenaaGreatDoorKL1
import Derived.Test.YtddlhljflggenaaGreatDoorCT
import Derived.Test.YtddlhljflggenaaGreatDoorKY7
set_option linter.unusedSimpArgs false
set_option linter.unusedVariables false
namespace Go.Abs
mutual
def dV (P : VT → Int → Option (List VT)) : IT → VT → Option Nat
 | .mk n ks, t =>
  if t.kind = 6 then (if n = 0 then dA P ks t.kids else none)
  else if t.kind = 7 then (if 0 ≤ n ∧ ks = [] then some n.toNat else none)
  else if t.kind = 5 then (if n = 0 then dE P ks t else none)
  else (if n = 0 ∧ ks = [] then some 0 else none)
def dA (P : VT → Int → Option (List VT)) : List IT → List VT → Option Nat
 | [], ts => if ts = [] then some 0 else none
 | v :: vs, ts => match ts with
  | [] => none
  | t :: ts => match dV P v t, dA P vs ts with
   | some a, some b => some (a + b)
   | _, _ => none
def dE (P : VT → Int → Option (List VT)) : List IT → VT → Option Nat
 | [], _ => some 0
 | .mk c ks :: es, t => match P t c with
  | none => none
  | some ps => match dA P ks ps, dE P es t with
   | some a, some b => some (1 + a + b)
   | _, _ => none
end
section
variable {P : VT → Int → Option (List VT)}
theorem dA_cons {v : IT} {vs : List IT} {t : VT} {ts : List VT} {m : Nat} : dA P (v :: vs) (t :: ts) = some m ↔ ∃ a b, dV P v t = some a ∧ dA P vs ts = some b ∧ m = a + b := by
 simp only [dA]
 cases h1 : dV P v t <;> cases h2 : dA P vs ts <;> simp
 exact ⟨fun h => h.symm, fun h => h.symm⟩
theorem dA_nil {r : List IT} {m : Nat} : dA P r [] = some m ↔ r = [] ∧ m = 0 := by
 cases r with
 | nil => simp [dA]; exact ⟨fun h => h.symm, fun h => h.symm⟩
 | cons v vs => simp [dA]
theorem dE_cons {c : Int} {ks es : List IT} {t : VT} {m : Nat} : dE P (.mk c ks :: es) t = some m ↔ ∃ ps a b, P t c = some ps ∧ dA P ks ps = some a ∧ dE P es t = some b ∧ m = 1 + a + b := by
 simp only [dE]
 cases h0 : P t c with
 | none => simp
 | some ps =>
  simp only [Option.some.injEq]
  cases h1 : dA P ks ps <;> cases h2 : dE P es t <;> simp [h1, h2]
  exact ⟨fun h => h.symm, fun h => h.symm⟩
theorem zeO : ∀ {r r' : List IT} {ts ts' : List VT} {m : Nat}, r.length = ts.length → (dA P (r ++ r') (ts ++ ts') = some m ↔ ∃ a b, dA P r ts = some a ∧ dA P r' ts' = some b ∧ m = a + b)
 | [], r', [], ts', m, _ => by
  simp only [List.nil_append]
  constructor
  ·intro h; exact ⟨0, m, by simp [dA], h, by omega⟩
  ·rintro ⟨a, b, h1, h2, rfl⟩
   have := (dA_nil.1 h1).2
   subst this; simpa using h2
 | [], _, _ :: _, _, _, h => by simp at h
 | _ :: _, _, [], _, _, h => by simp at h
 | v :: r, r', t :: ts, ts', m, h => by
  simp only [List.cons_append]
  rw [dA_cons]
  constructor
  ·rintro ⟨a, b, h1, h2, rfl⟩
   obtain ⟨x, y, h3, h4, rfl⟩ := (zeO (by simpa using h)).1 h2
   exact ⟨a + x, y, dA_cons.2 ⟨a, x, h1, h3, rfl⟩, h4, by omega⟩
  ·rintro ⟨a, b, h1, h2, rfl⟩
   obtain ⟨x, y, h3, h4, rfl⟩ := dA_cons.1 h1
   exact ⟨x, y + b, h3, (zeO (by simpa using h)).2 ⟨y, b, h4, h2, rfl⟩, by omega⟩
theorem zdM : ∀ {r : List IT} {ts : List VT} {m : Nat}, dA P r ts = some m → r.length = ts.length
 | [], ts, m, h => by
  simp only [dA] at h
  split at h
  ·rename_i e; simp [e]
  ·cases h
 | v :: r, [], m, h => by simp [dA] at h
 | v :: r, t :: ts, m, h => by
  obtain ⟨_, _, _, h2, _⟩ := dA_cons.1 h
  simpa using zdM h2
theorem zzk {x : List IT} {ts : List VT} {t : VT} {m : Nat} : dA P x (ts ++ [t]) = some m ↔ ∃ j k row i, j + k = m ∧ dA P row ts = some j ∧ dV P i t = some k ∧ x = row ++ [i] := by
 constructor
 ·intro h
  have hl := zdM h
  have hne : x ≠ [] := by intro e; subst e; simp at hl
  have hx := (List.dropLast_concat_getLast hne).symm
  rw [hx] at h
  obtain ⟨a, b, h1, h2, rfl⟩ := (zeO (by simp [hl])).1 h
  obtain ⟨a', b', h3, h4, rfl⟩ := dA_cons.1 h2
  obtain ⟨_, rfl⟩ := dA_nil.1 h4
  exact ⟨a, a', _, _, by omega, h1, h3, hx⟩
 ·rintro ⟨j, k, row, i, rfl, h1, h2, rfl⟩
  exact (zeO (zdM h1)).2 ⟨j, k, h1, dA_cons.2 ⟨k, 0, h2, dA_nil.2 ⟨rfl, rfl⟩, rfl⟩, rfl⟩
mutual
def zV : VT → IT
 | .mk k n ks => if k = 6 then .mk 0 (zL ks) else .mk 0 []
def zL : List VT → List IT
 | [] => []
 | t :: ts => zV t :: zL ts
end
mutual
theorem zfg : ∀ t : VT, dV P (zV t) t = some 0
 | .mk k n ks => by
  have := zd2 ks
  by_cases h6 : k = 6
  ·subst h6; simp [zV, dV, VT.kind, VT.kids, this]
  ·by_cases h7 : k = 7
   ·subst h7; simp [zV, dV, VT.kind]
   ·by_cases h5 : k = 5
    ·subst h5; simp [zV, dV, VT.kind, dE]
    ·simp [zV, dV, VT.kind, h6, h7, h5]
theorem zd2 : ∀ ts : List VT, dA P (zL ts) ts = some 0
 | [] => by simp [zL, dA]
 | t :: ts => by rw [zL, dA_cons]; exact ⟨0, 0, zfg t, zd2 ts, rfl⟩
end
def WitV (P : VT → Int → Option (List VT)) (d : Nat) (t : VT) : Prop := ∃ M : List IT, M.Nodup ∧ 500 < M.length ∧ ∀ v ∈ M, ∃ k, k ≤ d ∧ dV P v t = some k
def WitA (P : VT → Int → Option (List VT)) (d : Nat) (ts : List VT) : Prop := ∃ M : List (List IT), M.Nodup ∧ 500 < M.length ∧ ∀ v ∈ M, ∃ k, k ≤ d ∧ dA P v ts = some k
theorem WitV.mono {d d' : Nat} {t : VT} (h : WitV P d t) (hd : d ≤ d') : WitV P d' t := by
 obtain ⟨M, h1, h2, h3⟩ := h
 exact ⟨M, h1, h2, fun v hv => by obtain ⟨k, h4, h5⟩ := h3 v hv; exact ⟨k, by omega, h5⟩⟩
theorem WitA.mono {d d' : Nat} {t : List VT} (h : WitA P d t) (hd : d ≤ d') : WitA P d' t := by
 obtain ⟨M, h1, h2, h3⟩ := h
 exact ⟨M, h1, h2, fun v hv => by obtain ⟨k, h4, h5⟩ := h3 v hv; exact ⟨k, by omega, h5⟩⟩
theorem zcR {α β : Type} {f : α → β} (hf : ∀ a b, f a = f b → a = b) {l : List α} (h : l.Nodup) : (l.map f).Nodup := by
 rw [List.Nodup, List.pairwise_map]
 exact List.Pairwise.imp (fun hab e => hab (hf _ _ e)) h
theorem WitA.append {d : Nat} {ts : List VT} (h : WitA P d ts) (us : List VT) : WitA P d (ts ++ us) := by
 obtain ⟨M, h1, h2, h3⟩ := h
 refine ⟨M.map (· ++ zL us), zcR (fun a b e => List.append_cancel_right e) h1, by simpa using h2, fun v hv => ?_⟩
 obtain ⟨r, hr, rfl⟩ := List.mem_map.1 hv
 obtain ⟨k, h4, h5⟩ := h3 r hr
 exact ⟨k, h4, (zeO (zdM h5)).2 ⟨k, 0, h5, zd2 us, rfl⟩⟩
theorem WitV.toA {d : Nat} {t : VT} (h : WitV P d t) (ts us : List VT) : WitA P d (ts ++ t :: us) := by
 obtain ⟨M, h1, h2, h3⟩ := h
 refine ⟨M.map fun v => zL ts ++ v :: zL us, zcR (fun a b e => ?_) h1, by simpa using h2, fun v hv => ?_⟩
 ·have := List.append_cancel_left e
  simp at this
  exact this
 obtain ⟨r, hr, rfl⟩ := List.mem_map.1 hv
 obtain ⟨k, h4, h5⟩ := h3 r hr
 exact ⟨k, h4, (zeO (zdM (zd2 (P := P) ts))).2 ⟨0, k, zd2 ts, dA_cons.2 ⟨k, 0, h5, zd2 us, rfl⟩, by omega⟩⟩
structure Lst {α : Type} (D : α → Option Nat) (d : Nat) (l : List (List α)) : Prop where
 len : l.length = d + 1
 mem : ∀ k, k ≤ d → ∀ x, x ∈ l.getD k [] ↔ D x = some k
 nodup : ∀ k, k ≤ d → (l.getD k []).Nodup
theorem Lst.flat {α : Type} {D : α → Option Nat} {d : Nat} {l : List (List α)} (h : Lst D d l) : l.flatten.Nodup ∧ ∀ x ∈ l.flatten, ∃ k, k ≤ d ∧ D x = some k := by
 have hg : ∀ (i : Nat) (hi : i < l.length), l.getD i [] = l[i] := fun i hi => by simp [List.getD_eq_getElem?_getD, hi]
 refine ⟨?_, fun x hx => ?_⟩
 ·rw [List.Nodup, List.pairwise_flatten]
  refine ⟨fun r hr => ?_, ?_⟩
  ·obtain ⟨i, hi, rfl⟩ := List.mem_iff_getElem.1 hr
   have := h.nodup i (by have := h.len; omega)
   rwa [hg i hi] at this
  ·rw [List.pairwise_iff_getElem]
   intro i j hi hj hij x hx y hy e
   subst e
   have hl := h.len
   rw [← hg i hi, h.mem i (by omega)] at hx
   rw [← hg j hj, h.mem j (by omega), hx] at hy
   injection hy with hy
   omega
 ·obtain ⟨r, hr, hx⟩ := List.mem_flatten.1 hx
  obtain ⟨i, hi, rfl⟩ := List.mem_iff_getElem.1 hr
  have hl := h.len
  rw [← hg i hi, h.mem i (by omega)] at hx
  exact ⟨i, by omega, hx⟩
theorem zrF {d m : Nat} {s : LL} {D : List IT → Option Nat} {E : IT → Option Nat} (hs : Lst E d s) (hm : m ≤ d) : ∀ (ls : LR) (j : Nat), j + ls.length ≤ d + 1 → (∀ k, k < ls.length → (ls.getD k []).Nodup ∧ ∀ x ∈ ls.getD k [], D x = some (j + k)) → (clR s m ls j).Nodup
 | [], j, _, _ => by simp [clR]
 | list :: ls, j, hj, h => by
  simp only [List.length_cons] at hj h
  rw [clR, List.nodup_append]
  have h0 := h 0 (by omega)
  simp only [List.getD_cons_zero, Nat.add_zero] at h0
  refine ⟨?_, zrF (D := D) hs hm ls (j + 1) (by omega) (fun k hk => ?_), ?_⟩
  ·split
   ·rw [List.Nodup, List.pairwise_flatMap]
    refine ⟨fun row _ => zcR (fun a b e => by simpa using e) (hs.nodup _ (by omega)), ?_⟩
    refine List.Pairwise.imp (fun hab x hx y hy e => ?_) h0.1
    obtain ⟨i, _, rfl⟩ := List.mem_map.1 hx
    obtain ⟨i', _, rfl⟩ := List.mem_map.1 hy
    exact hab (List.append_inj' e (by simp)).1
   ·simp
  ·have := h (k + 1) (by omega)
   simpa [List.getD_eq_getElem?_getD, Nat.add_assoc, Nat.add_comm 1 k] using this
  ·intro x hx y hy e
   subst e
   split at hx
   ·obtain ⟨row, h1, h2⟩ := List.mem_flatMap.1 hx
    obtain ⟨i, _, rfl⟩ := List.mem_map.1 h2
    obtain ⟨t, row', i', _, h4, _, h6⟩ := (zhy s m _ ls (j + 1)).1 hy
    have he := (List.append_inj' h6 (by simp)).1
    subst he
    have h7 := h0.2 _ h1
    have ht : t < ls.length := by
     by_cases ht : t < ls.length
     ·exact ht
     ·rw [List.getD_eq_getElem?_getD, List.getElem?_eq_none (by omega)] at h4; simp at h4
    have h8 := (h (t + 1) (by omega)).2 row (by simpa [List.getD_eq_getElem?_getD] using h4)
    rw [h7] at h8
    injection h8 with h8
    omega
   ·simp at hx
theorem zzX {d : Nat} {ts : List VT} {t : VT} {l : LR} {s : LL} (hl : Lst (fun r => dA P r ts) d l) (hs : Lst (fun v => dV P v t) d s) : Lst (fun r => dA P r (ts ++ [t])) d (jT s d l 0 (List.replicate (d + 1) [])) := by
 have hg : ∀ m, m ≤ d → (jT s d l 0 (List.replicate (d + 1) [])).getD m [] = clR s m l 0 := fun m hm => by
  rw [zlZ s d m hs.len hm l 0 _ (by have := hl.len; omega) (by simp)]
  simp [List.getD_eq_getElem?_getD, List.getElem?_replicate]
  split <;> rfl
 refine ⟨by simp, fun m hm x => ?_, fun m hm => ?_⟩
 ·rw [hg m hm, zhy, zzk]
  constructor
  ·rintro ⟨j, row, i, h1, h2, h3, h4⟩
   rw [Nat.zero_add] at h1 h3
   exact ⟨j, m - j, row, i, by omega, (hl.mem j (by omega) row).1 h2, (hs.mem _ (by omega) i).1 h3, h4⟩
  ·rintro ⟨j, k, row, i, h1, h2, h3, h4⟩
   refine ⟨j, row, i, by omega, (hl.mem j (by omega) row).2 h2, ?_, h4⟩
   rw [Nat.zero_add, show m - j = k by omega]
   exact (hs.mem k (by omega) i).2 h3
 ·rw [hg m hm]
  refine zrF (D := fun r => dA P r ts) hs hm l 0 (by have := hl.len; omega) fun k hk => ?_
  have hk' : k ≤ d := by have := hl.len; omega
  exact ⟨hl.nodup k hk', fun x hx => by rw [Nat.zero_add]; exact (hl.mem k hk' x).1 hx⟩
def zcM (P : VT → Int → Option (List VT)) (d : Nat) (t : VT) : Option LL → Prop
 | some l => Lst (fun v => dV P v t) d l ∧ zaq l ≤ 500
 | none => WitV P d t
def zqN (P : VT → Int → Option (List VT)) (d : Nat) (ts : List VT) : Option LR → Prop
 | some l => Lst (fun v => dA P v ts) d l ∧ zaq l ≤ 500
 | none => WitA P d ts
theorem zAf {d : Nat} {ts : List VT} {l : LR} (h : Lst (fun v => dA P v ts) d l) (ht : 500 < zaq l) : WitA P d ts :=
 ⟨l.flatten, h.flat.1, by rwa [← znd], h.flat.2⟩
end
def zcw (d : Nat) : List (Option LL) → LR → Option LR
 | [], l => some l
 | none :: _, _ => none
 | some s :: us, l => match jL s d l 0 (List.replicate (d + 1) []) 0 with
  | none => none
  | some (st, _) => zcw d us st
def zb5 (d : Nat) (us : List (Option LL)) : Option LR := zcw d us ([[]] :: List.replicate d [])
theorem ztr {P : VT → Int → Option (List VT)} {d : Nat} {U : VT → Option LL} : ∀ (us ts : List VT) (l : LR), (∀ t ∈ us, zcM P d t (U t)) → Lst (fun v => dA P v ts) d l → zaq l ≤ 500 → zqN P d (ts ++ us) (zcw d (us.map U) l)
 | [], ts, l, _, hl, ht => by simp only [List.map_nil, zcw, List.append_nil]; exact ⟨hl, ht⟩
 | u :: us, ts, l, hU, hl, ht => by
  have hu := hU u (by simp)
  simp only [List.map_cons]
  cases hs : U u with
  | none =>
   rw [hs] at hu
   exact WitV.toA hu ts us
  | some s =>
   rw [hs] at hu
   simp only [zcw]
   have hj := zhI s d hu.1.len l 0 (List.replicate (d + 1) []) (by have := hl.len; omega) (by simp) (by simp)
   simp only [ziE] at hj
   have hlst := zzX hl hu.1
   rw [hj]
   by_cases hb : 500 < zaq (jT s d l 0 (List.replicate (d + 1) []))
   ·rw [if_pos hb]
    have := (zAf hlst hb).append us
    rw [List.append_assoc] at this
    exact this
   ·rw [if_neg hb]
    have := ztr us (ts ++ [u]) _ (fun t ht => hU t (by simp [ht])) hlst (by omega)
    simpa using this
theorem ztp {P : VT → Int → Option (List VT)} {d : Nat} {U : VT → Option LL} (ts : List VT) (hU : ∀ t ∈ ts, zcM P d t (U t)) : zqN P d ts (zb5 d (ts.map U)) := by
 have h0 : Lst (fun v => dA P v []) d ([[]] :: List.replicate d []) := by
  refine ⟨by simp, fun k hk x => ?_, fun k hk => ?_⟩
  ·rw [dA_nil]
   cases k with
   | zero => simp
   | succ k => simp [List.getD_eq_getElem?_getD, List.getElem?_replicate]; split <;> simp
  ·cases k with
   | zero => simp
   | succ k => simp [List.getD_eq_getElem?_getD, List.getElem?_replicate]; split <;> simp
 exact ztr ts [] _ hU h0 (by simp)
end Go.Abs
namespace Go.Abs
def IT.kids : IT → List IT | .mk _ ks => ks
def IT.num : IT → Int | .mk n _ => n
theorem IT.eta : ∀ x : IT, IT.mk x.num x.kids = x
 | .mk _ _ => rfl
def apE (c : Int) : LR → Nat → LL → LL
 | [], _, st => st
 | list :: ls, k, st => apE c ls (k + 1) (st.set (k + 1) (st.getD (k + 1) [] ++ list.map (IT.mk c)))
def elG (R : Nat → Option (Option LR)) : Nat → Nat → LL → Option LL
 | 0, _, st => some st
 | n + 1, c, st => match R c with
  | none => elG R n (c + 1) st
  | some none => none
  | some (some l) => elG R n (c + 1) (apE c l 0 st)
def za5 (e r : IT) : IT := .mk 0 (e :: r.kids)
def sqE (rs : List IT) : List IT → List IT → Nat → Option (List IT × Nat)
 | [], acc, n => some (acc, n)
 | e :: es, acc, n => if 500 < n + rs.length then none else sqE rs es (acc ++ rs.map (za5 e)) (n + rs.length)
def sqJ (els dn : LL) (k : Nat) : Nat → Nat → List IT → Nat → Option (List IT × Nat)
 | 0, _, acc, n => some (acc, n)
 | m + 1, j, acc, n => match sqE (dn.getD (k - j) []) (els.getD j []) acc n with
  | none => none
  | some (acc, n) => sqJ els dn k m (j + 1) acc n
def sqK (els : LL) : Nat → Nat → LL → Nat → Option LL
 | 0, _, dn, _ => some dn
 | m + 1, k, dn, n => match sqJ els dn (k + 1) (k + 1) 1 [] n with
  | none => none
  | some (acc, n) => sqK els m (k + 1) (dn ++ [acc]) n
section
variable (P : VT → Int → Option (List VT)) (nc : VT → Nat)
def zcT (d : Nat) (U : VT → Option LL) (t : VT) : Option LL :=
 match elG (fun c => if d = 0 then none else (P t c).map fun ps => zb5 (d - 1) (ps.map U)) (nc t) 0 (List.replicate (d + 1) []) with
 | none => none
 | some els => sqK els d 0 [[.mk 0 []]] 1
mutual
def upS (d : Nat) (U : VT → Option LL) : VT → Option LL
 | .mk k n ks =>
  if k = 6 then (zb5 d (ziK d U ks)).map fun l => l.map fun r => r.map (IT.mk 0)
  else if k = 7 then some ((List.range (d + 1)).map fun i : Nat => [.mk (i : Int) []])
  else if k = 5 then zcT P nc d U (.mk k n ks)
  else some ([.mk 0 []] :: List.replicate d [])
def ziK (d : Nat) (U : VT → Option LL) : List VT → List (Option LL)
 | [] => []
 | t :: ts => upS d U t :: ziK d U ts
end
def upF : Nat → VT → Option LL
 | 0 => upS P nc 0 (fun _ => none)
 | d + 1 => upS P nc (d + 1) (upF d)
end
section
variable {P : VT → Int → Option (List VT)} {nc : VT → Nat}
theorem zni (d : Nat) (U : VT → Option LL) : ∀ ts : List VT, ziK P nc d U ts = ts.map (upS P nc d U)
 | [] => rfl
 | t :: ts => by rw [ziK, zni d U ts]; rfl
@[simp] theorem zeJ (c : Int) : ∀ (ls : LR) (k : Nat) (st : LL), (apE c ls k st).length = st.length
 | [], _, st => rfl
 | list :: ls, k, st => by rw [apE, zeJ c ls]; simp
theorem zri (c : Int) (m : Nat) : ∀ (ls : LR) (k : Nat) (st : LL), k + ls.length < st.length → (apE c ls k st).getD m [] = st.getD m [] ++ (if k < m then (ls.getD (m - (k + 1)) []).map (IT.mk c) else [])
 | [], k, st, h => by simp [apE]
 | list :: ls, k, st, h => by
  simp only [List.length_cons] at h
  rw [apE, zri c m ls (k + 1) _ (by simp; omega), ztI _ _ _ _ (by omega)]
  by_cases h1 : m = k + 1
  ·subst h1; simp
  ·by_cases h2 : k < m
   ·rw [if_neg h1, if_pos (by omega), if_pos h2, show m - (k + 1) = (m - (k + 1 + 1)) + 1 by omega]; simp [List.getD_eq_getElem?_getD]
   ·rw [if_neg h1, if_neg (by omega), if_neg h2]
def dX (P : VT → Int → Option (List VT)) (t : VT) (e : IT) : Option Nat :=
 match P t e.num with
 | none => none
 | some ps => (dA P e.kids ps).map (1 + ·)
theorem dX_some {t : VT} {e : IT} {m : Nat} : dX P t e = some m ↔ ∃ ps a, P t e.num = some ps ∧ dA P e.kids ps = some a ∧ m = 1 + a := by
 unfold dX
 cases P t e.num with
 | none => simp
 | some ps => simp; exact ⟨fun ⟨a, h1, h2⟩ => ⟨a, h1, h2.symm⟩, fun ⟨a, h1, h2⟩ => ⟨a, h1, h2.symm⟩⟩
theorem dE_cons' {e : IT} {es : List IT} {t : VT} {m : Nat} : dE P (e :: es) t = some m ↔ ∃ a b, dX P t e = some a ∧ dE P es t = some b ∧ m = a + b := by
 cases e with
 | mk c ks =>
  rw [dE_cons]
  constructor
  ·rintro ⟨ps, a, b, h1, h2, h3, rfl⟩
   exact ⟨1 + a, b, dX_some.2 ⟨ps, a, h1, h2, rfl⟩, h3, rfl⟩
  ·rintro ⟨a, b, h1, h2, rfl⟩
   obtain ⟨ps, a', h3, h4, rfl⟩ := dX_some.1 h1
   exact ⟨ps, a', b, h3, h4, h2, rfl⟩
theorem zfY {t : VT} {e : IT} {m : Nat} (h : dX P t e = some m) : 1 ≤ m := by
 obtain ⟨_, a, _, _, rfl⟩ := dX_some.1 h; omega
theorem zbI {t : VT} (ht : t.kind = 5) (x : IT) (m : Nat) : dV P x t = some m ↔ x.num = 0 ∧ dE P x.kids t = some m := by
 cases x with
 | mk n ks =>
  simp only [dV, ht, IT.num, IT.kids]
  by_cases h : n = 0 <;> simp [h]
theorem zur {d : Nat} {t : VT} (ht : t.kind = 5) {c : Int} {ps : List VT} (hp : P t c = some ps) (h : WitA P d ps) : WitV P (d + 1) t := by
 obtain ⟨M, h1, h2, h3⟩ := h
 refine ⟨M.map fun r => .mk 0 [.mk c r], zcR (fun a b e => by simpa using e) h1, by simpa using h2, fun v hv => ?_⟩
 obtain ⟨r, hr, rfl⟩ := List.mem_map.1 hv
 obtain ⟨k, h4, h5⟩ := h3 r hr
 exact ⟨1 + k + 0, by omega, (zbI ht _ _).2 ⟨rfl, dE_cons.2 ⟨ps, k, 0, hp, h5, by simp [dE], rfl⟩⟩⟩
structure ElOk (P : VT → Int → Option (List VT)) (t : VT) (d c : Nat) (els : LL) : Prop where
 len : els.length = d + 1
 mem : ∀ k, k ≤ d → ∀ x, x ∈ els.getD k [] ↔ dX P t x = some k ∧ x.num < c
 nodup : ∀ k, k ≤ d → (els.getD k []).Nodup
theorem ElOk.skip {t : VT} {d c : Nat} {els : LL} (h : ElOk P t d c els) (hs : d = 0 ∨ P t c = none) : ElOk P t d (c + 1) els := by
 refine ⟨h.len, fun k hk x => ?_, h.nodup⟩
 rw [h.mem k hk x]
 refine ⟨fun h1 => ⟨h1.1, by have := h1.2; omega⟩, fun h1 => ⟨h1.1, ?_⟩⟩
 by_cases hx : x.num = c
 ·rcases hs with hs | hs
  ·have := zfY h1.1; omega
  ·obtain ⟨ps, _, h2, _⟩ := dX_some.1 h1.1
   rw [hx, hs] at h2; cases h2
 ·have := h1.2; omega
theorem ElOk.step {t : VT} {d c : Nat} {els : LL} (h : ElOk P t (d + 1) c els) {ps : List VT} (hp : P t c = some ps) {l : LR} (hl : Lst (fun v => dA P v ps) d l) : ElOk P t (d + 1) (c + 1) (apE c l 0 els) := by
 have hg := fun m => zri (c : Int) m l 0 els (by have := h.len; have := hl.len; omega)
 refine ⟨by simpa using h.len, fun k hk x => ?_, fun k hk => ?_⟩
 ·rw [hg, List.mem_append, h.mem k hk x]
  constructor
  ·rintro (h1 | h1)
   ·exact ⟨h1.1, by have := h1.2; omega⟩
   ·split at h1
    ·obtain ⟨r, h2, rfl⟩ := List.mem_map.1 h1
     have h3 := (hl.mem (k - (0 + 1)) (by omega) r).1 h2
     exact ⟨dX_some.2 ⟨ps, _, hp, h3, by omega⟩, by simp [IT.num]; omega⟩
    ·simp at h1
  ·rintro ⟨h1, h2⟩
   by_cases hx : x.num = c
   ·right
    obtain ⟨ps', a, h3, h4, rfl⟩ := dX_some.1 h1
    rw [hx, hp] at h3
    injection h3 with h3
    subst h3
    rw [if_pos (by omega)]
    refine List.mem_map.2 ⟨x.kids, (hl.mem _ (by omega) _).2 (by rw [h4]; congr 1; omega), ?_⟩
    rw [← hx]; exact IT.eta x
   ·exact .inl ⟨h1, by omega⟩
 ·rw [hg, List.nodup_append]
  refine ⟨h.nodup k hk, ?_, ?_⟩
  ·split
   ·exact zcR (fun a b e => by simpa using e) (hl.nodup _ (by omega))
   ·simp
  ·intro x hx y hy e
   subst e
   have := ((h.mem k hk x).1 hx).2
   split at hy
   ·obtain ⟨r, _, rfl⟩ := List.mem_map.1 hy
    simp [IT.num] at this
   ·simp at hy
theorem zhD {t : VT} (ht : t.kind = 5) {d : Nat} {U : VT → Option LL} (hU : ∀ u, 0 < d → zcM P (d - 1) u (U u)) : ∀ (n c : Nat) (els : LL), ElOk P t d c els →
  match elG (fun c => if d = 0 then none else (P t c).map fun ps => zb5 (d - 1) (ps.map U)) n c els with
  | none => WitV P d t
  | some els => ElOk P t d (c + n) els
 | 0, c, els, h => h
 | n + 1, c, els, h => by
  rw [elG]
  by_cases hd : d = 0
  ·simp only [if_pos hd]
   have := zhD ht hU n (c + 1) els (h.skip (.inl hd))
   simp only [if_pos hd] at this
   rw [show c + (n + 1) = c + 1 + n by omega]
   exact this
  ·simp only [if_neg hd]
   cases hp : P t c with
   | none =>
    have := zhD ht hU n (c + 1) els (h.skip (.inr hp))
    simp only [if_neg hd] at this
    rw [show c + (n + 1) = c + 1 + n by omega]
    simpa using this
   | some ps =>
    obtain ⟨d, rfl⟩ : ∃ d', d = d' + 1 := ⟨d - 1, by omega⟩
    have hr := ztp (P := P) (d := d) (U := U) ps (fun u _ => hU u (by omega))
    simp only [Nat.add_sub_cancel, Option.map_some]
    cases hl : zb5 d (ps.map U) with
    | none =>
     rw [hl] at hr
     exact zur ht hp hr
    | some l =>
     rw [hl] at hr
     have := zhD ht hU n (c + 1) _ (h.step hp hr.1)
     simp only [if_neg hd, Nat.add_sub_cancel] at this
     rw [show c + (n + 1) = c + 1 + n by omega]
     exact this
/- The sequences. -/
def sqR (els dn : LL) (k j : Nat) : List IT := (els.getD j []).flatMap fun e => (dn.getD (k - j) []).map (za5 e)
def sqF (els dn : LL) (k : Nat) : Nat → Nat → List IT
 | 0, _ => []
 | m + 1, j => sqR els dn k j ++ sqF els dn k m (j + 1)
theorem ztR (rs : List IT) : ∀ (es acc : List IT) (n : Nat), n ≤ 500 → sqE rs es acc n = if 500 < n + (es.flatMap fun e => rs.map (za5 e)).length then none else some (acc ++ es.flatMap fun e => rs.map (za5 e), n + (es.flatMap fun e => rs.map (za5 e)).length)
 | [], acc, n, h => by simp [sqE]; omega
 | e :: es, acc, n, h => by
  rw [sqE, List.flatMap_cons, List.length_append, List.length_map]
  by_cases h1 : 500 < n + rs.length
  ·rw [if_pos h1, if_pos (by omega)]
  ·rw [if_neg h1, ztR rs es _ _ (by omega), Nat.add_assoc, List.append_assoc]
theorem zm2 (els dn : LL) (k : Nat) : ∀ (m j : Nat) (acc : List IT) (n : Nat), n ≤ 500 → sqJ els dn k m j acc n = if 500 < n + (sqF els dn k m j).length then none else some (acc ++ sqF els dn k m j, n + (sqF els dn k m j).length)
 | 0, j, acc, n, h => by simp [sqJ, sqF]; omega
 | m + 1, j, acc, n, h => by
  rw [sqJ, ztR _ _ _ _ h, sqF, List.length_append]
  show (match (if 500 < n + (sqR els dn k j).length then none else some (acc ++ sqR els dn k j, n + (sqR els dn k j).length)) with | none => none | some (acc, n) => sqJ els dn k m (j + 1) acc n) = _
  by_cases h1 : 500 < n + (sqR els dn k j).length
  ·rw [if_pos h1, if_pos (by omega)]
  ·rw [if_neg h1]
   simp only
   rw [zm2 els dn k m (j + 1) _ _ (by omega), Nat.add_assoc, List.append_assoc]
theorem ziy (els dn : LL) (k : Nat) (x : IT) : ∀ (m j : Nat), x ∈ sqF els dn k m j ↔ ∃ i, i < m ∧ x ∈ sqR els dn k (j + i)
 | 0, j => by simp [sqF]
 | m + 1, j => by
  rw [sqF, List.mem_append, ziy els dn k x m (j + 1)]
  constructor
  ·rintro (h | ⟨i, h1, h2⟩)
   ·exact ⟨0, by omega, h⟩
   ·exact ⟨i + 1, by omega, by rwa [show j + (i + 1) = j + 1 + i by omega]⟩
  ·rintro ⟨i, h1, h2⟩
   cases i with
   | zero => exact .inl h2
   | succ i => exact .inr ⟨i, by omega, by rwa [show j + 1 + i = j + (i + 1) by omega]⟩
theorem zlv {e e' r r' : IT} (h : za5 e r = za5 e' r') : e = e' ∧ r.kids = r'.kids := by
 simp only [za5, IT.mk.injEq, true_and, List.cons.injEq] at h
 exact h
theorem ztS {t : VT} (ht : t.kind = 5) {d nn k : Nat} {els dn : LL} (he : ElOk P t d nn els) (hl : Lst (fun v => dV P v t) k dn) (hk : k < d) : ∀ (m j : Nat), 1 ≤ j → j + m ≤ k + 2 → (sqF els dn (k + 1) m j).Nodup
 | 0, j, _, _ => by simp [sqF]
 | m + 1, j, hj, hm => by
  rw [sqF, List.nodup_append]
  refine ⟨?_, ztS ht he hl hk m (j + 1) (by omega) (by omega), ?_⟩
  ·rw [sqR, List.Nodup, List.pairwise_flatMap]
   refine ⟨fun e _ => ?_, ?_⟩
   ·have hn := hl.nodup (k + 1 - j) (by omega)
    rw [List.pairwise_map]
    refine List.Pairwise.imp_of_mem (fun {a b} ha hb hab e => ?_) hn
    have h1 := ((zbI ht _ _).1 ((hl.mem _ (by omega) a).1 ha)).1
    have h2 := ((zbI ht _ _).1 ((hl.mem _ (by omega) b).1 hb)).1
    apply hab
    rw [← IT.eta a, ← IT.eta b, h1, h2, (zlv e).2]
   ·refine List.Pairwise.imp (fun {a b} hab x hx y hy e => ?_) (he.nodup j (by omega))
    obtain ⟨r, _, rfl⟩ := List.mem_map.1 hx
    obtain ⟨r', _, rfl⟩ := List.mem_map.1 hy
    exact hab (zlv e).1
  ·intro x hx y hy e
   subst e
   obtain ⟨i, hi, hy⟩ := (ziy _ _ _ _ _ _).1 hy
   obtain ⟨e, he1, hx⟩ := List.mem_flatMap.1 hx
   obtain ⟨r, _, rfl⟩ := List.mem_map.1 hx
   obtain ⟨e', he2, hy⟩ := List.mem_flatMap.1 hy
   obtain ⟨r', _, h⟩ := List.mem_map.1 hy
   have := (zlv h).1
   subst this
   have h1 := ((he.mem j (by omega) _).1 he1).1
   have h2 := ((he.mem (j + 1 + i) (by omega) _).1 he2).1
   rw [h1] at h2
   injection h2 with h2
   omega
theorem Lst.snoc {t : VT} (ht : t.kind = 5) {d nn k : Nat} {els dn : LL} (he : ElOk P t d nn els) (hn : ∀ x m, dX P t x = some m → x.num < nn) (hl : Lst (fun v => dV P v t) k dn) (hk : k < d) : Lst (fun v => dV P v t) (k + 1) (dn ++ [sqF els dn (k + 1) (k + 1) 1]) := by
 have hlen := hl.len
 have hg : ∀ m, m ≤ k → (dn ++ [sqF els dn (k + 1) (k + 1) 1]).getD m [] = dn.getD m [] := fun m hm => by
  simp [List.getD_eq_getElem?_getD, List.getElem?_append_left (show m < dn.length by omega)]
 have hg1 : (dn ++ [sqF els dn (k + 1) (k + 1) 1]).getD (k + 1) [] = sqF els dn (k + 1) (k + 1) 1 := by
  rw [List.getD_eq_getElem?_getD, List.getElem?_append_right (by omega)]; simp [hlen]
 refine ⟨by simp [hlen], fun m hm x => ?_, fun m hm => ?_⟩
 ·by_cases hmk : m ≤ k
  ·rw [hg m hmk]; exact hl.mem m hmk x
  ·obtain rfl : m = k + 1 := by omega
   rw [hg1, ziy]
   constructor
   ·rintro ⟨i, hi, hx⟩
    obtain ⟨e, h1, hx⟩ := List.mem_flatMap.1 hx
    obtain ⟨r, h2, rfl⟩ := List.mem_map.1 hx
    have h3 := ((he.mem _ (by omega) e).1 h1).1
    have h4 := (zbI ht _ _).1 ((hl.mem _ (by omega) r).1 h2)
    exact (zbI ht _ _).2 ⟨rfl, dE_cons'.2 ⟨_, _, h3, h4.2, by omega⟩⟩
   ·intro h
    obtain ⟨h0, h1⟩ := (zbI ht _ _).1 h
    cases hx : x with
    | mk n ks =>
     subst hx
     simp only [IT.num, IT.kids] at h0 h1
     subst h0
     cases ks with
     | nil => simp [dE] at h1
     | cons e es =>
      obtain ⟨a, b, h2, h3, h4⟩ := dE_cons'.1 h1
      have ha := zfY h2
      refine ⟨a - 1, by omega, List.mem_flatMap.2 ⟨e, ?_, List.mem_map.2 ⟨.mk 0 es, ?_, rfl⟩⟩⟩
      ·rw [show 1 + (a - 1) = a by omega]
       exact (he.mem a (by omega) e).2 ⟨h2, hn _ _ h2⟩
      ·rw [show k + 1 - (1 + (a - 1)) = b by omega]
       exact (hl.mem b (by omega) _).2 ((zbI ht _ _).2 ⟨rfl, h3⟩)
 ·by_cases hmk : m ≤ k
  ·rw [hg m hmk]; exact hl.nodup m hmk
  ·obtain rfl : m = k + 1 := by omega
   rw [hg1]
   exact ztS ht he hl hk _ _ (by omega) (by omega)
theorem zsw {d d' : Nat} {t : VT} {l : LL} (h : Lst (fun v => dV P v t) d' l) (ht : 500 < zaq l) (hd : d' ≤ d) : WitV P d t :=
 ⟨l.flatten, h.flat.1, by rwa [← znd], fun v hv => by obtain ⟨k, h1, h2⟩ := h.flat.2 v hv; exact ⟨k, by omega, h2⟩⟩
theorem ztT {t : VT} (ht : t.kind = 5) {d nn : Nat} {els : LL} (he : ElOk P t d nn els) (hn : ∀ x m, dX P t x = some m → x.num < nn) : ∀ (m k : Nat) (dn : LL), k + m = d → Lst (fun v => dV P v t) k dn → zaq dn ≤ 500 → zcM P d t (sqK els m k dn (zaq dn))
 | 0, k, dn, hk, hl, hb => by
  obtain rfl : k = d := by omega
  exact ⟨hl, hb⟩
 | m + 1, k, dn, hk, hl, hb => by
  have h1 := hl.snoc ht he hn (by omega)
  have h2 : zaq (dn ++ [sqF els dn (k + 1) (k + 1) 1]) = zaq dn + (sqF els dn (k + 1) (k + 1) 1).length := by rw [zfe]; simp
  rw [sqK, zm2 _ _ _ _ _ _ _ hb]
  by_cases h3 : 500 < zaq dn + (sqF els dn (k + 1) (k + 1) 1).length
  ·rw [if_pos h3]
   exact zsw h1 (by omega) (by omega)
  ·rw [if_neg h3]
   simp only [List.nil_append]
   rw [← h2]
   exact ztT ht he hn m (k + 1) _ (by omega) h1 (by omega)
theorem zBn {t : VT} (ht : t.kind = 5) {d : Nat} {U : VT → Option LL} (hU : ∀ u, 0 < d → zcM P (d - 1) u (U u)) (hP : ∀ c ps, P t c = some ps → 0 ≤ c ∧ c < nc t) : zcM P d t (zcT P nc d U t) := by
 unfold zcT
 have h0 : ElOk P t d 0 (List.replicate (d + 1) []) := by
  refine ⟨by simp, fun k hk x => ?_, fun k hk => ?_⟩
  ·simp only [List.getD_eq_getElem?_getD, List.getElem?_replicate]
   rw [if_pos (by omega)]
   simp
   intro h
   obtain ⟨ps, _, h1, _⟩ := dX_some.1 h
   exact (hP _ _ h1).1
  ·simp only [List.getD_eq_getElem?_getD, List.getElem?_replicate]
   rw [if_pos (by omega)]
   simp
 have h1 := zhD ht hU (nc t) 0 _ h0
 split at h1
 ·exact h1
 ·rename_i els heq
  rw [Nat.zero_add] at h1
  have hl : Lst (fun v => dV P v t) 0 [[.mk 0 []]] := by
   refine ⟨rfl, fun k hk x => ?_, fun k hk => ?_⟩
   ·obtain rfl : k = 0 := by omega
    rw [zbI ht]
    cases x with
    | mk n ks =>
     simp [IT.num, IT.kids]
     intro _
     cases ks with
     | nil => simp [dE]
     | cons e es =>
      simp only [reduceCtorEq, false_iff]
      intro h
      obtain ⟨a, b, h2, _, h4⟩ := dE_cons'.1 h
      have := zfY h2; omega
   ·obtain rfl : k = 0 := by omega
    simp
  have := ztT ht h1 (fun x m hx => by obtain ⟨ps, _, h2, _⟩ := dX_some.1 hx; exact (hP _ _ h2).2) d 0 _ (by omega) hl (by simp)
  simpa using this
theorem zAe {α β : Type} {D : α → Option Nat} {E : β → Option Nat} {f : α → β} (hf : ∀ a b, f a = f b → a = b) (h1 : ∀ a, E (f a) = D a) (h2 : ∀ y k, E y = some k → ∃ a, y = f a) {d : Nat} {l : List (List α)} (h : Lst D d l) : Lst E d (l.map fun r => r.map f) := by
 have hg : ∀ k, (l.map fun r => r.map f).getD k [] = (l.getD k []).map f := fun k => by
  simp only [List.getD_eq_getElem?_getD, List.getElem?_map]
  cases l[k]? <;> rfl
 refine ⟨by simpa using h.len, fun k hk x => ?_, fun k hk => ?_⟩
 ·rw [hg]
  constructor
  ·intro hx
   obtain ⟨a, ha, rfl⟩ := List.mem_map.1 hx
   rw [h1]; exact (h.mem k hk a).1 ha
  ·intro hx
   obtain ⟨a, rfl⟩ := h2 x k hx
   rw [h1] at hx
   exact List.mem_map.2 ⟨a, (h.mem k hk a).2 hx, rfl⟩
 ·rw [hg]; exact zcR hf (h.nodup k hk)
theorem zt7 {α β : Type} (f : α → β) : ∀ l : List (List α), zaq (l.map fun r => r.map f) = zaq l
 | [] => rfl
 | a :: l => by rw [List.map_cons, ziD, ziD, zt7 f l, List.length_map]
mutual
theorem znh {d : Nat} {U : VT → Option LL} (hd : d ≤ 499) (hU : ∀ u, 0 < d → zcM P (d - 1) u (U u)) (hP : ∀ t c ps, P t c = some ps → 0 ≤ c ∧ c < nc t) : ∀ t : VT, zcM P d t (upS P nc d U t)
 | .mk k n ks => by
  rw [upS]
  by_cases h6 : k = 6
  ·subst h6
   rw [if_pos rfl]
   have hr := ztp (P := P) (d := d) (U := upS P nc d U) ks (zum hd hU hP ks)
   rw [zni]
   cases hl : zb5 d (ks.map (upS P nc d U)) with
   | none =>
    rw [hl] at hr
    obtain ⟨M, h1, h2, h3⟩ := hr
    refine ⟨M.map (IT.mk 0), zcR (fun a b e => by simpa using e) h1, by simpa using h2, fun v hv => ?_⟩
    obtain ⟨r, hr, rfl⟩ := List.mem_map.1 hv
    obtain ⟨m, h4, h5⟩ := h3 r hr
    exact ⟨m, h4, by simpa [dV, VT.kind, VT.kids] using h5⟩
   | some l =>
    rw [hl] at hr
    refine ⟨zAe (D := fun v => dA P v ks) (fun a b e => by simpa using e) (fun a => by simp [dV, VT.kind, VT.kids]) (fun y m hy => ?_) hr.1, by rw [zt7]; exact hr.2⟩
    cases y with
    | mk c r =>
     simp only [dV, VT.kind, if_true] at hy
     by_cases hc : c = 0
     ·exact ⟨r, by rw [hc]⟩
     ·rw [if_neg hc] at hy; cases hy
  ·rw [if_neg h6]
   by_cases h7 : k = 7
   ·subst h7
    rw [if_pos rfl]
    have hg : ∀ m, m ≤ d → ((List.range (d + 1)).map fun i : Nat => [IT.mk (i : Int) []]).getD m [] = [.mk (m : Int) []] := fun m hm => by
     simp [List.getD_eq_getElem?_getD, List.getElem?_range (show m < d + 1 by omega)]
    refine ⟨⟨by simp, fun m hm x => ?_, fun m hm => ?_⟩, ?_⟩
    ·rw [hg m hm]
     cases x with
     | mk c r =>
      simp [dV, VT.kind]
      constructor
      ·rintro ⟨h1, rfl⟩; exact ⟨⟨by omega, rfl⟩, by omega⟩
      ·rintro ⟨⟨h1, h2⟩, h3⟩; exact ⟨by omega, h2⟩
    ·rw [hg m hm]; simp
    ·have : ∀ l : List Nat, zaq (l.map fun i : Nat => [IT.mk (i : Int) []]) = l.length := fun l => by
      induction l with
      | nil => rfl
      | cons a l ih => rw [List.map_cons, ziD, ih]; simp; omega
     rw [this]; simp; omega
   ·rw [if_neg h7]
    by_cases h5 : k = 5
    ·subst h5
     rw [if_pos rfl]
     exact zBn rfl hU (hP _)
    ·rw [if_neg h5]
     refine ⟨⟨by simp, fun m hm x => ?_, fun m hm => ?_⟩, by simp⟩
     ·cases x with
      | mk c r =>
       simp [dV, VT.kind, h6, h7, h5]
       cases m with
       | zero => simp
       | succ m =>
        simp [List.getElem?_replicate]
        split <;> simp
     ·cases m with
      | zero => simp
      | succ m =>
       simp [List.getD_eq_getElem?_getD, List.getElem?_replicate]
       split <;> simp
theorem zum {d : Nat} {U : VT → Option LL} (hd : d ≤ 499) (hU : ∀ u, 0 < d → zcM P (d - 1) u (U u)) (hP : ∀ t c ps, P t c = some ps → 0 ≤ c ∧ c < nc t) : ∀ ts : List VT, ∀ t ∈ ts, zcM P d t (upS P nc d U t)
 | [], t, h => by simp at h
 | u :: us, t, h => by
  have h1 := znh hd hU hP u
  have h2 := zum hd hU hP us
  rcases List.mem_cons.1 h with e | h
  ·rw [e]; exact h1
  ·exact h2 t h
end
theorem zdz (hP : ∀ t c ps, P t c = some ps → 0 ≤ c ∧ c < nc t) : ∀ (d : Nat) (t : VT), d ≤ 499 → zcM P d t (upF P nc d t)
 | 0, t, hd => by rw [upF]; exact znh hd (fun _ h => by omega) hP t
 | d + 1, t, hd => by rw [upF]; exact znh hd (fun u _ => zdz hP d u (by omega)) hP t
end
end Go.Abs
namespace Go.Proofs.YtddlhljflggenaaGreatDoor
open Go Go.Abs
set_option maxRecDepth 8000
def zdb : List IT → AV
 | [] => .snil
 | r => .sl (IT.css r) .none
def zbk (r : List IT) : List AV := [zdb r]
def lsV (l : LL) : AV := .sl (l.map fun is => [.sl (is.map IT.cs) .none]) .none
def lsR (l : LR) : AV := .sl (l.map fun rows => [.sl (rows.map fun r => [.sl (IT.css r) .none]) .none]) .none
def upR : Option LL → AV
 | none => .tup [.unk, .bool false]
 | some ls => .tup [lsV ls, .bool true]
def zgA : Option LR → AV
 | none => .tup [.snil, .bool false]
 | some ls => .tup [lsR ls, .bool true]
def UpC (data : List Dat) (d : Nat) (t : VT) (o : Option LL) : Prop :=
 (∀ s, o = some s → s.length = d + 1 ∧ zaq s ≤ 500) ∧ ∀ (H : zaa) (K : Kt), K (upR o) H → ACalls tP zgf [.sl (data.map Dat.cs) .none, .agg t.cs, .int .i64 d] H K
theorem zgz (r : List IT) (n : Nat) : (zbk r).all (AV.scA n) = true := by cases r <;> rfl
theorem zA6 (r : List IT) : plain (zbk r) = some [.sl (IT.css r) .none] := by cases r <;> rfl
abbrev NR (H1 : zaa) (st : LR) : zaa := NX zbk za1 1 H1 st
theorem zrj (row : List IT) (m : Nat) : ∀ (a b : List IT) (st : LR), apI row m (a ++ b) st = apI row m b (apI row m a st)
 | [], b, st => rfl
 | x :: a, b, st => by rw [List.cons_append, apI, zrj row m a b, apI]
theorem zlP {α : Type} : ∀ (l : List (List α)) (m : Nat), (l.getD m []).length ≤ zaq l
 | [], m => by simp
 | a :: l, 0 => by simp
 | a :: l, m + 1 => by
  have := zlP l m
  simp [List.getD_eq_getElem?_getD] at this ⊢
  omega
theorem zc4 {α : Type} {l : List (List α)} {m : Nat} (h : m < l.length) : l.getD m [] = l[m] := by simp [List.getD_eq_getElem?_getD, h]
theorem zy7 (H : zaa) (K : Kt) (hK : K .snil H) : ACalls tP zgn [.snil] H K := by
 refine zxy fun hs => ?_
 simpa [zp5, zfH, zeS] using hK
theorem zfT {l : List IT} : ∀ c ∈ IT.css l, c.length = 2 := fun c hc => by
 rw [IT.css_map] at hc
 obtain ⟨x, _, rfl⟩ := List.mem_map.1 hc
 simp
theorem css_len (l : List IT) : (IT.css l).length = l.length := by simp [IT.css_map]
theorem zy8 (row : List IT) (h0 : row ≠ []) (hl : row.length ≤ 1000000) (H : zaa) (K : Kt) (hK : K (.sl (IT.css row) (.own H.length)) (H ++ [.perm zak 2 row.length])) : ACalls tP zgn [.sl (IT.css row) .none] H K := by
 refine zxy fun hs => ?_
 cases row with
 | nil => exact absurd rfl h0
 | cons v r =>
  have h2 := zfT (l := v :: r)
  have hll := css_len r
  simp only [List.length_cons] at hl
  simp only [IT.css] at h2 hK ⊢
  simp [zp5, zfH, zeS, zay, za8, plain, AV.pd, zat, zcN, zaI, zaE, hll]
  exact ⟨fun c hc => h2 c (by simp [hc]), ⟨by omega, by omega⟩, hK⟩
theorem zhr {b : Bool} {H : zaa} {p : (AV → zaa → Prop) → Prop} {K : Kt} (r : AV) (H' : zaa) (h : p fun v H2 => v = r ∧ H2 = H') (hg : b = true → GrowA H H') (hk : K r H') : zdE .g b H p K := ⟨r, H', h, hg, hk⟩
theorem zy6 (row : List IT) (v : IT) (hl : row.length ≤ 1000) (Z : zaa) : ∃ a HC, ACalls tP zgn [zdb row] Z (fun r H2 => r = a ∧ H2 = HC) ∧ GrowA Z HC ∧ (∀ i, i < Z.length → HC[i]? = Z[i]?) ∧
  ∀ K' : Kt, K' (.sl (IT.css (row ++ [v])) (.own Z.length)) (Z ++ [.perm zak 2 (row.length + 1)]) → zat zak 2 32 a (.sl [v.cs] .full) HC K' := by
 cases row with
 | nil =>
  refine ⟨.snil, Z, zy7 _ _ ⟨rfl, rfl⟩, .inl rfl, fun _ _ => rfl, fun K' hK => ?_⟩
  simpa [zat, zaI, zaE, IT.css] using hK
 | cons u r =>
  refine ⟨_, _, zy8 (u :: r) (by simp) (by omega) _ _ ⟨rfl, rfl⟩, .inr (.inl ⟨_, _, _, rfl⟩), fun i hi => List.getElem?_append_left hi, fun K' hK => ?_⟩
  simp only [List.length_cons] at hl
  have e1 : IT.css (u :: r ++ [v]) = IT.css (u :: r) ++ [v.cs] := by simp [IT.css_map]
  rw [e1] at hK
  simp [zat, zaI, zaE, css_len, List.set_append_right]
  exact ⟨⟨by omega, by omega⟩, hK⟩
theorem zA7 (row : List IT) (v : IT) : zdb (row ++ [v]) = .sl (IT.css (row ++ [v])) .none := by cases row <;> rfl
theorem zBc {t0 t2 t11 t28 t29 t30 t46 t47 t48 t53 t54 t55 : AV} {K : Kt} {Kb4 Kb12 Kb15 Kb18 : Lt} (H1 : zaa) (hs1 : HSc H1) (d : Nat) (st : LR) (hl : st.length = d + 1) (hd : d ≤ 1000) (n j k m : Nat) (row is : List IT) (hm : m = j + k) (hjk : m ≤ d) (hn : n + is.length ≤ 1000000) (hrow : row.length ≤ 1000) (ht : zaq st + is.length ≤ 1000000)
  (hpost : Kb18 (zgZ t0 t2 t11 (.ms H1.length 0 (d + 1) (d + 1)) (.int .i64 (n + is.length : Nat)) (.int .i64 j) (zdb row) (.int .i64 (k + 1 : Nat)) t28 t29 t30 t46 t47 t48 t53 t54 t55) (NR H1 (apI row m is st))) :
  zoY t0 t2 t11 (.ms H1.length 0 (d + 1) (d + 1)) (.int .i64 n) (.int .i64 j) (zdb row) (.int .i64 k) t28 t29 t30 t46 t47 t48 t53 t54 t55 (.sl (IT.css is) .none) (.int .i64 is.length) (.int .i64 0) (NR H1 st) K Kb4 Kb12 Kb15 Kb18 := by
 refine zHr (Inv := fun q t14 t71 H' => ∃ i : Nat, i ≤ is.length ∧ q = is.length - i ∧ t71 = .int .i64 i ∧ t14 = .int .i64 (n + i : Nat) ∧ H' = NR H1 (apI row m (is.take i) st)) is.length ?_ ?_
 ·intro _; exact ⟨0, by omega, by omega, rfl, by simp, by simp [apI]⟩
 ·rintro q t14 t71 H' ⟨i, hi, rfl, rfl, rfl, rfl⟩ hsc hlen hsF Kb hKb
  have hl' : (apI row m (is.take i) st).length = d + 1 := by rw [zrl, hl]
  have htot := zlq row m (is.take i) st (by omega)
  rw [List.length_take, Nat.min_eq_left hi] at htot
  by_cases hlt : i < is.length
  ·have htk : apI row m (is.take (i + 1)) st = (apI row m (is.take i) st).set m ((apI row m (is.take i) st).getD m [] ++ [row ++ [is[i]]]) := by
    rw [List.take_succ_eq_append_getElem hlt, zrj]; rfl
   generalize apI row m (is.take i) st = st' at *
   obtain ⟨x, y, hvx, hx, hy⟩ := zbE is[i]
   have hjl : m < st'.length := by omega
   have hbk := fun J => zhp zbk za1 1 H1 J st' hjl
   have hck := fun J => zfC zbk za1 1 H1 J st'
   have hb0 := zyl zbk za1 1 H1 st' hjl
   have hc0 := zla zbk za1 1 H1 st'
   have hvk : (vcs (H1.length + 1) st')[m]? = some (.ov (H1.length + 1 + m) st'[m].length) := by rw [znj, List.getElem?_eq_getElem hjl]; rfl
   have hj1 : IntKind.i64.wrap ((j : Int) + k) = (m : Int) := by rw [zam (by omega) (by omega)]; omega
   have hj2 : (m : Int) < (d : Int) + 1 := by omega
   simp only [zoP]
   simp [hlt, hvx, hx, hy, hj1, hck, hj2]
   rw [zcW _ hvk]
   have hv : is[i].cs = [x, y] := hvx
   obtain ⟨a, HC, hc1, hc2, hc3, hc4⟩ := zy6 row is[i] hrow (NR H1 st' ++ [.cells [x, y]])
   refine zhr a HC hc1 (fun _ => hc2) ?_
   rw [hc3 _ (by simp)]
   simp
   rw [← hv, zdK]
   refine zhr _ _ (hc4 _ ⟨rfl, rfl⟩) (fun h => by cases h) ?_
   have hsb : st'[m].length ≤ 1000000 := by
    have := zlP st' m
    rw [zc4 hjl] at this
    omega
   have hsn : st'.set m (st'.getD m [] ++ [row ++ [is[i]]]) = st'.set m (st'[m] ++ [row ++ [is[i]]]) := by rw [zc4 hjl]
   rw [hsn] at htk
   simp [List.append_assoc, zay, za8, plain, AV.pd]
   generalize hJ : [AB.cells [x, y], AB.perm zak 2 (row.length + 1)] = J
   refine zhr (.ov (H1.length + 1 + m) (st'[m] ++ [row ++ [is[i]]]).length) ((NR H1 st' ++ J).set (H1.length + 1 + m) (.vec za1 1 (st'[m] ++ [row ++ [is[i]]]).length ((st'[m] ++ [row ++ [is[i]]]).flatMap zbk))) ?_ (fun h => by cases h) ?_
   ·simp [zat, zaI, zaE, hbk, zbk, zA7]
    omega
   ·rw [List.getElem?_set_ne (by omega), hck]
    refine zhr (.tup []) (NR H1 (st'.set m (st'[m] ++ [row ++ [is[i]]])) ++ J) ?_ (fun h => by cases h) ?_
    ·simp only [zlh, AV.cs?, List.append_assoc, List.singleton_append]
     rw [ziM _ _ hjl]
     refine ⟨⟨rfl, by simp; omega, rfl⟩, trivial, ?_⟩
     exact zfD zbk za1 1 H1 J st' hjl _
    ·rw [zam (by omega) (by omega), zam (by omega) (by omega)]
     refine hKb _ _ ⟨is.length - (i + 1), by omega, Back.at (J := J) (H2 := NR H1 (st'.set m (st'[m] ++ [row ++ [is[i]]]))) rfl ?_ (zcb hs1 fun x n => zgz x n) ?_ ⟨_, _, rfl, i + 1, by omega, rfl, by simp, by simp [Int.add_assoc], by rw [htk]⟩⟩
     ·simp only [zaQ, List.length_set, hl, hl']; omega
     ·simp only [zaQ, List.length_set] at hsF ⊢
      simpa [zjY, AV.sc, AV.scV, AV.scA, AV.scB] using hsF
  ·obtain rfl : i = is.length := by omega
   rw [List.take_length] at *
   simp [zoP]
   rw [zam (by omega) (by omega)]
   exact hpost
theorem zrm (row : List IT) : ∀ (a b : LL) (m : Nat) (st : LR), apK row (a ++ b) m st = apK row b (m + a.length) (apK row a m st)
 | [], b, m, st => rfl
 | x :: a, b, m, st => by rw [List.cons_append, apK, zrm row a b, apK, List.length_cons, show m + 1 + a.length = m + (a.length + 1) by omega]
theorem zt8 {α : Type} {l : List (List α)} {k : Nat} (h : k < l.length) : zaq (l.take (k + 1)) = zaq (l.take k) + l[k].length := by
 rw [List.take_succ_eq_append_getElem h, zfe]; simp
theorem zgF {α : Type} (l : List (List α)) (k : Nat) : zaq (l.take k) ≤ zaq l := by
 conv => rhs; rw [← List.take_append_drop k l, zfe]
 omega
theorem zAd (s : LL) {i : Nat} (h : i < s.length) (k : AV → Prop) : zaj 1 (lsV s) (.int .i64 i) k = k (.view [.sl (IT.css s[i]) .none]) := by
 simp [lsV, h, IT.css_map]
theorem zBb {t0 t28 t29 t30 t46 t47 t48 t53 t54 : AV} {r : Int} {K : Kt} {Kb4 Kb12 Kb15 : Lt} (H1 : zaa) (hs1 : HSc H1) (d : Nat) (s : LL) (hsl : s.length = d + 1) (hs5 : zaq s ≤ 500) (st : LR) (hl : st.length = d + 1) (hd : d ≤ 1000) (n j : Nat) (row : List IT) (hj : j ≤ d) (hn : n ≤ 500) (hrow : row.length ≤ 1000) (ht : zaq st ≤ 500)
  (hr : -1000000 ≤ r ∧ r ≤ 1000000)
  (h1 : 500 < n + zaq (s.take (d + 1 - j)) → K (.tup [.snil, .bool false]) (NR H1 (apK row (s.take (d + 1 - j)) j st)))
  (h2 : ¬ 500 < n + zaq (s.take (d + 1 - j)) → Kb15 (zgY t0 (.int .i64 d) (lsV s) (.ms H1.length 0 (d + 1) (d + 1)) (.int .i64 (n + zaq (s.take (d + 1 - j)) : Nat)) (.int .i64 j) t28 t29 t30 t46 t47 t48 t53 t54 (.int .i64 (r + 1))) (NR H1 (apK row (s.take (d + 1 - j)) j st))) :
  zoX t0 (.int .i64 d) (lsV s) (.ms H1.length 0 (d + 1) (d + 1)) (.int .i64 n) (.int .i64 j) (zdb row) (.int .i64 0) t28 t29 t30 t46 t47 t48 t53 t54 (.int .i64 r) (NR H1 st) K Kb4 Kb12 Kb15 := by
 refine zHq (Inv := fun q t14 t19 H' => ∃ k : Nat, k ≤ d + 1 - j ∧ q = d + 1 - j - k ∧ t19 = .int .i64 k ∧ t14 = .int .i64 (n + zaq (s.take k) : Nat) ∧ H' = NR H1 (apK row (s.take k) j st)) (d + 1 - j) ?_ ?_
 ·intro _; exact ⟨0, by omega, by omega, rfl, by simp, by simp [apK]⟩
 ·rintro q t14 t19 H' ⟨k, hk, rfl, rfl, rfl, rfl⟩ hsc hlen hsF Kb hKb
  have hle := zgF s k
  have hlk : (apK row (s.take k) j st).length = d + 1 := by rw [zeK, hl]
  have htk := zfM row (s.take k) j st (by simp; omega)
  by_cases hlt : k < d + 1 - j
  ·have hks : k < s.length := by omega
   have hsucc := zt8 hks
   have hle2 := zgF s (k + 1)
   have hap : apI row (j + k) s[k] (apK row (s.take k) j st) = apK row (s.take (k + 1)) j st := by
    rw [List.take_succ_eq_append_getElem hks, zrm]
    simp [apK, Nat.min_eq_left (by omega : k ≤ s.length)]
   have hjk : ((j : Int) + k ≤ d) := by omega
   simp [zoO]
   rw [zam (by omega) (by omega)]
   simp [hjk, zAd s hks]
   refine zBc H1 hs1 d _ hlk hd _ j k (j + k) row s[k] rfl (by omega) (by omega) hrow (by omega) ?_
   rw [hap]
   refine hKb _ _ ⟨d + 1 - j - (k + 1), by omega, Back.at (J := []) (H2 := NR H1 (apK row (s.take (k + 1)) j st)) (by simp) (by simp only [zaQ, zeK]; omega) (zcb hs1 fun x n => zgz x n) ?_ ⟨_, _, rfl, k + 1, by omega, rfl, rfl, by rw [hsucc, Nat.add_assoc], rfl⟩⟩
   simp only [zaQ, zeK] at hsF ⊢
   simpa [zgZ, AV.sc, AV.scV, AV.scA, AV.scB] using hsF
  ·obtain rfl : k = d + 1 - j := by omega
   have hjk : ¬ ((j : Int) + ((d + 1 - j : Nat) : Int) ≤ d) := by omega
   simp [zoO]
   rw [zam (by omega) (by omega)]
   simp only [hjk, decide_false, zcq]
   have hwr : IntKind.i64.wrap (r + 1) = r + 1 := zam (by omega) (by omega)
   simp only [hwr]
   refine zfJ (fun hb => ⟨⟨rfl, rfl⟩, h1 (by simp at hb; omega)⟩) (fun hb => ?_)
   have := h2 (by simp at hb; omega)
   simpa using this
theorem zzG (rows : List (List IT)) : rows.flatMap zbk = rows.map zdb := by
 induction rows with
 | nil => rfl
 | cons r rows ih => rw [List.flatMap_cons, ih]; rfl
theorem zBa {t0 t28 t29 t30 t46 t47 : AV} {K : Kt} {Kb4 Kb12 : Lt} (H1 : zaa) (hs1 : HSc H1) (d : Nat) (s : LL) (hsl : s.length = d + 1) (hs5 : zaq s ≤ 500) (st : LR) (hl : st.length = d + 1) (hd : d ≤ 1000) (j : Nat) (hj : j ≤ d) (rows : List (List IT)) (hrl : rows.length ≤ 1000) (hrow : ∀ r ∈ rows, r.length ≤ 1000) (ht : zaq st ≤ 500)
  {lo : Nat} {c : AV} (hc : RdC H1 lo zbk za1 1 c rows)
  (h1 : rwL s d j rows st (zaq st) = none → ∀ st', K (.tup [.snil, .bool false]) (NR H1 st'))
  (h2 : ∀ st', rwL s d j rows st (zaq st) = some (st', zaq st') → st'.length = d + 1 → zaq st' ≤ 500 → Kb12 (zgX t0 (.int .i64 d) (lsV s) (.ms H1.length 0 (d + 1) (d + 1)) (.int .i64 (zaq st' : Nat)) t28 t29 t30 t46 t47 (.int .i64 (j + 1 : Nat))) (NR H1 st')) :
  zoW t0 (.int .i64 d) (lsV s) (.ms H1.length 0 (d + 1) (d + 1)) (.int .i64 (zaq st)) (.int .i64 j) t28 t29 t30 t46 t47 (.int .i64 j) c (.int .i64 rows.length) (.int .i64 0) (NR H1 st) K Kb4 Kb12 := by
 refine zHp (Inv := fun q t14 t55 H' => ∃ (r : Nat) (st' : LR), r ≤ rows.length ∧ q = rows.length - r ∧ t55 = .int .i64 r ∧ t14 = .int .i64 (zaq st' : Nat) ∧ H' = NR H1 st' ∧ st'.length = d + 1 ∧ zaq st' ≤ 500 ∧ rwL s d j (rows.drop r) st' (zaq st') = rwL s d j rows st (zaq st)) rows.length ?_ ?_
 ·intro _; exact ⟨0, st, by omega, by omega, rfl, rfl, rfl, hl, ht, by simp⟩
 ·rintro q t14 t55 H' ⟨r, st', hr, rfl, rfl, rfl, rfl, hl', ht', heq⟩ hsc hlen hsF Kb hKb
  by_cases hlt : r < rows.length
  ·rw [List.drop_eq_getElem_cons hlt, rwL] at heq
   rcases hc with ⟨rfl, _⟩ | ⟨b, hb, rfl, hH⟩
   ·simp at hlt
   have hH' : (NR H1 st')[b]? = some (.vec za1 1 rows.length (rows.flatMap zbk)) := by
    obtain ⟨J, hJ⟩ := zca zbk za1 1 H1 st'
    show (NX zbk za1 1 H1 st')[b]? = _
    rw [← hJ, List.getElem?_append_left (List.getElem?_eq_some_iff.1 hH).1]; exact hH
   have hget : (rows.map zdb)[r]? = some (zdb rows[r]) := by simp [hlt]
   have hap := zfM rows[r] (s.take (d + 1 - j)) j st' (by simp; omega)
   simp [zoN, hlt, hH', zzG]
   rw [zcW _ hget]
   refine zBb H1 hs1 d s hsl hs5 st' hl' hd _ j rows[r] hj ht' (hrow _ (List.getElem_mem hlt)) ht' (by omega) (fun hb => ?_) (fun hb => ?_)
   ·rw [if_pos hb] at heq
    exact h1 heq.symm _
   ·rw [if_neg hb, ← hap] at heq
    refine hKb _ _ ⟨rows.length - (r + 1), by omega, Back.at (J := []) (H2 := NR H1 (apK rows[r] (s.take (d + 1 - j)) j st')) (by simp) (by simp only [zaQ, zeK]; omega) (zcb hs1 fun x n => zgz x n) ?_ ⟨_, _, rfl, r + 1, _, by omega, rfl, by simp, by rw [hap], rfl, by simpa using hl', by omega, heq⟩⟩
    simp only [zaQ, zeK] at hsF ⊢
    simpa [zgY, AV.sc, AV.scV, AV.scA, AV.scB] using hsF
  ·obtain rfl : r = rows.length := by omega
   rw [List.drop_length, rwL] at heq
   simp [zoN]
   rw [zam (by omega) (by omega)]
   exact h2 st' heq.symm hl' ht'
theorem zeV {α : Type} {l : List (List α)} {x : List α} (h : x ∈ l) : x.length ≤ zaq l := by
 induction l with
 | nil => simp at h
 | cons a l ih =>
  rw [ziD]
  rcases List.mem_cons.1 h with rfl | h
  ·omega
  ·have := ih h; omega
theorem zA9 {t0 t28 t29 : AV} {q30 : Int} {K : Kt} {Kb4 : Lt} (H1 : zaa) (hs1 : HSc H1) (d : Nat) (s : LL) (hsl : s.length = d + 1) (hs5 : zaq s ≤ 500) (hd : d ≤ 1000) (l : LR) (hll : l.length = d + 1) (hlt5 : zaq l ≤ 500) (hrow : ∀ rows ∈ l, ∀ r ∈ rows, r.length ≤ 1000)
  {lo : Nat} {t46 : AV} (hl46 : RdL H1 lo zbk za1 1 t46 l) (h30 : 0 ≤ q30 ∧ q30 ≤ 1000000)
  (h1 : jL s d l 0 (List.replicate (d + 1) []) 0 = none → ∀ st', K (.tup [.snil, .bool false]) (NR H1 st'))
  (h2 : ∀ st', jL s d l 0 (List.replicate (d + 1) []) 0 = some (st', zaq st') → st'.length = d + 1 → zaq st' ≤ 500 → Kb4 (zg0 t0 (.int .i64 d) (.ms H1.length 0 (d + 1) (d + 1)) t28 t29 (.int .i64 (q30 + 1))) (NR H1 st')) :
  zjZ t0 (.int .i64 d) (lsV s) (.ms H1.length 0 (d + 1) (d + 1)) (.int .i64 0) t28 t29 (.int .i64 q30) t46 (.int .i64 (d + 1 : Nat)) (.int .i64 0) (NR H1 (List.replicate (d + 1) [])) K Kb4 := by
 obtain ⟨id, cs, rfl, hid, hcl, hget⟩ := hl46.get
 refine zHo (Inv := fun q t14 t48 H' => ∃ (j : Nat) (st' : LR), j ≤ d + 1 ∧ q = d + 1 - j ∧ t48 = .int .i64 j ∧ t14 = .int .i64 (zaq st' : Nat) ∧ H' = NR H1 st' ∧ st'.length = d + 1 ∧ zaq st' ≤ 500 ∧ jL s d (l.drop j) j st' (zaq st') = jL s d l 0 (List.replicate (d + 1) []) 0) (d + 1) ?_ ?_
 ·intro _; exact ⟨0, _, by omega, by omega, rfl, by simp, rfl, by simp, by simp, by simp⟩
 ·rintro q t14 t48 H' ⟨j, st', hj, rfl, rfl, rfl, rfl, hl', ht', heq⟩ hsc hlen hsF Kb hKb
  by_cases hlt : j < d + 1
  ·have hjl : j < l.length := by omega
   rw [List.drop_eq_getElem_cons hjl, jL] at heq
   obtain ⟨c, hc1, hc2⟩ := hget j hjl
   have hid' : (NR H1 st')[id]? = some (.cells cs) := by
    obtain ⟨J, hJ⟩ := zca zbk za1 1 H1 st'
    show (NX zbk za1 1 H1 st')[id]? = _
    rw [← hJ, List.getElem?_append_left (List.getElem?_eq_some_iff.1 hid).1]; exact hid
   have hmem := List.getElem_mem hjl
   have hlenc : ∀ k : AV → Prop, k (.int .i64 l[j].length) → zah 1 c k := fun k hk => by
    rcases hc2 with ⟨h, h'⟩ | ⟨b, _, h', _⟩
    ·rw [h'] ; rw [h] at hk; simpa using hk
    ·rw [h']; simpa using hk
   have hj2 : (j : Int) < (d : Int) + 1 := by omega
   have hj3 : (j : Int) < (l.length : Int) := by omega
   simp [zoM, hj2, hj3, hid']
   rw [zcW _ hc1]
   refine hlenc _ ?_
   refine zBa H1 hs1 d s hsl hs5 st' hl' hd j (by omega) l[j] (by have := zeV hmem; omega) (fun r hr => hrow _ hmem r hr) ht' hc2 (fun hn => ?_) (fun st2 hn hl2 ht2 => ?_)
   ·rw [hn] at heq
    exact h1 heq.symm
   ·rw [hn] at heq
    refine hKb _ _ ⟨d + 1 - (j + 1), by omega, Back.at (J := []) (H2 := NR H1 st2) (by simp) (by simp only [zaQ, hl2, List.length_replicate]; omega) (zcb hs1 fun x n => zgz x n) ?_ ⟨_, _, rfl, j + 1, st2, by omega, rfl, by simp, rfl, rfl, hl2, ht2, heq⟩⟩
    simp only [zaQ, hl', hl2] at hsF ⊢
    simpa [zgX, AV.sc, AV.scV, AV.scA, AV.scB] using hsF
  ·obtain rfl : j = d + 1 := by omega
   rw [List.drop_of_length_le (by omega), jL] at heq
   simp [zoM]
   rw [zam (by omega) (by omega)]
   exact h2 st' heq.symm hl' ht'
theorem zzY {s : LL} {d i : Nat} {l : LR} (hs : s.length = d + 1) (hl : l.length = d + 1) (h : ∀ rows ∈ l, ∀ r ∈ rows, r.length = i) : ∀ rows ∈ jT s d l 0 (List.replicate (d + 1) []), ∀ r ∈ rows, r.length = i + 1 := by
 intro rows hr r hrr
 obtain ⟨m, hm, rfl⟩ := List.mem_iff_getElem.1 hr
 rw [← zc4 hm, zlZ s d m hs (by simp at hm; omega) l 0 _ (by omega) (by simp)] at hrr
 have h0 : (List.replicate (d + 1) ([] : List (List IT))).getD m [] = [] := by
  simp [List.getD_eq_getElem?_getD, List.getElem?_replicate]; split <;> rfl
 rw [h0, List.nil_append, zhy] at hrr
 obtain ⟨t, row, i', _, h2, _, rfl⟩ := hrr
 have htl : t < l.length := by
  by_cases ht : t < l.length
  ·exact ht
  ·rw [List.getD_eq_getElem?_getD, List.getElem?_eq_none (by omega)] at h2; simp at h2
 rw [zc4 htl] at h2
 simp [h _ (List.getElem_mem htl) row h2]
theorem zAZ (H : zaa) (d : Nat) : RdL (H ++ [AB.cells (AV.ov (H.length + 1) 1 :: List.replicate d AV.snil), AB.vec za1 1 1 [AV.snil]]) H.length zbk za1 1 (.ms H.length 0 (d + 1) (d + 1)) (([[]] :: List.replicate d []) : LR) := by
 refine ⟨H.length, AV.ov (H.length + 1) 1 :: List.replicate d AV.snil, Nat.le_refl _, by simp, by simp, ?_⟩
 exact ⟨.inr ⟨H.length + 1, by omega, rfl, by simp [zbk, zdb]⟩, All2.replicate (.inl ⟨rfl, rfl⟩) d⟩
theorem zA8 {H' : zaa} {lo : Nat} {t8 : AV} {l : LR} (h : RdL H' lo zbk za1 1 t8 l) : OutX H' lo t8 (lsR l) :=
 h.out (g := fun r => [.sl (IT.css r) .none]) (fun _ _ x _ => zA6 x) (fun _ => rfl)
theorem zwc (data : List Dat) (d : Nat) (hd : d ≤ 6) (U : VT → Option LL) (ts : List VT) (hU : ∀ t ∈ ts, UpC data d t (U t)) (hn : ts.length ≤ 1000) (H : zaa) (K : Kt) (hK : K (zgA (zb5 d (ts.map U))) H) :
  ACalls tP zh6 [.sl (data.map Dat.cs) .none, .sl (VT.css ts) .none, .int .i64 d] H K := by
 refine ACalls.out3 (zHu fun hs => ?_)
 simp [zv2]
 rw [zam (by omega) (by omega)]
 simp [za4, zcO]
 refine ⟨by omega, rfl, ?_⟩
 have hfail : ∀ H', H <+: H' → zb5 d (ts.map U) = none → zfE H.length K (.tup [.snil, .bool false]) H' := fun H' hp h => by
  obtain ⟨J, rfl⟩ := hp
  rw [h] at hK
  exact ⟨.tup [.snil, .bool false], H, J, rfl, Nat.le_refl _, hs, .tup ⟨.two (.one (.wk (.atom (.refl _)) rfl rfl)), .two (.one (.wk (.atom (.refl _)) rfl rfl)), trivial⟩, hK⟩
 refine zHs (Inv := fun q t8 t30 H' => ∃ (i : Nat) (l : LR), i ≤ ts.length ∧ q = ts.length - i ∧ t30 = .int .i64 i ∧ H <+: H' ∧ RdL H' H.length zbk za1 1 t8 l ∧ l.length = d + 1 ∧ zaq l ≤ 500 ∧ (∀ rows ∈ l, ∀ r ∈ rows, r.length = i) ∧ zcw d ((ts.drop i).map U) l = zb5 d (ts.map U)) ts.length ?_ ?_
 ·intro _
  refine ⟨0, [[]] :: List.replicate d [], by omega, by omega, rfl, ⟨_, rfl⟩, zAZ H d, by simp, by simp, ?_, by simp [zb5]⟩
  intro rows hr r hrr
  rcases List.mem_cons.1 hr with rfl | hr
  ·simp at hrr; simp [hrr]
  ·rw [List.eq_of_mem_replicate hr] at hrr; simp at hrr
 ·rintro q t8 t30 H' ⟨i, l, hi, rfl, rfl, hpre, hrd, hll, hlt5, hrow, heq⟩ hsc hlen hsF Kb hKb
  by_cases hlt : i < ts.length
  ·rw [List.drop_eq_getElem_cons hlt, List.map_cons] at heq
   obtain ⟨x, y, z, hvx, hx, hy, hz⟩ := zaX ts[i]
   obtain ⟨hU1, hU2⟩ := hU ts[i] (List.getElem_mem hlt)
   simp [zoQ, hlt, hvx, hx, hy, hz]
   rw [← hvx]
   refine hU2 _ _ ?_
   cases hus : U ts[i] with
   | none =>
    rw [hus, zcw] at heq
    simp [upR]
    exact ⟨⟨rfl, rfl⟩, hfail _ (List.IsPrefix.trans hpre ⟨_, rfl⟩) heq.symm⟩
   | some s =>
    rw [hus, zcw] at heq
    obtain ⟨hsl, hs5⟩ := hU1 s hus
    simp [upR]
    rw [zam (by omega) (by omega)]
    simp [za4]
    refine ⟨by omega, ?_⟩
    obtain ⟨id, cs, hid⟩ := hrd.get
    have hln : ∀ k : AV → Prop, k (.int .i64 (d + 1 : Nat)) → zah 1 t8 k := fun k hk => by rw [hid.1]; simpa [hll] using hk
    refine hln _ ?_
    have hc1 : (ts[i].cs).all (AV.scA (H'.length + 1)) = true := by
     generalize ts[i] = u
     cases u; rfl
    have hpl := hpre.length_le
    have hs1 : HSc (H' ++ [.cells ts[i].cs]) := hsc.append (by simp [AB.sc])
    have hp1 : H <+: H' ++ [.cells ts[i].cs] := List.IsPrefix.trans hpre ⟨_, rfl⟩
    have key := zA9 (t0 := .sl (data.map Dat.cs) .none) (t28 := .sl (VT.css ts) .none) (t29 := .int .i64 ts.length) (q30 := i) (K := zfE H.length K) (Kb4 := Kb) (H' ++ [.cells ts[i].cs]) hs1 d s hsl hs5 (by omega) l hll hlt5
     (fun rows hr r hrr => by rw [hrow rows hr r hrr]; omega) (hrd.pre ⟨_, rfl⟩ (Nat.le_refl _)) ⟨by omega, by omega⟩
     (fun hn st' => by
      rw [hn] at heq
      exact hfail _ (List.IsPrefix.trans hp1 (zca _ _ _ _ _)) heq.symm)
     (fun st' hn hl2 ht2 => by
      rw [hn] at heq
      have hj := zhI s d hsl l 0 (List.replicate (d + 1) []) (by omega) (by simp) (by simp)
      simp only [ziE] at hj
      rw [hj] at hn
      have hst : jT s d l 0 (List.replicate (d + 1) []) = st' := by
       split at hn
       ·cases hn
       ·injection hn with hn
        exact congrArg Prod.fst hn
      refine hKb _ _ ⟨ts.length - (i + 1), by omega, Back.at (J := []) (H2 := NR (H' ++ [.cells ts[i].cs]) st') (by simp) (by simp only [zaQ, List.length_append] at hlen ⊢; simp only [List.length_cons, List.length_nil] at hlen ⊢; omega) (zcb hs1 fun x n => zgz x n) ?_ ⟨_, _, rfl, i + 1, st', by omega, rfl, by simp, List.IsPrefix.trans hp1 (zca _ _ _ _ _), ?_, hl2, ht2, ?_, heq⟩⟩
      ·simp only [zaQ, List.length_append]
       simp [zg0, AV.sc, AV.scV, AV.scA, AV.scB]
       omega
      ·have := zlb zbk za1 1 H.length (H' ++ [.cells ts[i].cs]) [] st' (by simp; omega)
       rw [hl2] at this
       simpa using this
      ·rw [← hst]; exact zzY hsl hll hrow)
    have e1 : H' ++ [AB.cells ts[i].cs, AB.cells (List.replicate (d + 1) AV.snil)] = (H' ++ [AB.cells ts[i].cs]) ++ [AB.cells (List.replicate (d + 1) AV.snil)] := by simp
    rw [e1]
    unfold zjZ at key ⊢
    have := ALoop.nx zbk za1 1 (d + 1) key
    simpa using this
  ·obtain rfl : i = ts.length := by omega
   rw [List.drop_length, List.map_nil, zcw] at heq
   simp [zoQ]
   rw [← heq] at hK
   obtain ⟨id, cs, hid⟩ := hrd.get
   have hlo := zA8 hrd
   obtain ⟨J, rfl⟩ := hpre
   refine ⟨⟨by rw [hid.1]; rfl, rfl⟩, .tup [lsR l, .bool true], H, J, rfl, Nat.le_refl _, hs, .tup ⟨hlo, .two (.one (.wk (.atom (.refl _)) rfl rfl)), trivial⟩, hK⟩
theorem zDe : ∀ (m : Nat) (v : VT), v.nodes ≤ m → v.nodes ≤ 1000000000 → ∀ (H : zaa) (K : AV → zaa → Prop), K (.int .i64 v.nodes) H → ACalls tP zhP [.agg v.cs] H K := by
 intro m
 induction m with
 | zero => intro v h; have := v.nodes_pos; omega
 | succ m ih =>
  intro v hv hb H K hK
  obtain ⟨k, n, ks⟩ := v
  have hnl : VT.nodesL ks + 1 ≤ 1000000000 := by simpa [VT.nodes] using hb
  have hll := VT.len_le ks
  refine ACalls.out (zDc fun hs => ?_)
  simp [VT.cs, zuA]
  refine zDa (Inv := fun q t3 t4 H' => ∃ i : Nat, i ≤ ks.length ∧ q = ks.length - i ∧ t4 = .int .i64 i ∧ t3 = .int .i64 (1 + VT.nodesL (ks.take i) : Nat) ∧ H' = H ++ [.cells [.int .i64 k, .int .i64 n, .sl (VT.css ks) .none]]) ks.length ?_ ?_
  ·intro _; exact ⟨0, by omega, by omega, rfl, by simp [VT.nodesL], rfl⟩
  ·rintro q t3 t4 H' ⟨i, hi, rfl, rfl, rfl, rfl⟩ hsc hlen hsF Kb hKb
   by_cases hlt : i < ks.length
   ·have hki := VT.kid_lt (k := k) (n := n) hlt
    have h1 := VT.nodesL_take hlt
    have h2 := VT.nodesL_take_le ks (i + 1)
    obtain ⟨x, y, z, hvx, hx, hy, hz⟩ := zaX ks[i]
    simp [znx, hlt, hvx, hx, hy, hz]
    rw [← hvx]
    refine ih ks[i] (by omega) (by omega) _ _ ?_
    simp
    rw [zam (by omega) (by omega), zam (by omega) (by omega), zua]
    refine hKb _ _ ⟨ks.length - (i + 1), by omega, Back.same (by simp) hsc ?_ ⟨_, _, rfl, i + 1, by omega, rfl, by simp, ?_, rfl⟩⟩
    ·simp [ziX, AV.sc, AV.scV, AV.scA, AV.scB]
    ·rw [h1]; congr 1; omega
   ·obtain rfl : i = ks.length := by omega
    simp [znx]
    refine Out.int rfl (Nat.le_refl _) hs ?_
    simpa [VT.nodes, Int.add_comm] using hK
end Go.Proofs.YtddlhljflggenaaGreatDoor
