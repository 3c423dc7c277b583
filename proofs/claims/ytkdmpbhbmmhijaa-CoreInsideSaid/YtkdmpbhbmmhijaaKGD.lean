import Derived.Test.YtkdmpbhbmmhijaaKB3
import Derived.Test.YtkdmpbhbmmhijaaKNum
import Derived.Test.YtkdmpbhbmmhijaaProg
import Derived.KernelRfl
set_option linter.unusedSimpArgs false
set_option linter.unusedVariables false
namespace Go.Proofs.Ytkdmpbhbmmhijaa
open Go Go.Abs
set_option maxRecDepth 8000
@[congr] theorem zPT {m : WM} {g : Bool} {H : zaa} {p : (AV → zaa → Prop) → Prop} {k : AV → zaa → Prop} : zbv m g H p k = zbv m g H p k := rfl
theorem zdo {H : zaa} {p : (AV → zaa → Prop) → Prop} {k : AV → zaa → Prop} (r : AV) (H' : zaa) (h : p fun v H2 => v = r ∧ H2 = H') (hk : k r H') : zbv .w false H p k := ⟨r, H', h, (fun h => by cases h), hk⟩
theorem znT {H : zaa} {g : Bool} {p : (AV → zaa → Prop) → Prop} {k : AV → zaa → Prop} (r : AV) (H' : zaa) (h : p fun v H2 => v = r ∧ H2 = H') (hg : GrowA H H') (hk : k r H') : zbv .g g H p k := ⟨r, H', h, fun _ => hg, hk⟩
theorem zfc {H : zaa} {g : Bool} {p : (AV → zaa → Prop) → Prop} {k : AV → zaa → Prop} (r : AV) (h : p fun v H2 => v = r ∧ H2 = H) (hk : k r H) : zbv .g g H p k := ⟨r, H, h, fun _ => .inl rfl, hk⟩
@[simp] theorem zSi {l : List Int} {i : Nat} (h : i < (ints l).length) : (ints l)[i] = [.int .i64 (l[i]'(by simpa using h))] := by simp [ints]
@[simp] theorem zSy {l : List (List Int)} {i : Nat} (h : i < (rows l).length) : (rows l)[i] = [.sl (ints (l[i]'(by simpa using h))) .none] := by simp [rows]
def zaB (st : List Bool) (l : List Int) (b : Bool) : List Bool := l.foldl (fun st v => st.set v.toNat b) st
@[simp] theorem zpn (l : List Int) (b : Bool) : ∀ st : List Bool, (zaB st l b).length = st.length := by
 induction l with
 | nil => intro st; rfl
 | cons v l ih => intro st; rw [zaB, List.foldl_cons, ← zaB, ih]; simp
theorem zkK (st : List Bool) (v : Int) (l : List Int) (b : Bool) : zaB st (v :: l) b = zaB (st.set v.toNat b) l b := rfl
theorem zpo (st : List Bool) (v : Int) (l : List Int) (b : Bool) : zaB st (l ++ [v]) b = (zaB st l b).set v.toNat b := by simp [zaB]
mutual
def za1 (c : Cor) : Nat → Nat → List Bool → Option (List Bool)
 | 0, _, _ => none
 | m + 1, i, st => match c.exprs[i]? with
  | none => none
  | some e => if e.vars.all (fun v => decide (0 ≤ v) && st.getD v.toNat false) = true then zbA c m e.binds e.kids st else none
termination_by m _ _ => (m, 0)
def zbA (c : Cor) (m : Nat) : List (List Int) → List Int → List Bool → Option (List Bool)
 | b :: bs, k :: ks, st => match za1 c m k.toNat (zaB st b true) with
  | none => none
  | some st' => zbA c m bs ks (zaB st' b false)
 | [], _, st => some st
 | _ :: _, [], st => some st
termination_by bs _ _ => (m, bs.length + 1)
end
def zaN (H : zaa) (c : Cor) (st : List Bool) : zaa := H ++ [za7 c, .cells (zaV st), .cells [.ms (H.length + 1) 0 c.vars.length c.vars.length], .cells [.fn zeC [.ptr (H.length + 2) 0]],
 .cells [.fn zeD [.ptr H.length 0, .ptr (H.length + 2) 0, .ptr (H.length + 3) 0, .ptr (H.length + 4) 0]]]
theorem zpi {H : zaa} (hs : HSc H) (c : Cor) (st : List Bool) : HSc (zaN H c st) := hs.append (by simp [AB.sc, za7, zdp, AV.scA, AV.scB])
@[simp] theorem zSK (H : zaa) (c : Cor) (st : List Bool) : (zaN H c st).length = H.length + 5 := by simp [zaN]
theorem zD0 : zcy tP zeC = true := by kernel_rfl
theorem zD1 : zcy tP zeD = true := by kernel_rfl
theorem zhw {H : zaa} {c : Cor} {l : List Int} {st : List Bool} {b : Bool} {J : zaa} (hsH : HSc H) (hst : st.length = c.vars.length) (hl : l.length ≤ 1000000) (hr : ∀ x ∈ l, 0 ≤ x ∧ x < (c.vars.length : Int)) (K : AV → zaa → Prop)
  (hK : K (.tup []) (zaN H c (zaB st l b) ++ J)) :
  aCallV tP (.fn zeC [.ptr (H.length + 2) 0]) [.sl (ints l) .none, .bool b] (zaN H c st ++ J) K := by
 simp only [aCallV, zD0]
 refine zM3 fun hs => ?_
 simp [zrL]
 refine zM2 (Inv := fun q t9 H' => ∃ j : Nat, j ≤ l.length ∧ q = l.length - j ∧ t9 = .int .i64 j ∧ H' = zaN H c (zaB st (l.take j) b) ++ J) l.length ?_ ?_
 ·intro _; exact ⟨0, by omega, by omega, rfl, by simp [zaB]⟩
 ·rintro q t9 H' ⟨j, hj, rfl, rfl, rfl⟩ hsc hlen hsF Kb hKb
  by_cases hjl : j < l.length
  ·have hrr := hr _ (List.getElem_mem hjl)
   obtain ⟨e, he⟩ : ∃ e : Nat, l[j] = e := ⟨(l[j]).toNat, by omega⟩
   have hen : e < c.vars.length := by omega
   have hnx : zaB st (l.take (j + 1)) b = (zaB st (l.take j) b).set e b := by rw [zbR hjl, zpo, he]; rfl
   have hsl : (zaB st (l.take j) b).length = c.vars.length := by rw [zpn, hst]
   generalize zaB st (l.take j) b = st1 at *
   simp [zmX, hjl, ints, he, zaN, hen, hsl]
   rw [zar (by omega) (by omega), zer (by omega)]
   refine ⟨by omega, hKb _ _ ⟨l.length - (j + 1), by omega, Back.at (J := []) (H2 := zaN H c (st1.set e b) ++ J) (by simp [zaN]) (by simp [zaN]) ?_ ?_ ⟨_, rfl, j + 1, by omega, rfl, by simp, by rw [hnx]⟩⟩⟩
   ·exact HSc.swap hs (zpi hsH _ _) (by simp [zaN])
   ·simp [zgK, AV.sc, AV.scV, AV.scA, AV.scB, zaN]
  ·obtain rfl : j = l.length := by omega
   rw [List.take_length] at *
   simp [zmX]
   simpa [zaY] using hK
structure InP (c : Cor) : Prop where
 kcore : zaR c
 binds : ∀ i (h : i < c.exprs.length), (c.exprs[i]).binds.length = (c.exprs[i]).kids.length
 kids : ∀ i (h : i < c.exprs.length), ∀ k ∈ (c.exprs[i]).kids, (i : Int) < k ∧ k < c.exprs.length
 brange : ∀ i (h : i < c.exprs.length), ∀ l ∈ (c.exprs[i]).binds, ∀ x ∈ l, 0 ≤ x ∧ x < (c.vars.length : Int)
 crange : ∀ i (h : i < c.codes.length), (∀ x ∈ (c.codes[i]).params, 0 ≤ x ∧ x < (c.vars.length : Int)) ∧ ∀ x ∈ (c.codes[i]).capt, 0 ≤ x ∧ x < (c.vars.length : Int)
 body : ∀ i (h : i < c.codes.length), ∃ b : Nat, (c.codes[i]).body = b ∧ b < c.exprs.length
theorem zG8 (c : Cor) (m : Nat) {bs : List (List Int)} {ks : List Int} {j : Nat} (h1 : j < bs.length) (h2 : j < ks.length) (st : List Bool) : zbA c m (bs.drop j) (ks.drop j) st = match za1 c m (ks[j]).toNat (zaB st bs[j] true) with
  | none => none
  | some st' => zbA c m (bs.drop (j + 1)) (ks.drop (j + 1)) (zaB st' bs[j] false) := by
 rw [List.drop_eq_getElem_cons h1, List.drop_eq_getElem_cons h2, zbA]
theorem zHd {c : Cor} (hp : InP c) {H : zaa} (hsH : HSc H) : ∀ (m i : Nat), c.exprs.length - i ≤ m → i < c.exprs.length → ∀ (st : List Bool) (J : zaa), st.length = c.vars.length → ∀ (K : AV → zaa → Prop),
  (∀ st', za1 c m i st = some st' → st'.length = c.vars.length → K (.bool true) (zaN H c st' ++ J)) → (za1 c m i st = none → ∀ st', st'.length = c.vars.length → K (.bool false) (zaN H c st' ++ J)) →
  aCallV tP (.fn zeD [.ptr H.length 0, .ptr (H.length + 2) 0, .ptr (H.length + 3) 0, .ptr (H.length + 4) 0]) [.int .i64 i] (zaN H c st ++ J) K := by
 intro m
 induction m with
 | zero => intro i h1 h2; omega
 | succ m ih =>
 intro i hm hi st J hst K hK1 hK2
 simp only [aCallV, zD1]
 refine ACalls.out (zM9 fun hs => ?_)
 obtain ⟨x, y, z, hv, hx, hy, hz, hat⟩ := zdH hi
 obtain ⟨k1, k2, k3, ⟨k4, k5⟩, k6, k7⟩ := hp.kcore
 obtain ⟨kv, kb, kk, _, kbl⟩ := k7 _ (List.getElem_mem hi)
 have hbk := hp.binds i hi
 have hkd := hp.kids i hi
 have hbr := hp.brange i hi
 have hvis : za1 c (m + 1) i st = if (c.exprs[i]).vars.all (fun v => decide (0 ≤ v) && st.getD v.toNat false) = true then zbA c m (c.exprs[i]).binds (c.exprs[i]).kids st else none := by
  rw [za1, List.getElem?_eq_getElem hi]
 rw [hvis] at hK1 hK2
 have hC : za7 c = .cells [.sl (c.data.map Dat.cs) .none, .sl (c.codes.map Cod.cs) .none, .sl (VT.css c.vars) .none, .sl (c.exprs.map CEx.cs) .none] := rfl
 have hg0 : ∀ st J, (zaN H c st ++ J)[H.length]? = some (za7 c) := by intro st J; simp [zaN]
 have hg1 : ∀ st J, (zaN H c st ++ J)[H.length + 1]? = some (.cells (zaV st)) := by intro st J; simp [zaN]
 have hg2 : ∀ st J, (zaN H c st ++ J)[H.length + 2]? = some (.cells [.ms (H.length + 1) 0 c.vars.length c.vars.length]) := by intro st J; simp [zaN]
 have hg3 : ∀ st J, (zaN H c st ++ J)[H.length + 3]? = some (.cells [.fn zeC [.ptr (H.length + 2) 0]]) := by intro st J; simp [zaN]
 have hg4 : ∀ st J, (zaN H c st ++ J)[H.length + 4]? = some (.cells [.fn zeD [.ptr H.length 0, .ptr (H.length + 2) 0, .ptr (H.length + 3) 0, .ptr (H.length + 4) 0]]) := by intro st J; simp [zaN]
 have hg5 : ∀ st X, (zaN H c st ++ (J ++ [X]))[H.length + 5 + J.length]? = some X := by
  intro st X
  have : H.length + 5 + J.length = (zaN H c st ++ J).length := by simp
  rw [← List.append_assoc, this, ztu]; rfl
 have hlenJ : ∀ st', (zaN H c st' ++ J).length = (zaN H c st ++ J).length := by intro st'; simp
 have hscJ : ∀ st', HSc (zaN H c st' ++ J) := fun st' => HSc.swap hs (zpi hsH _ _) (by simp)
 have hO : ∀ (b : Bool) st' J', K (.bool b) (zaN H c st' ++ J) → Out (zaN H c st ++ J).length K (.bool b) (zaN H c st' ++ J ++ J') := fun b st' J' h => Out.bool rfl (by simp) (hscJ st') h
 simp [zrM, hg0, hC, hi, hat, hx, hy, hz]
 have hOt : ∀ st' X, zbA c m (c.exprs[i]).binds (c.exprs[i]).kids st = some st' → (c.exprs[i]).vars.all (fun v => decide (0 ≤ v) && st.getD v.toNat false) = true → st'.length = c.vars.length → Out (H.length + 5 + J.length) K (.bool true) (zaN H c st' ++ (J ++ [X])) := fun st' X h1 h2 h3 => by
  have := hO true st' [X] (hK1 st' (by rw [if_pos h2]; exact h1) h3)
  simpa using this
 have hOf : ∀ st' X, (if (c.exprs[i]).vars.all (fun v => decide (0 ≤ v) && st.getD v.toNat false) = true then zbA c m (c.exprs[i]).binds (c.exprs[i]).kids st else none) = none → st'.length = c.vars.length → Out (H.length + 5 + J.length) K (.bool false) (zaN H c st' ++ (J ++ [X])) := fun st' X h1 h3 => by
  have := hO false st' [X] (hK2 h1 st' h3)
  simpa using this
 have hscX : ∀ st' X, X.sc (H.length + 5 + J.length + 1) = true → HSc (zaN H c st' ++ (J ++ [X])) := fun st' X h => by
  rw [← List.append_assoc]; exact (hscJ st').snoc (by simpa using h)
 generalize hE : c.exprs[i] = E at *
 generalize hX : AB.cells [.int .i64 E.op, .int .i64 E.num, .sl (ints E.vars) .none, .sl (rows E.binds) .none, .sl (ints E.kids) .none, x, y, z] = X at *
 have hXs : X.sc (H.length + 5 + J.length + 1) = true := by
  rw [← hX]
  have := VT.cs_scA E.ty (H.length + 5 + J.length + 1)
  rw [hv] at this
  simp at this
  simp [AB.sc, this]
 refine zM7 (Inv := fun q t20 H' => ∃ j : Nat, j ≤ E.vars.length ∧ q = E.vars.length - j ∧ t20 = .int .i64 j ∧ (∀ v ∈ E.vars.take j, (decide (0 ≤ v) && st.getD v.toNat false) = true) ∧ H' = zaN H c st ++ (J ++ [X])) E.vars.length ?_ ?_
 ·intro _; exact ⟨0, by omega, by omega, rfl, by simp, rfl⟩
 ·rintro q t20 H' ⟨j, hj, rfl, rfl, hok, rfl⟩ hsc hlen hsF Kb hKb
  by_cases hjl : j < E.vars.length
  ·have hbad : (decide (0 ≤ E.vars[j]) && st.getD (E.vars[j]).toNat false) = false → Out (H.length + 5 + J.length) K (.bool false) (zaN H c st ++ (J ++ [X])) := fun h => by
    refine hOf _ _ ?_ hst
    rw [if_neg]
    intro h'
    rw [List.all_eq_true] at h'
    have := h' _ (List.getElem_mem hjl)
    rw [h] at this; cases this
   by_cases h0 : E.vars[j] < 0
   ·simp [zgL, hjl, ints, h0]
    exact hbad (by simp; omega)
   by_cases hge : (c.vars.length : Int) ≤ E.vars[j]
   ·simp [zgL, hjl, ints, h0, hg2, hge]
    exact hbad (by
     have : st.length ≤ (E.vars[j]).toNat := by omega
     simp [List.getElem?_eq_none this])
   obtain ⟨e, he⟩ : ∃ e : Nat, E.vars[j] = e := ⟨(E.vars[j]).toNat, by omega⟩
   have hen : e < c.vars.length := by omega
   have hen' : ¬ c.vars.length ≤ e := by omega
   have he0 : ¬ (e : Int) < 0 := by omega
   have hes : e < st.length := by omega
   cases hse : st[e] with
   | false =>
    simp [zgL, hjl, ints, he, he0, hg2, hen, hen', hg1, zaP, hes, hse]
    exact hbad (by rw [he]; simp [hes, hse])
   | true =>
    simp [zgL, hjl, ints, he, he0, hg2, hen, hen', hg1, zaP, hes, hse]
    rw [zar (by omega) (by omega)]
    refine hKb _ _ ⟨E.vars.length - (j + 1), by omega, Back.here (by simp) (hscX _ _ hXs) ?_ ⟨_, rfl, j + 1, by omega, rfl, by simp, ?_, rfl⟩⟩
    ·simp [zgM, AV.sc, AV.scV, AV.scA, AV.scB]; omega
    ·exact zb8 hjl hok (by rw [he]; simp [hes, hse])
  ·obtain rfl : j = E.vars.length := by omega
   rw [List.take_length] at hok
   have hall : E.vars.all (fun v => decide (0 ≤ v) && st.getD v.toNat false) = true := by rw [List.all_eq_true]; exact hok
   simp [zgL, hg5, ← hX]
   rw [hX]
   have hXE : ∀ st, (zaN H c st ++ (J ++ [X]))[H.length + 5 + J.length]? = some (.cells [.int .i64 E.op, .int .i64 E.num, .sl (ints E.vars) .none, .sl (rows E.binds) .none, .sl (ints E.kids) .none, x, y, z]) := fun st => by rw [hg5, hX]
   refine zM8 (Inv := fun q t43 H' => ∃ (j : Nat) (st1 : List Bool), j ≤ E.kids.length ∧ q = E.kids.length - j ∧ t43 = .int .i64 j ∧ st1.length = c.vars.length ∧ zbA c m (E.binds.drop j) (E.kids.drop j) st1 = zbA c m E.binds E.kids st ∧ H' = zaN H c st1 ++ (J ++ [X])) E.kids.length ?_ ?_
   ·intro _; exact ⟨0, st, by omega, by omega, rfl, hst, by simp, rfl⟩
   ·rintro q t43 H' ⟨j, st1, hj, rfl, rfl, hs1, hvk, rfl⟩ hsc1 hlen1 hsF1 Kb1 hKb1
    by_cases hjl : j < E.kids.length
    ·have hjb : j < E.binds.length := by omega
     rw [zG8 c m hjb hjl] at hvk
     have hkr := hkd _ (List.getElem_mem hjl)
     obtain ⟨k, hk⟩ : ∃ k : Nat, E.kids[j] = k := ⟨(E.kids[j]).toNat, by omega⟩
     have hbl := kbl _ (List.getElem_mem hjb)
     have hbr' := hbr _ (List.getElem_mem hjb)
     rw [hk, Int.toNat_natCast] at hvk
     simp [zmZ, hjl, hk, hg3, ← hX, hg5, hjb]
     rw [hX]
     refine zdo (.tup []) (zaN H c (zaB st1 E.binds[j] true) ++ (J ++ [X])) ?_ ?_
     ·exact zhw hsH hs1 (by omega) hbr' _ ⟨rfl, rfl⟩
     simp [hg4]
     refine ih k (by omega) (by omega) (zaB st1 E.binds[j] true) (J ++ [X]) (by simpa using hs1) _ (fun st2 h2 hl2 => ?_) (fun h2 st2 hl2 => ?_)
     ·rw [h2] at hvk
      simp [hg3, ← hX, hg5, hjb]
      rw [hX]
      refine zdo (.tup []) (zaN H c (zaB st2 E.binds[j] false) ++ (J ++ [X])) ?_ ?_
      ·exact zhw hsH hl2 (by omega) hbr' _ ⟨rfl, rfl⟩
      rw [zar (by omega) (by omega)]
      refine hKb1 _ _ ⟨E.kids.length - (j + 1), by omega, Back.here (by simp) (hscX _ _ hXs) ?_ ⟨_, rfl, j + 1, zaB st2 E.binds[j] false, by omega, rfl, by simp, by simpa using hl2, hvk, rfl⟩⟩
      simp [zgN, AV.sc, AV.scV, AV.scA, AV.scB]; omega
     ·rw [h2] at hvk
      simp
      exact hOf _ _ (by rw [if_pos hall]; exact hvk.symm) hl2
    ·obtain rfl : j = E.kids.length := by omega
     rw [List.drop_length, ← hbk, List.drop_length, zbA] at hvk
     simp [zmZ]
     exact hOt _ _ hvk.symm hall hs1
def zcv (c : Cor) : List Cod → List Bool → Bool
 | [], _ => true
 | f :: fs, st => match za1 c c.exprs.length f.body.toNat (zaB (zaB st f.params true) f.capt true) with
  | none => false
  | some st' => zcv c fs (zaB (zaB st' f.params false) f.capt false)
theorem zK1 (c : Cor) (hp : InP c) (H : zaa) (K : AV → zaa → Prop) (hK : K (.bool (zcv c c.codes (List.replicate c.vars.length false))) H) : ACalls tP zoO [.agg c.cs] H K := by
 refine ACalls.out (zK0 fun hs => ?_)
 obtain ⟨k1, k2, k3, ⟨k4, k5⟩, k6, k7⟩ := hp.kcore
 have hO : ∀ J, Out H.length K (.bool (zcv c c.codes (List.replicate c.vars.length false))) (H ++ J) := fun J => Out.bool rfl (Nat.le_refl _) hs hK
 have hg3 : ∀ st J, (zaN H c st ++ J)[H.length + 3]? = some (.cells [.fn zeC [.ptr (H.length + 2) 0]]) := by intro st J; simp [zaN]
 have hg4 : ∀ st J, (zaN H c st ++ J)[H.length + 4]? = some (.cells [.fn zeD [.ptr H.length 0, .ptr (H.length + 2) 0, .ptr (H.length + 3) 0, .ptr (H.length + 4) 0]]) := by intro st J; simp [zaN]
 have hg5 : ∀ st J, (zaN H c st ++ J)[H.length + 5]? = J[0]? := by intro st J; simp [zaN]
 have hg3' : ∀ st (h : H.length + 3 < (zaN H c st).length), (zaN H c st)[H.length + 3] = .cells [.fn zeC [.ptr (H.length + 2) 0]] := by
  intro st h
  have := hg3 st []
  rw [List.append_nil, List.getElem?_eq_getElem h] at this
  exact Option.some.inj this
 have hg4' : ∀ st (h : H.length + 3 + 1 < (zaN H c st).length), (zaN H c st)[H.length + 3 + 1] = .cells [.fn zeD [.ptr H.length 0, .ptr (H.length + 2) 0, .ptr (H.length + 3) 0, .ptr (H.length + 4) 0]] := by
  intro st h
  have := hg4 st []
  rw [List.append_nil, List.getElem?_eq_getElem h] at this
  exact Option.some.inj this
 simp [zq3, Cor.cs]
 simp only [zbd, Int.toNat_natCast, zeq]
 refine ⟨⟨by omega, by omega, by omega, by omega⟩, ?_⟩
 simp
 refine ⟨rfl, ⟨rfl, rfl, rfl, rfl⟩, ?_⟩
 refine zKZ (Inv := fun q t17 H' => ∃ (i : Nat) (st : List Bool), i ≤ c.codes.length ∧ q = c.codes.length - i ∧ t17 = .int .i64 i ∧ st.length = c.vars.length ∧ zcv c (c.codes.drop i) st = zcv c c.codes (List.replicate c.vars.length false) ∧ H' = zaN H c st) c.codes.length ?_ ?_
 ·intro _; exact ⟨0, _, by omega, by omega, rfl, by simp, rfl, by simp [zaN, za7]⟩
 ·rintro q t17 H' ⟨i, st, hi, rfl, rfl, hst, ho, rfl⟩ hsc hlen hsF Kb hKb
  by_cases hlt : i < c.codes.length
  ·obtain ⟨x, y, z, hv, hx, hy, hz, hat⟩ := zet hlt
   obtain ⟨_, kp, kc, _⟩ := k6 _ (List.getElem_mem hlt)
   obtain ⟨hr1, hr2⟩ := hp.crange i hlt
   obtain ⟨b, hb, hbl⟩ := hp.body i hlt
   rw [List.drop_eq_getElem_cons hlt, zcv] at ho
   generalize hf : c.codes[i] = f at *
   rw [hb, Int.toNat_natCast] at ho
   simp [zmc, hlt, hf, hat, hx, hy, hz, hg3, hg3', hg4']
   refine zhw hs hst (by omega) hr1 _ ?_
   simp [hg3, hg3', hg5]
   refine zhw hs (by simpa using hst) (by omega) hr2 _ ?_
   simp [hg4, hg4', hg5, hb]
   refine zHd hp hs c.exprs.length b (by omega) hbl _ _ (by simpa using hst) _ (fun st1 h1 hl1 => ?_) (fun h1 st1 hl1 => ?_)
   ·rw [h1] at ho
    simp [hg3, hg3', hg5]
    refine zhw hs hl1 (by omega) hr1 _ ?_
    simp [hg3, hg3', hg5]
    refine zhw hs (by simpa using hl1) (by omega) hr2 _ ?_
    rw [zar (by omega) (by omega)]
    refine hKb _ _ ⟨c.codes.length - (i + 1), by omega, Back.at (J := [_]) (H2 := zaN H c _) rfl (by simp) (zpi hs _ _) ?_ ⟨_, rfl, i + 1, _, by omega, rfl, by simp, by simpa using hl1, ho, rfl⟩⟩
    simp [zgm, AV.sc, AV.scV, AV.scA, AV.scB]
   ·rw [h1] at ho
    rw [← ho] at hO
    simp [zaN]
    exact hO _
  ·obtain rfl : i = c.codes.length := by omega
   rw [List.drop_length, zcv] at ho
   rw [← ho] at hO
   simp [zmc, zaN]
   exact hO _
end Go.Proofs.Ytkdmpbhbmmhijaa
namespace Go.Proofs.Ytkdmpbhbmmhijaa
open Go Go.Abs
set_option maxRecDepth 100000
def zdy : Nat → List Bool
 | 200023 => rl false [0,2]
 | 169020 => rl false [0,1,2,1,65,1,10,1,106]
 | 100013 => rl false [0,1,2,1,183]
 | 156007 => rl false [0,1,2,1,2,2,179]
 | _ => []
noncomputable def zeW : Code := Try.f76.body.getD .skip
noncomputable def zm0 : List ResultVar := Try.f76.results.toList
def zeX (t0 t3 t175 : AV) (H : zaa) (K : Kt) : Prop :=
 zag t175
 (zae true 8 t3 H fun t182 =>
 ACalls tP zo0 [t0, t182] H fun t183 H =>
 K t183 H)
 (zae true 8 t3 H fun t185 =>
 ACalls tP zo1 [t0, t185] H fun t186 H =>
 K t186 H)
noncomputable def zBc : Code := zap [1, 1, 1, 0, 1, 0, 1, 1, 1] zeW
def zBb (K : Kt) : AExit → List AV → zaa → Prop := zaq tP zdy [1, 1, 1, 0, 1, 0, 1, 1, 1] zeW (zal tP zm0 K)
def zBa (t0 t3 t69 t80 : AV) (H : zaa) (K : Kt) : Prop := AWp tP zBc (zBb K) (t0 :: ux 2 (t3 :: ux 65 (t69 :: ux 10 (t80 :: ux 106 [])))) H
def zrS (t0 t3 t69 t80 : AV) (H : zaa) (K : Kt) : Prop :=
 zag t80
 (zae true 8 t3 H fun t82 =>
 ACalls tP zcs [t82, (.int .i64 1), (.int .i64 0)] H fun t83 H =>
 zab t83 true H (fun K' => K' t0 H) fun t85 H =>
 zab t83 true H (fun K' => zaf 2 t3 (K' · H)) fun t86 H =>
 zab t83 true H (fun K' => zae false 1 t86 H (K' · H)) fun t87 H =>
 zab t83 true H (fun K' => zaf 5 t3 (K' · H)) fun t88 H =>
 zab t83 true H (fun K' => zae true 3 t88 H (K' · H)) fun t89 H =>
 zab t83 true H (fun K' => zaA 3 [(.int .i64 0), (.int .i64 0), .snil] 1 [(0, t89)] (K' · H)) fun t90 H =>
 zab t83 true H (fun K' => ACalls tP zb9 [t85, t87, t90] H K') fun t91 H =>
 zah t83 t91 (.bool false) fun t92 =>
 K t92 H)
 (zad .eql false t69 (.int .i64 5) fun t94 =>
 zag t94
 (zac H (fun K' => zai true 8 t3 H (K' · H)) fun t95 =>
 zay H (fun H K' => ACalls tP zcs [t95, (.int .i64 (-1)), (.int .i64 0)] H K') fun t96 =>
 zac H (fun K' => K' t96 H) fun t97 =>
 zab t97 true H (fun K' => zac H (fun K'' => zaf 2 t3 (K'' · H)) (K' · H)) fun t98 H =>
 zab t97 true H (fun K' => zac H (fun K'' => zai false 1 t98 H (K'' · H)) (K' · H)) fun t99 H =>
 zab t97 true H (fun K' => zac H (fun K'' => zak 1 t99 (K'' · H)) (K' · H)) fun t100 H =>
 zab t97 true H (fun K' => zac H (fun K'' => zad .geq false t100 (.int .i64 2) (K'' · H)) (K' · H)) fun t101 H =>
 zac H (fun K' => zah t97 t101 (.bool false) (K' · H)) fun t102 =>
 zac H (fun K' => K' t102 H) fun t103 =>
 zab t103 true H (fun K' => zac H (fun K'' => zaf 2 t3 (K'' · H)) (K' · H)) fun t104 H =>
 zab t103 true H (fun K' => zac H (fun K'' => zai false 1 t104 H (K'' · H)) (K' · H)) fun t105 H =>
 zab t103 true H (fun K' => zac H (fun K'' => zak 1 t105 (K'' · H)) (K' · H)) fun t106 H =>
 zab t103 true H (fun K' => zac H (fun K'' => zad .leq false t106 (.int .i64 6) (K'' · H)) (K' · H)) fun t107 H =>
 zac H (fun K' => zah t103 t107 (.bool false) (K' · H)) fun t108 =>
 zac H (fun K' => K' t108 H) fun t109 =>
 zab t109 true H (fun K' => zac H (fun K'' => zaf 5 t3 (K'' · H)) (K' · H)) fun t110 H =>
 zab t109 true H (fun K' => zac H (fun K'' => zai true 3 t110 H (K'' · H)) (K' · H)) fun t111 H =>
 zab t109 true H (fun K' => zac H (fun K'' => K'' t0 H) (K' · H)) fun t112 H =>
 zab t109 true H (fun K' => zac H (fun K'' => zaf 2 t3 (K'' · H)) (K' · H)) fun t113 H =>
 zab t109 true H (fun K' => zac H (fun K'' => zai false 1 t113 H (K'' · H)) (K' · H)) fun t114 H =>
 zab t109 true H (fun K' => zay H (fun H K'' => ACalls tP zd8 [t112, t114] H K'') (K' · H)) fun t115 H =>
 zab t109 true H (fun K' => zay H (fun H K'' => ACalls tP zd7 [(.int .i64 6), t115] H K'') (K' · H)) fun t116 H =>
 zab t109 true H (fun K' => zay H (fun H K'' => ACalls tP zbG [t111, t116] H K'') (K' · H)) fun t117 H =>
 zac H (fun K' => zah t109 t117 (.bool false) (K' · H)) fun t118 =>
 zac H (fun K' => K' t118 H) fun t4 =>
 K t4 H)
 (zad .eql false t69 (.int .i64 13) fun t120 =>
 zag t120
 (zac H (fun K' => zai true 8 t3 H (K' · H)) fun t121 =>
 zbv .g true H (fun K' => ACalls tP zcs [t121, (.int .i64 (-1)), (.int .i64 0)] H K') fun t122 H =>
 zac H (fun K' => K' t122 H) fun t123 =>
 zab t123 true H (fun K' => zac H (fun K'' => zaf 2 t3 (K'' · H)) (K' · H)) fun t124 H =>
 zab t123 true H (fun K' => zac H (fun K'' => zai false 1 t124 H (K'' · H)) (K' · H)) fun t125 H =>
 zab t123 true H (fun K' => zac H (fun K'' => zak 1 t125 (K'' · H)) (K' · H)) fun t126 H =>
 zab t123 true H (fun K' => zac H (fun K'' => zad .geq false t126 (.int .i64 1) (K'' · H)) (K' · H)) fun t127 H =>
 zac H (fun K' => zah t123 t127 (.bool false) (K' · H)) fun t128 =>
 zac H (fun K' => K' t128 H) fun t129 =>
 zab t129 true H (fun K' => zac H (fun K'' => K'' t0 H) (K' · H)) fun t130 H =>
 zab t129 true H (fun K' => zac H (fun K'' => za2 t130 (K'' · H)) (K' · H)) fun t131 H =>
 zab t129 true H (fun K' => zac H (fun K'' => zaf 0 t131 (K'' · H)) (K' · H)) fun t132 H =>
 zab t129 true H (fun K' => zac H (fun K'' => zaf 2 t132 (K'' · H)) (K' · H)) fun t133 H =>
 zab t129 true H (fun K' => zac H (fun K'' => zai false 1 t133 H (K'' · H)) (K' · H)) fun t134 H =>
 zab t129 true H (fun K' => zac H (fun K'' => zaf 2 t3 (K'' · H)) (K' · H)) fun t135 H =>
 zab t129 true H (fun K' => zac H (fun K'' => zai false 1 t135 H (K'' · H)) (K' · H)) fun t136 H =>
 zab t129 true H (fun K' => zac H (fun K'' => zaj 1 t136 (.int .i64 0) (K'' · H)) (K' · H)) fun t137 H =>
 zab t129 true H (fun K' => zac H (fun K'' => zai false 1 t137 H (K'' · H)) (K' · H)) fun t138 H =>
 zab t129 true H (fun K' => zac H (fun K'' => zaj 3 t134 t138 (K'' · H)) (K' · H)) fun t139 H =>
 zab t129 true H (fun K' => zac H (fun K'' => zai true 3 t139 H (K'' · H)) (K' · H)) fun t140 H =>
 zab t129 true H (fun K' => zac H (fun K'' => K'' t0 H) (K' · H)) fun t141 H =>
 zab t129 true H (fun K' => zac H (fun K'' => zaf 2 t3 (K'' · H)) (K' · H)) fun t142 H =>
 zab t129 true H (fun K' => zac H (fun K'' => zai false 1 t142 H (K'' · H)) (K' · H)) fun t143 H =>
 zab t129 true H (fun K' => zac H (fun K'' => za0 1 1 t143 (some (.int .i64 1)) none (K'' · H)) (K' · H)) fun t144 H =>
 zab t129 true H (fun K' => zbv .g true H (fun K'' => ACalls tP zd8 [t141, t144] H K'') K') fun t145 H =>
 zab t129 true H (fun K' => zac H (fun K'' => zaf 5 t3 (K'' · H)) (K' · H)) fun t146 H =>
 zab t129 true H (fun K' => zac H (fun K'' => zai true 3 t146 H (K'' · H)) (K' · H)) fun t147 H =>
 zab t129 true H (fun K' => zac H (fun K'' => zaA 3 [(.int .i64 0), (.int .i64 0), .snil] 1 [(0, t147)] (K'' · H)) (K' · H)) fun t148 H =>
 zab t129 true H (fun K' => zbv .g false H (fun K'' => zaJ zaD 3 40 t145 t148 H K'') K') fun t149 H =>
 zab t129 true H (fun K' => zbv .g true H (fun K'' => ACalls tP zd7 [(.int .i64 9), t149] H K'') K') fun t150 H =>
 zab t129 true H (fun K' => zbv .g true H (fun K'' => ACalls tP zbG [t140, t150] H K'') K') fun t151 H =>
 zac H (fun K' => zah t129 t151 (.bool false) (K' · H)) fun t152 =>
 zac H (fun K' => K' t152 H) fun t4 =>
 K t4 H)
 (zad .eql false t69 (.int .i64 23) fun t154 =>
 zag t154
 (zac H (fun K' => zai true 8 t3 H (K' · H)) fun t155 =>
 zay H (fun H K' => ACalls tP zcs [t155, (.int .i64 1), (.int .i64 0)] H K') fun t156 =>
 zac H (fun K' => K' t156 H) fun t157 =>
 zab t157 true H (fun K' => zac H (fun K'' => K'' t0 H) (K' · H)) fun t158 H =>
 zab t157 true H (fun K' => zac H (fun K'' => zaf 2 t3 (K'' · H)) (K' · H)) fun t159 H =>
 zab t157 true H (fun K' => zac H (fun K'' => zai false 1 t159 H (K'' · H)) (K' · H)) fun t160 H =>
 zab t157 true H (fun K' => zay H (fun H K'' => ACalls tP zct [(.int .i64 1)] H K'') (K' · H)) fun t161 H =>
 zab t157 true H (fun K' => zac H (fun K'' => zaA 3 [(.int .i64 0), (.int .i64 0), .snil] 1 [(0, t161)] (K'' · H)) (K' · H)) fun t162 H =>
 zab t157 true H (fun K' => zay H (fun H K'' => ACalls tP zb9 [t158, t160, t162] H K'') (K' · H)) fun t163 H =>
 zac H (fun K' => zah t157 t163 (.bool false) (K' · H)) fun t164 =>
 zac H (fun K' => K' t164 H) fun t165 =>
 zab t165 true H (fun K' => zac H (fun K'' => K'' t0 H) (K' · H)) fun t166 H =>
 zab t165 true H (fun K' => zac H (fun K'' => za2 t166 (K'' · H)) (K' · H)) fun t167 H =>
 zab t165 true H (fun K' => zac H (fun K'' => zaf 0 t167 (K'' · H)) (K' · H)) fun t168 H =>
 zab t165 true H (fun K' => zac H (fun K'' => zaf 0 t168 (K'' · H)) (K' · H)) fun t169 H =>
 zab t165 true H (fun K' => zac H (fun K'' => zai false 1 t169 H (K'' · H)) (K' · H)) fun t170 H =>
 zab t165 true H (fun K' => zac H (fun K'' => zaf 5 t3 (K'' · H)) (K' · H)) fun t171 H =>
 zab t165 true H (fun K' => zac H (fun K'' => zai true 3 t171 H (K'' · H)) (K' · H)) fun t172 H =>
 zab t165 true H (fun K' => zay H (fun H K'' => ACalls tP zhn [t170, t172, (.int .i64 0)] H K'') (K' · H)) fun t173 H =>
 zac H (fun K' => zah t165 t173 (.bool false) (K' · H)) fun t174 =>
 zac H (fun K' => K' t174 H) fun t4 =>
 K t4 H)
 (zad .eql false t69 (.int .i64 7) fun t176 =>
 zag t176
 (zeX t0 t3 t176 H K)
 (zad .eql false t69 (.int .i64 24) fun t177 =>
 zag t177
 (zeX t0 t3 t177 H K)
 (zad .eql false t69 (.int .i64 8) fun t178 =>
 zag t178
 (zeX t0 t3 t178 H K)
 (zad .eql false t69 (.int .i64 9) fun t179 =>
 zag t179
 (zeX t0 t3 t179 H K)
 (zad .eql false t69 (.int .i64 10) fun t180 =>
 zeX t0 t3 t180 H K))))))))
noncomputable def zA9 : Code := zap [1, 1] zeW
def zA8 (K : Kt) : AExit → List AV → zaa → Prop := zaq tP zdy [1, 1] zeW (zal tP zm0 K)
def zrQ (t0 t3 : AV) (H : zaa) (K : Kt) : Prop := AWp tP zA9 (zA8 K) (t0 :: ux 2 (t3 :: ux 183 [])) H
def zrR (t0 t3 : AV) (H : zaa) (K : Kt) : Prop :=
 zaf 1 t3 fun t65 =>
 zae false 1 t65 H fun t66 =>
 zad .neq false t66 (.int .i64 0) fun t67 =>
 zag t67
 (K (.bool false) H)
 (zaf 0 t3 fun t68 =>
 zae false 1 t68 H fun t69 =>
 zad .eql false t69 (.int .i64 1) fun t71 =>
 zag t71
 (zac H (fun K' => zai true 8 t3 H (K' · H)) fun t72 =>
 zay H (fun H K' => ACalls tP zcs [t72, (.int .i64 0), (.int .i64 0)] H K') fun t73 =>
 zac H (fun K' => K' t73 H) fun t74 =>
 zab t74 true H (fun K' => zac H (fun K'' => zaf 5 t3 (K'' · H)) (K' · H)) fun t75 H =>
 zab t74 true H (fun K' => zac H (fun K'' => zai true 3 t75 H (K'' · H)) (K' · H)) fun t76 H =>
 zab t74 true H (fun K' => zay H (fun H K'' => ACalls tP zct [(.int .i64 3)] H K'') (K' · H)) fun t77 H =>
 zab t74 true H (fun K' => zay H (fun H K'' => ACalls tP zbG [t76, t77] H K'') (K' · H)) fun t78 H =>
 zac H (fun K' => zah t74 t78 (.bool false) (K' · H)) fun t79 =>
 zac H (fun K' => K' t79 H) fun t4 =>
 K t4 H)
 (zad .eql false t69 (.int .i64 4) fun t81 =>
 zBa t0 t3 t69 t81 H K))
noncomputable def zA7 : Code := zap [1, 0, 1, 0, 1] zeW
def zA6 (K : Kt) : AExit → List AV → zaa → Prop := zaq tP zdy [1, 0, 1, 0, 1] zeW (zal tP zm0 K)
def zih (t0 t3 t6 t7 : AV) (H : zaa) (K : Kt) : Prop := AWp tP zA7 (zA6 K) (t0 :: ux 2 (t3 :: ux 2 (t6 :: t7 :: ux 179 []))) H
def zrP (t0 t3 t6 t7 : AV) (H : zaa) (K : Kt) : Prop :=
 zag t7
 (zae true 8 t3 H fun t13 =>
 ACalls tP zoZ [t0, t13] H fun t14 H =>
 K t14 H)
 (zad .eql false t6 (.int .i64 2) fun t16 =>
 zag t16
 (zac H (fun K' => zai true 8 t3 H (K' · H)) fun t17 =>
 zay H (fun H K' => ACalls tP zcs [t17, (.int .i64 0), (.int .i64 0)] H K') fun t18 =>
 zac H (fun K' => K' t18 H) fun t19 =>
 zab t19 true H (fun K' => zac H (fun K'' => zaf 1 t3 (K'' · H)) (K' · H)) fun t20 H =>
 zab t19 true H (fun K' => zac H (fun K'' => zai false 1 t20 H (K'' · H)) (K' · H)) fun t21 H =>
 zab t19 true H (fun K' => zac H (fun K'' => zad .eql false t21 (.int .i64 0) (K'' · H)) (K' · H)) fun t22 H =>
 zab t19 true H (fun K' => zac H (fun K'' => K'' t22 H) (K' · H)) fun t23 H =>
 zab t23 false H (fun K' => zac H (fun K'' => zaf 1 t3 (K'' · H)) (K' · H)) fun t24 H =>
 zab t23 false H (fun K' => zac H (fun K'' => zai false 1 t24 H (K'' · H)) (K' · H)) fun t25 H =>
 zab t23 false H (fun K' => zac H (fun K'' => zad .eql false t25 (.int .i64 1) (K'' · H)) (K' · H)) fun t26 H =>
 zab t19 true H (fun K' => zac H (fun K'' => zah t23 (.bool true) t26 (K'' · H)) (K' · H)) fun t27 H =>
 zac H (fun K' => zah t19 t27 (.bool false) (K' · H)) fun t28 =>
 zac H (fun K' => K' t28 H) fun t29 =>
 zab t29 true H (fun K' => zac H (fun K'' => zaf 5 t3 (K'' · H)) (K' · H)) fun t30 H =>
 zab t29 true H (fun K' => zac H (fun K'' => zai true 3 t30 H (K'' · H)) (K' · H)) fun t31 H =>
 zab t29 true H (fun K' => zay H (fun H K'' => ACalls tP zct [(.int .i64 2)] H K'') (K' · H)) fun t32 H =>
 zab t29 true H (fun K' => zay H (fun H K'' => ACalls tP zbG [t31, t32] H K'') (K' · H)) fun t33 H =>
 zac H (fun K' => zah t29 t33 (.bool false) (K' · H)) fun t34 =>
 zac H (fun K' => K' t34 H) fun t4 =>
 K t4 H)
 (zad .eql false t6 (.int .i64 3) fun t36 =>
 zag t36
 (zac H (fun K' => zai true 8 t3 H (K' · H)) fun t37 =>
 zay H (fun H K' => ACalls tP zcs [t37, (.int .i64 0), (.int .i64 0)] H K') fun t38 =>
 zac H (fun K' => K' t38 H) fun t39 =>
 zab t39 true H (fun K' => zac H (fun K'' => zaf 1 t3 (K'' · H)) (K' · H)) fun t40 H =>
 zab t39 true H (fun K' => zac H (fun K'' => zai false 1 t40 H (K'' · H)) (K' · H)) fun t41 H =>
 zab t39 true H (fun K' => zay H (fun H K'' => ACalls tP zkw [t41, (.int .i64 1000000)] H K'') (K' · H)) fun t42 H =>
 zac H (fun K' => zah t39 t42 (.bool false) (K' · H)) fun t43 =>
 zac H (fun K' => K' t43 H) fun t44 =>
 zab t44 true H (fun K' => zac H (fun K'' => zaf 5 t3 (K'' · H)) (K' · H)) fun t45 H =>
 zab t44 true H (fun K' => zac H (fun K'' => zai true 3 t45 H (K'' · H)) (K' · H)) fun t46 H =>
 zab t44 true H (fun K' => zay H (fun H K'' => ACalls tP zct [(.int .i64 1)] H K'') (K' · H)) fun t47 H =>
 zab t44 true H (fun K' => zay H (fun H K'' => ACalls tP zbG [t46, t47] H K'') (K' · H)) fun t48 H =>
 zac H (fun K' => zah t44 t48 (.bool false) (K' · H)) fun t49 =>
 zac H (fun K' => K' t49 H) fun t4 =>
 K t4 H)
 (zad .eql false t6 (.int .i64 22) fun t51 =>
 zag t51
 (zac H (fun K' => zai true 8 t3 H (K' · H)) fun t52 =>
 zay H (fun H K' => ACalls tP zcs [t52, (.int .i64 0), (.int .i64 0)] H K') fun t53 =>
 zac H (fun K' => K' t53 H) fun t54 =>
 zab t54 true H (fun K' => zac H (fun K'' => zaf 1 t3 (K'' · H)) (K' · H)) fun t55 H =>
 zab t54 true H (fun K' => zac H (fun K'' => zai false 1 t55 H (K'' · H)) (K' · H)) fun t56 H =>
 zab t54 true H (fun K' => zay H (fun H K'' => ACalls tP zkw [t56, (.int .i64 1000)] H K'') (K' · H)) fun t57 H =>
 zac H (fun K' => zah t54 t57 (.bool false) (K' · H)) fun t58 =>
 zac H (fun K' => K' t58 H) fun t59 =>
 zab t59 true H (fun K' => zac H (fun K'' => zaf 5 t3 (K'' · H)) (K' · H)) fun t60 H =>
 zab t59 true H (fun K' => zac H (fun K'' => zai true 3 t60 H (K'' · H)) (K' · H)) fun t61 H =>
 zab t59 true H (fun K' => zay H (fun H K'' => ACalls tP zct [(.int .i64 3)] H K'') (K' · H)) fun t62 H =>
 zab t59 true H (fun K' => zay H (fun H K'' => ACalls tP zbG [t61, t62] H K'') (K' · H)) fun t63 H =>
 zac H (fun K' => zah t59 t63 (.bool false) (K' · H)) fun t64 =>
 zac H (fun K' => K' t64 H) fun t4 =>
 K t4 H)
 (zrQ t0 t3 H K))))
def zrO (t0 t1 : AV) (H : zaa) (K : Kt) : Prop :=
 zaH t1 H fun t3 H =>
 zaf 0 t3 fun t5 =>
 zae false 1 t5 H fun t6 =>
 zad .eql false t6 (.int .i64 6) fun t8 =>
 zag t8
 (zih t0 t3 t6 t8 H K)
 (zad .eql false t6 (.int .i64 11) fun t9 =>
 zag t9
 (zih t0 t3 t6 t9 H K)
 (zad .eql false t6 (.int .i64 12) fun t10 =>
 zag t10
 (zih t0 t3 t6 t10 H K)
 (zad .eql false t6 (.int .i64 14) fun t11 =>
 zih t0 t3 t6 t11 H K)))
theorem zNf (t0 t3 t69 t80 : AV) (H : zaa) (K : Kt) : awp tP zdy zBc (zBb K) (t0 :: ux 2 (t3 :: ux 65 (t69 :: ux 10 (t80 :: ux 106 [])))) H = zrS t0 t3 t69 t80 H K := by kernel_rfl
theorem zNg {t0 t3 t69 t80 : AV} {H : zaa} {K : Kt} (h : HSc H → zrS t0 t3 t69 t80 H K) : zBa t0 t3 t69 t80 H K :=
 fun B w G a hH hF hd => zbB (M := zdy) _ _ _ _ ((zNf t0 t3 t69 t80 H K).mpr (h hH.sc)) B w G a hH hF hd
theorem zNd (t0 t3 : AV) (H : zaa) (K : Kt) : awp tP zdy zA9 (zA8 K) (t0 :: ux 2 (t3 :: ux 183 [])) H = zrR t0 t3 H K := by kernel_rfl
theorem zNe {t0 t3 : AV} {H : zaa} {K : Kt} (h : HSc H → zrR t0 t3 H K) : zrQ t0 t3 H K :=
 fun B w G a hH hF hd => zbB (M := zdy) _ _ _ _ ((zNd t0 t3 H K).mpr (h hH.sc)) B w G a hH hF hd
theorem zNb (t0 t3 t6 t7 : AV) (H : zaa) (K : Kt) : awp tP zdy zA7 (zA6 K) (t0 :: ux 2 (t3 :: ux 2 (t6 :: t7 :: ux 179 []))) H = zrP t0 t3 t6 t7 H K := by kernel_rfl
theorem zNc {t0 t3 t6 t7 : AV} {H : zaa} {K : Kt} (h : HSc H → zrP t0 t3 t6 t7 H K) : zih t0 t3 t6 t7 H K :=
 fun B w G a hH hF hd => zbB (M := zdy) _ _ _ _ ((zNb t0 t3 t6 t7 H K).mpr (h hH.sc)) B w G a hH hF hd
theorem zNa (t0 t1 : AV) (H : zaa) (K : Kt) : awp tP zdy zeW (zal tP zm0 K) (t0 :: t1 :: List.replicate 185 .unk) H = zrO t0 t1 H K := by kernel_rfl
theorem zNh {t0 t1 : AV} {H : zaa} {K : Kt} (h : HSc H → zrO t0 t1 H K) : ACalls tP zoU [t0, t1] H K :=
 zaw (M := zdy) Try.func76 (c := zeW) (by kernel_rfl) (fun hs => (zNa t0 t1 H K).mpr (h hs))
def zCe : Nat → List Bool
 | 200021 => rl false [0,2]
 | _ => []
noncomputable def zCf : Code := Try.f90.body.getD .skip
noncomputable def zOl : List ResultVar := Try.f90.results.toList
def zsb (t0 t1 : AV) (H : zaa) (K : Kt) : Prop :=
 zaH t1 H fun t3 H =>
 zae true 8 t3 H fun t8 =>
 ACalls tP zcs [t8, (.int .i64 (-1)), (.int .i64 0)] H fun t9 H =>
 aUn .not t9 fun t10 =>
 zab t10 false H (fun K' => zaf 1 t3 (K' · H)) fun t12 H =>
 zab t10 false H (fun K' => zae false 1 t12 H (K' · H)) fun t13 H =>
 zab t10 false H (fun K' => zad .lss false t13 (.int .i64 0) (K' · H)) fun t14 H =>
 zah t10 (.bool true) t14 fun t15 =>
 zag t15
 (K (.bool false) H)
 (zaf 0 t3 fun t16 =>
 zae false 1 t16 H fun t17 =>
 zad .eql false t17 (.int .i64 6) fun t19 =>
 zag t19
 (zaf 5 t3 fun t20 =>
 zaf 0 t20 fun t21 =>
 zae false 1 t21 H fun t22 =>
 zad .neq false t22 (.int .i64 5) fun t23 =>
 zab t23 false H (fun K' => zaf 1 t3 (K' · H)) fun t25 H =>
 zab t23 false H (fun K' => zae false 1 t25 H (K' · H)) fun t26 H =>
 zab t23 false H (fun K' => zad .geq false t26 (.int .i64 8) (K' · H)) fun t27 H =>
 zah t23 (.bool true) t27 fun t28 =>
 zag t28
 (K (.bool false) H)
 (zac H (fun K' => K' t0 H) fun t30 =>
 zac H (fun K' => za2 t30 (K' · H)) fun t31 =>
 zac H (fun K' => zaf 0 t31 (K' · H)) fun t32 =>
 zac H (fun K' => zaf 0 t32 (K' · H)) fun t33 =>
 zac H (fun K' => zai false 1 t33 H (K' · H)) fun t34 =>
 zac H (fun K' => zaf 5 t3 (K' · H)) fun t35 =>
 zac H (fun K' => zai true 3 t35 H (K' · H)) fun t36 =>
 zac H (fun K' => zaf 1 t3 (K' · H)) fun t37 =>
 zac H (fun K' => zai false 1 t37 H (K' · H)) fun t38 =>
 zay H (fun H K' => ACalls tP ziQ [t34, t36, t38] H K') fun t39 =>
 zac H (fun K' => K' t39 H) fun t29 =>
 zac H (fun K' => za3 t29 0 (K' · H)) fun t40 =>
 zac H (fun K' => za3 t29 1 (K' · H)) fun t41 =>
 zac H (fun K' => K' t40 H) fun t5 =>
 zac H (fun K' => K' t41 H) fun t6 =>
 zab t6 true H (fun K' => K' t0 H) fun t44 H =>
 zab t6 true H (fun K' => zaf 2 t3 (K' · H)) fun t45 H =>
 zab t6 true H (fun K' => zae false 1 t45 H (K' · H)) fun t46 H =>
 zab t6 true H (fun K' => K' t5 H) fun t47 H =>
 zab t6 true H (fun K' => ACalls tP zb9 [t44, t46, t47] H K') fun t48 H =>
 zah t6 t48 (.bool false) fun t49 =>
 K t49 H))
 (zad .eql false t17 (.int .i64 14) fun t51 =>
 zag t51
 (zac H (fun K' => zaf 1 t3 (K' · H)) fun t52 =>
 zac H (fun K' => zai false 1 t52 H (K' · H)) fun t53 =>
 zac H (fun K' => zad .lss false t53 (.int .i64 1) (K' · H)) fun t54 =>
 zac H (fun K' => K' t54 H) fun t55 =>
 zab t55 false H (fun K' => zac H (fun K'' => zaf 1 t3 (K'' · H)) (K' · H)) fun t56 H =>
 zab t55 false H (fun K' => zac H (fun K'' => zai false 1 t56 H (K'' · H)) (K' · H)) fun t57 H =>
 zab t55 false H (fun K' => zac H (fun K'' => zad .gtr false t57 (.int .i64 8) (K'' · H)) (K' · H)) fun t58 H =>
 zac H (fun K' => zah t55 (.bool true) t58 (K' · H)) fun t59 =>
 zac H (fun K' => K' t59 H) fun t60 =>
 zab t60 false H (fun K' => zac H (fun K'' => K'' t0 H) (K' · H)) fun t61 H =>
 zab t60 false H (fun K' => zac H (fun K'' => zaf 2 t3 (K'' · H)) (K' · H)) fun t62 H =>
 zab t60 false H (fun K' => zac H (fun K'' => zai false 1 t62 H (K'' · H)) (K' · H)) fun t63 H =>
 zab t60 false H (fun K' => zay H (fun H K'' => ACalls tP zct [(.int .i64 1)] H K'') (K' · H)) fun t64 H =>
 zab t60 false H (fun K' => zay H (fun H K'' => ACalls tP zct [(.int .i64 1)] H K'') (K' · H)) fun t65 H =>
 zab t60 false H (fun K' => zac H (fun K'' => zaA 3 [(.int .i64 0), (.int .i64 0), .snil] 2 [(0, t64), (1, t65)] (K'' · H)) (K' · H)) fun t66 H =>
 zab t60 false H (fun K' => zay H (fun H K'' => ACalls tP zb9 [t61, t63, t66] H K'') (K' · H)) fun t67 H =>
 zab t60 false H (fun K' => zac H (fun K'' => aUn .not t67 (K'' · H)) (K' · H)) fun t68 H =>
 zac H (fun K' => zah t60 (.bool true) t68 (K' · H)) fun t69 =>
 zag t69
 (K (.bool false) H)
 (zaf 1 t3 fun t70 =>
 zae false 1 t70 H fun t71 =>
 zad .geq false t71 (.int .i64 6) fun t72 =>
 zag t72
 (zac H (fun K' => zaf 5 t3 (K' · H)) fun t73 =>
 zac H (fun K' => zai true 3 t73 H (K' · H)) fun t74 =>
 zay H (fun H K' => ACalls tP zct [(.int .i64 2)] H K') fun t75 =>
 zay H (fun H K' => ACalls tP zbG [t74, t75] H K') fun t76 =>
 zac H (fun K' => K' t76 H) fun t4 =>
 K t4 H)
 (zac H (fun K' => zaf 5 t3 (K' · H)) fun t77 =>
 zac H (fun K' => zai true 3 t77 H (K' · H)) fun t78 =>
 zay H (fun H K' => ACalls tP zct [(.int .i64 1)] H K') fun t79 =>
 zay H (fun H K' => ACalls tP zbG [t78, t79] H K') fun t80 =>
 zac H (fun K' => K' t80 H) fun t4 =>
 K t4 H)))
 (zac H (fun K' => zaf 1 t3 (K' · H)) fun t81 =>
 zac H (fun K' => zai false 1 t81 H (K' · H)) fun t82 =>
 zac H (fun K' => K' t0 H) fun t83 =>
 zac H (fun K' => za2 t83 (K' · H)) fun t84 =>
 zac H (fun K' => zaf 0 t84 (K' · H)) fun t85 =>
 zac H (fun K' => zaf 1 t85 (K' · H)) fun t86 =>
 zac H (fun K' => zai false 1 t86 H (K' · H)) fun t87 =>
 zac H (fun K' => zak 1 t87 (K' · H)) fun t88 =>
 zac H (fun K' => zad .geq false t82 t88 (K' · H)) fun t89 =>
 zag t89
 (K (.bool false) H)
 (zac H (fun K' => K' t0 H) fun t90 =>
 zac H (fun K' => za2 t90 (K' · H)) fun t91 =>
 zac H (fun K' => zaf 0 t91 (K' · H)) fun t92 =>
 zac H (fun K' => zaf 1 t92 (K' · H)) fun t93 =>
 zac H (fun K' => zai false 1 t93 H (K' · H)) fun t94 =>
 zac H (fun K' => zaf 1 t3 (K' · H)) fun t95 =>
 zac H (fun K' => zai false 1 t95 H (K' · H)) fun t96 =>
 zac H (fun K' => zaj 7 t94 t96 (K' · H)) fun t97 =>
 zac H (fun K' => zai true 7 t97 H (K' · H)) fun t98 =>
 zaC [(.str []), .snil, .snil, (.int .i64 0), (.int .i64 0), .snil, (.int .i64 0)] H fun t7 H =>
 zas 7 t7 t98 H fun H =>
 zaf 0 t3 fun t99 =>
 zae false 1 t99 H fun t100 =>
 zad .eql false t100 (.int .i64 12) fun t101 =>
 zag t101
 (zac H (fun K' => zaf 0 t7 (K' · H)) fun t102 =>
 zac H (fun K' => zai false 1 t102 H (K' · H)) fun t103 =>
 zac H (fun K' => zad .neq false t103 (.str []) (K' · H)) fun t104 =>
 zac H (fun K' => K' t104 H) fun t105 =>
 zab t105 true H (fun K' => zac H (fun K'' => K'' t0 H) (K' · H)) fun t106 H =>
 zab t105 true H (fun K' => zac H (fun K'' => zaf 2 t3 (K'' · H)) (K' · H)) fun t107 H =>
 zab t105 true H (fun K' => zac H (fun K'' => zai false 1 t107 H (K'' · H)) (K' · H)) fun t108 H =>
 zab t105 true H (fun K' => zac H (fun K'' => K'' t0 H) (K' · H)) fun t109 H =>
 zab t105 true H (fun K' => zac H (fun K'' => zaf 1 t7 (K'' · H)) (K' · H)) fun t110 H =>
 zab t105 true H (fun K' => zac H (fun K'' => zai false 1 t110 H (K'' · H)) (K' · H)) fun t111 H =>
 zab t105 true H (fun K' => zay H (fun H K'' => ACalls tP zd8 [t109, t111] H K'') (K' · H)) fun t112 H =>
 zab t105 true H (fun K' => zay H (fun H K'' => ACalls tP zb9 [t106, t108, t112] H K'') (K' · H)) fun t113 H =>
 zac H (fun K' => zah t105 t113 (.bool false) (K' · H)) fun t114 =>
 zac H (fun K' => K' t114 H) fun t115 =>
 zab t115 true H (fun K' => zac H (fun K'' => zaf 5 t3 (K'' · H)) (K' · H)) fun t116 H =>
 zab t115 true H (fun K' => zac H (fun K'' => zai true 3 t116 H (K'' · H)) (K' · H)) fun t117 H =>
 zab t115 true H (fun K' => zac H (fun K'' => zaf 3 t7 (K'' · H)) (K' · H)) fun t118 H =>
 zab t115 true H (fun K' => zac H (fun K'' => zai true 3 t118 H (K'' · H)) (K' · H)) fun t119 H =>
 zab t115 true H (fun K' => zay H (fun H K'' => ACalls tP zbG [t117, t119] H K'') (K' · H)) fun t120 H =>
 zac H (fun K' => zah t115 t120 (.bool false) (K' · H)) fun t121 =>
 zac H (fun K' => K' t121 H) fun t4 =>
 K t4 H)
 (zac H (fun K' => K' t0 H) fun t122 =>
 zac H (fun K' => za2 t122 (K' · H)) fun t123 =>
 zac H (fun K' => zaf 4 t123 (K' · H)) fun t124 =>
 zac H (fun K' => zai false 1 t124 H (K' · H)) fun t125 =>
 zac H (fun K' => zaf 1 t3 (K' · H)) fun t126 =>
 zac H (fun K' => zai false 1 t126 H (K' · H)) fun t127 =>
 zac H (fun K' => zaj 1 t125 t127 (K' · H)) fun t128 =>
 zac H (fun K' => zai false 1 t128 H (K' · H)) fun t129 =>
 zac H (fun K' => zad .add false t129 (.int .i64 1) (K' · H)) fun t130 =>
 zac H (fun K' => zaj 1 t125 t127 (K' · H)) fun t131 =>
 zas 1 t131 t130 H fun H =>
 zac H (fun K' => zaf 0 t7 (K' · H)) fun t132 =>
 zac H (fun K' => zai false 1 t132 H (K' · H)) fun t133 =>
 zac H (fun K' => zad .eql false t133 (.str []) (K' · H)) fun t134 =>
 zac H (fun K' => K' t134 H) fun t135 =>
 zab t135 true H (fun K' => zac H (fun K'' => K'' t0 H) (K' · H)) fun t136 H =>
 zab t135 true H (fun K' => zac H (fun K'' => zaf 2 t3 (K'' · H)) (K' · H)) fun t137 H =>
 zab t135 true H (fun K' => zac H (fun K'' => zai false 1 t137 H (K'' · H)) (K' · H)) fun t138 H =>
 zab t135 true H (fun K' => zac H (fun K'' => K'' t0 H) (K' · H)) fun t139 H =>
 zab t135 true H (fun K' => zac H (fun K'' => zaf 2 t7 (K'' · H)) (K' · H)) fun t140 H =>
 zab t135 true H (fun K' => zac H (fun K'' => zai false 1 t140 H (K'' · H)) (K' · H)) fun t141 H =>
 zab t135 true H (fun K' => zbv .g true H (fun K'' => ACalls tP zd8 [t139, t141] H K'') K') fun t142 H =>
 zab t135 true H (fun K' => zbv .g true H (fun K'' => ACalls tP zb9 [t136, t138, t142] H K'') K') fun t143 H =>
 zac H (fun K' => zah t135 t143 (.bool false) (K' · H)) fun t144 =>
 zac H (fun K' => K' t144 H) fun t145 =>
 zab t145 true H (fun K' => zac H (fun K'' => zaf 5 t3 (K'' · H)) (K' · H)) fun t146 H =>
 zab t145 true H (fun K' => zac H (fun K'' => zai true 3 t146 H (K'' · H)) (K' · H)) fun t147 H =>
 zab t145 true H (fun K' => zac H (fun K'' => K'' t0 H) (K' · H)) fun t148 H =>
 zab t145 true H (fun K' => zac H (fun K'' => zaf 1 t7 (K'' · H)) (K' · H)) fun t149 H =>
 zab t145 true H (fun K' => zac H (fun K'' => zai false 1 t149 H (K'' · H)) (K' · H)) fun t150 H =>
 zab t145 true H (fun K' => zbv .g true H (fun K'' => ACalls tP zd8 [t148, t150] H K'') K') fun t151 H =>
 zab t145 true H (fun K' => zac H (fun K'' => zaf 3 t7 (K'' · H)) (K' · H)) fun t152 H =>
 zab t145 true H (fun K' => zac H (fun K'' => zai true 3 t152 H (K'' · H)) (K' · H)) fun t153 H =>
 zab t145 true H (fun K' => zac H (fun K'' => zaA 3 [(.int .i64 0), (.int .i64 0), .snil] 1 [(0, t153)] (K'' · H)) (K' · H)) fun t154 H =>
 zab t145 true H (fun K' => zbv .g false H (fun K'' => zaJ zaD 3 40 t151 t154 H K'') K') fun t155 H =>
 zab t145 true H (fun K' => zbv .g true H (fun K'' => ACalls tP zd7 [(.int .i64 9), t155] H K'') K') fun t156 H =>
 zab t145 true H (fun K' => zbv .g true H (fun K'' => ACalls tP zbG [t147, t156] H K'') K') fun t157 H =>
 zac H (fun K' => zah t145 t157 (.bool false) (K' · H)) fun t158 =>
 zac H (fun K' => K' t158 H) fun t4 =>
 K t4 H)))))
theorem zOj (t0 t1 : AV) (H : zaa) (K : Kt) : awp tP zCe zCf (zal tP zOl K) (t0 :: t1 :: List.replicate 157 .unk) H = zsb t0 t1 H K := by kernel_rfl
theorem zOk {t0 t1 : AV} {H : zaa} {K : Kt} (h : HSc H → zsb t0 t1 H K) : ACalls tP zoZ [t0, t1] H K :=
 zaw (M := zCe) Try.func90 (c := zCf) (by kernel_rfl) (fun hs => (zOj t0 t1 H K).mpr (h hs))
def zdm : Nat → List Bool
 | 19 => rl false [0,1,2,1,2,1,148,2,30]
 | 100013 => rl false [0,1,2,1,183]
 | 157011 => rl false [0,1,2,1,7,1,50,1,124]
 | _ => []
noncomputable def ze0 : Code := Try.f97.body.getD .skip
noncomputable def znB : List ResultVar := Try.f97.results.toList
def zg3 (t0 t3 t6 t155 t156 : AV) : List AV := t0 :: ux 2 (t3 :: ux 2 (t6 :: ux 148 (t155 :: t156 :: ux 30 [])))
def zCN : List Bool := zdm 19
noncomputable def zCF : Code := zap [1, 1, 1, 1, 1, 0, 1, 0, 0] ze0
def zCE (K : Kt) : AExit → List AV → zaa → Prop := zaq tP zdm [1, 1, 1, 1, 1, 0, 1, 0] ze0 (zal tP znB K)
def zCM (t0 t3 t6 t155 t156 : AV) (H : zaa) (K : Kt) : Prop := ALoop tP zCF (zCE K) (zg3 t0 t3 t6 t155 t156) H
def znA (t0 t3 t6 t155 t156 : AV) (H : zaa) (K : Kt) (Kb19 : Lt) : Prop :=
 zad .lss false t156 t155 fun t157 =>
 zag t157
 (zac H (fun K' => K' t0 H) fun t160 =>
 zac H (fun K' => za2 t160 (K' · H)) fun t161 =>
 zac H (fun K' => zaf 0 t161 (K' · H)) fun t162 =>
 zac H (fun K' => zaf 0 t162 (K' · H)) fun t163 =>
 zac H (fun K' => zai false 1 t163 H (K' · H)) fun t164 =>
 zac H (fun K' => zai true 3 t6 H (K' · H)) fun t165 =>
 zac H (fun K' => K' t156 H) fun t166 =>
 zay H (fun H K' => ACalls tP ziQ [t164, t165, t166] H K') fun t167 =>
 zac H (fun K' => K' t167 H) fun t159 =>
 zac H (fun K' => za3 t159 0 (K' · H)) fun t168 =>
 zac H (fun K' => za3 t159 1 (K' · H)) fun t169 =>
 zac H (fun K' => K' t168 H) fun t8 =>
 zac H (fun K' => K' t169 H) fun t9 =>
 aUn .not t9 fun t171 =>
 zab t171 false H (fun K' => K' t0 H) fun t173 H =>
 zab t171 false H (fun K' => zaf 3 t3 (K' · H)) fun t174 H =>
 zab t171 false H (fun K' => zae false 1 t174 H (K' · H)) fun t175 H =>
 zab t171 false H (fun K' => K' t156 H) fun t176 H =>
 zab t171 false H (fun K' => zaj 1 t175 t176 (K' · H)) fun t177 H =>
 zab t171 false H (fun K' => zae false 1 t177 H (K' · H)) fun t178 H =>
 zab t171 false H (fun K' => K' t8 H) fun t179 H =>
 zab t171 false H (fun K' => ACalls tP zb9 [t173, t178, t179] H K') fun t180 H =>
 zab t171 false H (fun K' => aUn .not t180 (K' · H)) fun t181 H =>
 zah t171 (.bool true) t181 fun t182 =>
 zag t182
 (K (.bool false) H)
 (zad .add false t156 (.int .i64 1) fun t183 =>
 Kb19 (zg3 t0 t3 t6 t155 t183) H))
 (zae true 8 t3 H fun t185 =>
 ACalls tP zdK [t0, t185, (.int .i64 0)] H fun t186 H =>
 K t186 H)
noncomputable def zCL : Code := zap [1, 1] ze0
def zCK (K : Kt) : AExit → List AV → zaa → Prop := zaq tP zdm [1, 1] ze0 (zal tP znB K)
def zCJ (t0 t3 : AV) (H : zaa) (K : Kt) : Prop := AWp tP zCL (zCK K) (t0 :: ux 2 (t3 :: ux 183 [])) H
def zsk (t0 t3 : AV) (H : zaa) (K : Kt) : Prop :=
 zaf 2 t3 fun t118 =>
 zae false 1 t118 H fun t119 =>
 zak 1 t119 fun t120 =>
 zad .neq false t120 (.int .i64 1) fun t121 =>
 zag t121
 (K (.bool false) H)
 (zac H (fun K' => K' t0 H) fun t122 =>
 zac H (fun K' => za2 t122 (K' · H)) fun t123 =>
 zac H (fun K' => zaf 0 t123 (K' · H)) fun t124 =>
 zac H (fun K' => zaf 2 t124 (K' · H)) fun t125 =>
 zac H (fun K' => zai false 1 t125 H (K' · H)) fun t126 =>
 zac H (fun K' => zaf 2 t3 (K' · H)) fun t127 =>
 zac H (fun K' => zai false 1 t127 H (K' · H)) fun t128 =>
 zac H (fun K' => zaj 1 t128 (.int .i64 0) (K' · H)) fun t129 =>
 zac H (fun K' => zai false 1 t129 H (K' · H)) fun t130 =>
 zac H (fun K' => zaj 3 t126 t130 (K' · H)) fun t131 =>
 zac H (fun K' => zai true 3 t131 H (K' · H)) fun t132 =>
 zaC [(.int .i64 0), (.int .i64 0), .snil] H fun t6 H =>
 zas 3 t6 t132 H fun H =>
 zac H (fun K' => zaf 0 t6 (K' · H)) fun t133 =>
 zac H (fun K' => zai false 1 t133 H (K' · H)) fun t134 =>
 zac H (fun K' => zad .neq false t134 (.int .i64 5) (K' · H)) fun t135 =>
 zac H (fun K' => K' t135 H) fun t136 =>
 zab t136 false H (fun K' => zac H (fun K'' => zaf 4 t3 (K'' · H)) (K' · H)) fun t137 H =>
 zab t136 false H (fun K' => zac H (fun K'' => zai false 1 t137 H (K'' · H)) (K' · H)) fun t138 H =>
 zab t136 false H (fun K' => zac H (fun K'' => zak 1 t138 (K'' · H)) (K' · H)) fun t139 H =>
 zab t136 false H (fun K' => zac H (fun K'' => K'' t0 H) (K' · H)) fun t140 H =>
 zab t136 false H (fun K' => zac H (fun K'' => za2 t140 (K'' · H)) (K' · H)) fun t141 H =>
 zab t136 false H (fun K' => zac H (fun K'' => zaf 0 t141 (K'' · H)) (K' · H)) fun t142 H =>
 zab t136 false H (fun K' => zac H (fun K'' => zaf 0 t142 (K'' · H)) (K' · H)) fun t143 H =>
 zab t136 false H (fun K' => zac H (fun K'' => zai false 1 t143 H (K'' · H)) (K' · H)) fun t144 H =>
 zab t136 false H (fun K' => zac H (fun K'' => zaf 1 t6 (K'' · H)) (K' · H)) fun t145 H =>
 zab t136 false H (fun K' => zac H (fun K'' => zai false 1 t145 H (K'' · H)) (K' · H)) fun t146 H =>
 zab t136 false H (fun K' => zac H (fun K'' => zaj 3 t144 t146 (K'' · H)) (K' · H)) fun t147 H =>
 zab t136 false H (fun K' => zac H (fun K'' => zaf 2 t147 (K'' · H)) (K' · H)) fun t148 H =>
 zab t136 false H (fun K' => zac H (fun K'' => zai false 1 t148 H (K'' · H)) (K' · H)) fun t149 H =>
 zab t136 false H (fun K' => zac H (fun K'' => zak 1 t149 (K'' · H)) (K' · H)) fun t150 H =>
 zab t136 false H (fun K' => zac H (fun K'' => zad .neq false t139 t150 (K'' · H)) (K' · H)) fun t151 H =>
 zac H (fun K' => zah t136 (.bool true) t151 (K' · H)) fun t152 =>
 zag t152
 (K (.bool false) H)
 (zaf 4 t3 fun t153 =>
 zae false 1 t153 H fun t154 =>
 zak 1 t154 fun t155 =>
 zCM t0 t3 t6 t155 (.int .i64 0) H K))
noncomputable def zCI : Code := zap [1, 0, 1, 0, 1, 1, 1, 1, 1] ze0
def zCH (K : Kt) : AExit → List AV → zaa → Prop := zaq tP zdm [1, 0, 1, 0, 1, 1, 1, 1, 1] ze0 (zal tP znB K)
def zCG (t0 t3 t11 t62 : AV) (H : zaa) (K : Kt) : Prop := AWp tP zCI (zCH K) (t0 :: ux 2 (t3 :: ux 7 (t11 :: ux 50 (t62 :: ux 124 [])))) H
def zsj (t0 t3 t11 t62 : AV) (H : zaa) (K : Kt) : Prop :=
 zag t62
 (zae true 8 t3 H fun t64 =>
 ACalls tP zcs [t64, (.int .i64 1), (.int .i64 1)] H fun t65 H =>
 aUn .not t65 fun t66 =>
 zag t66
 (K (.bool false) H)
 (zac H (fun K' => K' t0 H) fun t67 =>
 zac H (fun K' => za2 t67 (K' · H)) fun t68 =>
 zac H (fun K' => zaf 0 t68 (K' · H)) fun t69 =>
 zac H (fun K' => zaf 2 t69 (K' · H)) fun t70 =>
 zac H (fun K' => zai false 1 t70 H (K' · H)) fun t71 =>
 zac H (fun K' => zaf 2 t3 (K' · H)) fun t72 =>
 zac H (fun K' => zai false 1 t72 H (K' · H)) fun t73 =>
 zac H (fun K' => zaj 1 t73 (.int .i64 0) (K' · H)) fun t74 =>
 zac H (fun K' => zai false 1 t74 H (K' · H)) fun t75 =>
 zac H (fun K' => zaj 3 t71 t75 (K' · H)) fun t76 =>
 zac H (fun K' => zai true 3 t76 H (K' · H)) fun t77 =>
 zaC [(.int .i64 0), (.int .i64 0), .snil] H fun t5 H =>
 zas 3 t5 t77 H fun H =>
 zac H (fun K' => zaf 0 t5 (K' · H)) fun t78 =>
 zac H (fun K' => zai false 1 t78 H (K' · H)) fun t79 =>
 zac H (fun K' => zad .eql false t79 (.int .i64 6) (K' · H)) fun t80 =>
 zac H (fun K' => K' t80 H) fun t81 =>
 zab t81 true H (fun K' => zac H (fun K'' => K'' t0 H) (K' · H)) fun t82 H =>
 zab t81 true H (fun K' => zac H (fun K'' => zaf 3 t3 (K'' · H)) (K' · H)) fun t83 H =>
 zab t81 true H (fun K' => zac H (fun K'' => zai false 1 t83 H (K'' · H)) (K' · H)) fun t84 H =>
 zab t81 true H (fun K' => zac H (fun K'' => zaj 1 t84 (.int .i64 0) (K'' · H)) (K' · H)) fun t85 H =>
 zab t81 true H (fun K' => zac H (fun K'' => zai false 1 t85 H (K'' · H)) (K' · H)) fun t86 H =>
 zab t81 true H (fun K' => zac H (fun K'' => zaf 2 t5 (K'' · H)) (K' · H)) fun t87 H =>
 zab t81 true H (fun K' => zac H (fun K'' => zai false 1 t87 H (K'' · H)) (K' · H)) fun t88 H =>
 zab t81 true H (fun K' => zay H (fun H K'' => ACalls tP zb9 [t82, t86, t88] H K'') (K' · H)) fun t89 H =>
 zac H (fun K' => zah t81 t89 (.bool false) (K' · H)) fun t90 =>
 zac H (fun K' => K' t90 H) fun t91 =>
 zab t91 true H (fun K' => zac H (fun K'' => K'' t0 H) (K' · H)) fun t92 H =>
 zab t91 true H (fun K' => zac H (fun K'' => zai true 8 t3 H (K'' · H)) (K' · H)) fun t93 H =>
 zab t91 true H (fun K' => zay H (fun H K'' => ACalls tP zdK [t92, t93, (.int .i64 0)] H K'') (K' · H)) fun t94 H =>
 zac H (fun K' => zah t91 t94 (.bool false) (K' · H)) fun t95 =>
 zac H (fun K' => K' t95 H) fun t4 =>
 K t4 H))
 (zad .eql false t11 (.int .i64 9) fun t97 =>
 zag t97
 (zac H (fun K' => zai true 8 t3 H (K' · H)) fun t98 =>
 zay H (fun H K' => ACalls tP zcs [t98, (.int .i64 1), (.int .i64 2)] H K') fun t99 =>
 zac H (fun K' => K' t99 H) fun t100 =>
 zab t100 true H (fun K' => zac H (fun K'' => zai true 8 t3 H (K'' · H)) (K' · H)) fun t101 H =>
 zab t100 true H (fun K' => zac H (fun K'' => zaA 1 [(.int .i64 0)] 2 [(0, (.int .i64 0)), (1, (.int .i64 0))] (K'' · H)) (K' · H)) fun t102 H =>
 zab t100 true H (fun K' => zay H (fun H K'' => ACalls tP ziR [t101, t102] H K'') (K' · H)) fun t103 H =>
 zac H (fun K' => zah t100 t103 (.bool false) (K' · H)) fun t104 =>
 zac H (fun K' => K' t104 H) fun t105 =>
 zab t105 true H (fun K' => zac H (fun K'' => K'' t0 H) (K' · H)) fun t106 H =>
 zab t105 true H (fun K' => zac H (fun K'' => zaf 2 t3 (K'' · H)) (K' · H)) fun t107 H =>
 zab t105 true H (fun K' => zac H (fun K'' => zai false 1 t107 H (K'' · H)) (K' · H)) fun t108 H =>
 zab t105 true H (fun K' => zay H (fun H K'' => ACalls tP zct [(.int .i64 2)] H K'') (K' · H)) fun t109 H =>
 zab t105 true H (fun K' => zac H (fun K'' => zaA 3 [(.int .i64 0), (.int .i64 0), .snil] 1 [(0, t109)] (K'' · H)) (K' · H)) fun t110 H =>
 zab t105 true H (fun K' => zay H (fun H K'' => ACalls tP zb9 [t106, t108, t110] H K'') (K' · H)) fun t111 H =>
 zac H (fun K' => zah t105 t111 (.bool false) (K' · H)) fun t112 =>
 zac H (fun K' => K' t112 H) fun t113 =>
 zab t113 true H (fun K' => zac H (fun K'' => K'' t0 H) (K' · H)) fun t114 H =>
 zab t113 true H (fun K' => zac H (fun K'' => zai true 8 t3 H (K'' · H)) (K' · H)) fun t115 H =>
 zab t113 true H (fun K' => zay H (fun H K'' => ACalls tP zdK [t114, t115, (.int .i64 0)] H K'') (K' · H)) fun t116 H =>
 zac H (fun K' => zah t113 t116 (.bool false) (K' · H)) fun t117 =>
 zac H (fun K' => K' t117 H) fun t4 =>
 K t4 H)
 (zCJ t0 t3 H K))
def zjD (t0 t1 : AV) (H : zaa) (K : Kt) : Prop :=
 zaH t1 H fun t3 H =>
 zaf 0 t3 fun t10 =>
 zae false 1 t10 H fun t11 =>
 zad .eql false t11 (.int .i64 7) fun t13 =>
 zag t13
 (zac H (fun K' => zai true 8 t3 H (K' · H)) fun t14 =>
 zay H (fun H K' => ACalls tP zcs [t14, (.int .i64 0), (.int .i64 2)] H K') fun t15 =>
 zac H (fun K' => K' t15 H) fun t16 =>
 zab t16 true H (fun K' => zac H (fun K'' => zai true 8 t3 H (K'' · H)) (K' · H)) fun t17 H =>
 zab t16 true H (fun K' => zac H (fun K'' => zaA 1 [(.int .i64 0)] 2 [(0, (.int .i64 0)), (1, (.int .i64 1))] (K'' · H)) (K' · H)) fun t18 H =>
 zab t16 true H (fun K' => zay H (fun H K'' => ACalls tP ziR [t17, t18] H K'') (K' · H)) fun t19 H =>
 zac H (fun K' => zah t16 t19 (.bool false) (K' · H)) fun t20 =>
 zac H (fun K' => K' t20 H) fun t21 =>
 zab t21 true H (fun K' => zac H (fun K'' => K'' t0 H) (K' · H)) fun t22 H =>
 zab t21 true H (fun K' => zac H (fun K'' => zaf 3 t3 (K'' · H)) (K' · H)) fun t23 H =>
 zab t21 true H (fun K' => zac H (fun K'' => zai false 1 t23 H (K'' · H)) (K' · H)) fun t24 H =>
 zab t21 true H (fun K' => zac H (fun K'' => zaj 1 t24 (.int .i64 1) (K'' · H)) (K' · H)) fun t25 H =>
 zab t21 true H (fun K' => zac H (fun K'' => zai false 1 t25 H (K'' · H)) (K' · H)) fun t26 H =>
 zab t21 true H (fun K' => zac H (fun K'' => K'' t0 H) (K' · H)) fun t27 H =>
 zab t21 true H (fun K' => zac H (fun K'' => zai true 8 t3 H (K'' · H)) (K' · H)) fun t28 H =>
 zab t21 true H (fun K' => zay H (fun H K'' => ACalls tP zka [t27, t28, (.int .i64 0)] H K'') (K' · H)) fun t29 H =>
 zab t21 true H (fun K' => zac H (fun K'' => zaA 3 [(.int .i64 0), (.int .i64 0), .snil] 1 [(0, t29)] (K'' · H)) (K' · H)) fun t30 H =>
 zab t21 true H (fun K' => zay H (fun H K'' => ACalls tP zb9 [t22, t26, t30] H K'') (K' · H)) fun t31 H =>
 zac H (fun K' => zah t21 t31 (.bool false) (K' · H)) fun t32 =>
 zac H (fun K' => K' t32 H) fun t33 =>
 zab t33 true H (fun K' => zac H (fun K'' => K'' t0 H) (K' · H)) fun t34 H =>
 zab t33 true H (fun K' => zac H (fun K'' => zai true 8 t3 H (K'' · H)) (K' · H)) fun t35 H =>
 zab t33 true H (fun K' => zay H (fun H K'' => ACalls tP zdK [t34, t35, (.int .i64 1)] H K'') (K' · H)) fun t36 H =>
 zac H (fun K' => zah t33 t36 (.bool false) (K' · H)) fun t37 =>
 zac H (fun K' => K' t37 H) fun t4 =>
 K t4 H)
 (zad .eql false t11 (.int .i64 24) fun t39 =>
 zag t39
 (zac H (fun K' => zai true 8 t3 H (K' · H)) fun t40 =>
 zay H (fun H K' => ACalls tP zcs [t40, (.int .i64 0), (.int .i64 2)] H K') fun t41 =>
 zac H (fun K' => K' t41 H) fun t42 =>
 zab t42 true H (fun K' => zac H (fun K'' => zai true 8 t3 H (K'' · H)) (K' · H)) fun t43 H =>
 zab t42 true H (fun K' => zac H (fun K'' => zaA 1 [(.int .i64 0)] 2 [(0, (.int .i64 0)), (1, (.int .i64 1))] (K'' · H)) (K' · H)) fun t44 H =>
 zab t42 true H (fun K' => zay H (fun H K'' => ACalls tP ziR [t43, t44] H K'') (K' · H)) fun t45 H =>
 zac H (fun K' => zah t42 t45 (.bool false) (K' · H)) fun t46 =>
 zac H (fun K' => K' t46 H) fun t47 =>
 zab t47 true H (fun K' => zac H (fun K'' => K'' t0 H) (K' · H)) fun t48 H =>
 zab t47 true H (fun K' => zac H (fun K'' => zaf 3 t3 (K'' · H)) (K' · H)) fun t49 H =>
 zab t47 true H (fun K' => zac H (fun K'' => zai false 1 t49 H (K'' · H)) (K' · H)) fun t50 H =>
 zab t47 true H (fun K' => zac H (fun K'' => zaj 1 t50 (.int .i64 1) (K'' · H)) (K' · H)) fun t51 H =>
 zab t47 true H (fun K' => zac H (fun K'' => zai false 1 t51 H (K'' · H)) (K' · H)) fun t52 H =>
 zab t47 true H (fun K' => zay H (fun H K'' => ACalls tP zct [(.int .i64 1)] H K'') (K' · H)) fun t53 H =>
 zab t47 true H (fun K' => zac H (fun K'' => zaA 3 [(.int .i64 0), (.int .i64 0), .snil] 1 [(0, t53)] (K'' · H)) (K' · H)) fun t54 H =>
 zab t47 true H (fun K' => zay H (fun H K'' => ACalls tP zb9 [t48, t52, t54] H K'') (K' · H)) fun t55 H =>
 zac H (fun K' => zah t47 t55 (.bool false) (K' · H)) fun t56 =>
 zac H (fun K' => K' t56 H) fun t57 =>
 zab t57 true H (fun K' => zac H (fun K'' => K'' t0 H) (K' · H)) fun t58 H =>
 zab t57 true H (fun K' => zac H (fun K'' => zai true 8 t3 H (K'' · H)) (K' · H)) fun t59 H =>
 zab t57 true H (fun K' => zay H (fun H K'' => ACalls tP zdK [t58, t59, (.int .i64 0)] H K'') (K' · H)) fun t60 H =>
 zac H (fun K' => zah t57 t60 (.bool false) (K' · H)) fun t61 =>
 zac H (fun K' => K' t61 H) fun t4 =>
 K t4 H)
 (zad .eql false t11 (.int .i64 8) fun t63 =>
 zCG t0 t3 t11 t63 H K))
theorem zON (t0 t3 t6 t155 t156 : AV) (H : zaa) (K : Kt) (Kb19 : Lt) : awp tP zdm zCF (zat zCN Kb19 (zCE K)) (zg3 t0 t3 t6 t155 t156) H = znA t0 t3 t6 t155 t156 H K Kb19 := by kernel_rfl
theorem zOT {t0 t3 t6 t155 t156 : AV} {H : zaa} {K : Kt} (Inv : Nat → AV → zaa → Prop) (n : Nat) (h0 : HSc H → Inv n t156 H)
  (round : ∀ n t156 H', Inv n t156 H' → HSc H' → H.length ≤ H'.length → (zg3 t0 t3 t6 t155 t156).all (AV.sc H'.length) = true → ∀ Kb19 : Lt, (∀ F'' H'', (∃ n', n' < n ∧ Back H.length (fun F2 H2 => ∃ t156, F2 = zg3 t0 t3 t6 t155 t156 ∧ Inv n' t156 H2) F'' H'') → Kb19 F'' H'') → znA t0 t3 t6 t155 t156 H' K Kb19) : zCM t0 t3 t6 t155 t156 H K :=
 zav (M := zdm) zCN (fun n F H => ∃ t156, F = zg3 t0 t3 t6 t155 t156 ∧ Inv n t156 H) n (fun hs _ => ⟨t156, rfl, h0 hs⟩) (fun n F H' ⟨t156, hF, hI⟩ h1 h2 h3 => by subst hF; rw [zON]; exact round n t156 H' hI h1 h2 h3 _ (fun _ _ h => h))
theorem zOR (t0 t3 : AV) (H : zaa) (K : Kt) : awp tP zdm zCL (zCK K) (t0 :: ux 2 (t3 :: ux 183 [])) H = zsk t0 t3 H K := by kernel_rfl
theorem zOS {t0 t3 : AV} {H : zaa} {K : Kt} (h : HSc H → zsk t0 t3 H K) : zCJ t0 t3 H K :=
 fun B w G a hH hF hd => zbB (M := zdm) _ _ _ _ ((zOR t0 t3 H K).mpr (h hH.sc)) B w G a hH hF hd
theorem zOP (t0 t3 t11 t62 : AV) (H : zaa) (K : Kt) : awp tP zdm zCI (zCH K) (t0 :: ux 2 (t3 :: ux 7 (t11 :: ux 50 (t62 :: ux 124 [])))) H = zsj t0 t3 t11 t62 H K := by kernel_rfl
theorem zOQ {t0 t3 t11 t62 : AV} {H : zaa} {K : Kt} (h : HSc H → zsj t0 t3 t11 t62 H K) : zCG t0 t3 t11 t62 H K :=
 fun B w G a hH hF hd => zbB (M := zdm) _ _ _ _ ((zOP t0 t3 t11 t62 H K).mpr (h hH.sc)) B w G a hH hF hd
theorem zOO (t0 t1 : AV) (H : zaa) (K : Kt) : awp tP zdm ze0 (zal tP znB K) (t0 :: t1 :: List.replicate 185 .unk) H = zjD t0 t1 H K := by kernel_rfl
theorem zOU {t0 t1 : AV} {H : zaa} {K : Kt} (h : HSc H → zjD t0 t1 H K) : ACalls tP zo0 [t0, t1] H K :=
 zaw (M := zdm) Try.func97 (c := ze0) (by kernel_rfl) (fun hs => (zOO t0 t1 H K).mpr (h hs))
def zdz : Nat → List Bool
 | 180031 => rl false [0,1,2,1,2,3,2,1,85,1,46,1,30]
 | 168008 => rl false [0,1,2,1,2,4,69,1,95]
 | 100004 => rl false [0,1,2,1,171]
 | _ => []
noncomputable def ze1 : Code := Try.f98.body.getD .skip
noncomputable def znD : List ResultVar := Try.f98.results.toList
noncomputable def zCT : Code := zap [1, 1, 1, 1, 1, 1, 1, 0, 1, 0, 1, 1, 1, 1, 1, 1, 1] ze1
def zCS (K : Kt) : AExit → List AV → zaa → Prop := zaq tP zdz [1, 1, 1, 1, 1, 1, 1, 0, 1, 0, 1, 1, 1, 1, 1, 1, 1] ze1 (zal tP znD K)
def zCR (t0 t3 t6 t7 t8 t11 t97 t144 : AV) (H : zaa) (K : Kt) : Prop := AWp tP zCT (zCS K) (t0 :: ux 2 (t3 :: ux 2 (t6 :: t7 :: t8 :: ux 2 (t11 :: ux 85 (t97 :: ux 46 (t144 :: ux 30 [])))))) H
def zsn (t0 t3 t6 t7 t8 t11 t97 t144 : AV) (H : zaa) (K : Kt) : Prop :=
 zag t144
 (zaf 5 t3 fun t146 =>
 zae true 3 t146 H fun t147 =>
 zae true 3 t6 H fun t148 =>
 ACalls tP zbG [t147, t148] H fun t149 H =>
 K t149 H)
 (zad .eql false t97 (.int .i64 19) fun t151 =>
 zag t151
 (zaf 5 t3 fun t152 =>
 zae true 3 t152 H fun t153 =>
 zae true 3 t11 H fun t154 =>
 ACalls tP zbG [t153, t154] H fun t155 H =>
 K t155 H)
 (zad .eql false t97 (.int .i64 20) fun t157 =>
 zag t157
 (zaf 5 t3 fun t158 =>
 zae true 3 t158 H fun t159 =>
 zae true 3 t8 H fun t160 =>
 ACalls tP zbG [t159, t160] H fun t161 H =>
 K t161 H)
 (zaf 2 t3 fun t163 =>
 zae false 1 t163 H fun t164 =>
 zae true 3 t11 H fun t165 =>
 zae true 3 t8 H fun t166 =>
 zaA 3 [(.int .i64 0), (.int .i64 0), .snil] 2 [(0, t165), (1, t166)] fun t167 =>
 ACalls tP zb9 [t0, t164, t167] H fun t168 H =>
 zab t168 true H (fun K' => zaf 5 t3 (K' · H)) fun t170 H =>
 zab t168 true H (fun K' => zae true 3 t170 H (K' · H)) fun t171 H =>
 zab t168 true H (fun K' => zae true 3 t7 H (K' · H)) fun t172 H =>
 zab t168 true H (fun K' => ACalls tP zbG [t171, t172] H K') fun t173 H =>
 zah t168 t173 (.bool false) fun t174 =>
 K t174 H)))
def znC (t0 t3 t6 t7 t8 : AV) (H : zaa) (K : Kt) : Prop :=
 zac H (fun K' => zai true 3 t8 H (K' · H)) fun t90 =>
 zac H (fun K' => zaA 3 [(.int .i64 0), (.int .i64 0), .snil] 1 [(0, t90)] (K' · H)) fun t91 =>
 zay H (fun H K' => ACalls tP zd7 [(.int .i64 7), t91] H K') fun t92 =>
 zac H (fun K' => zai true 3 t8 H (K' · H)) fun t93 =>
 zac H (fun K' => zaA 3 [(.int .i64 0), (.int .i64 0), .snil] 1 [(0, t93)] (K' · H)) fun t94 =>
 zay H (fun H K' => ACalls tP zd7 [(.int .i64 8), t94] H K') fun t95 =>
 zaC [(.int .i64 0), (.int .i64 0), .snil] H fun t10 H =>
 zaC [(.int .i64 0), (.int .i64 0), .snil] H fun t11 H =>
 zas 3 t10 t92 H fun H =>
 zas 3 t11 t95 H fun H =>
 zaf 0 t3 fun t96 =>
 zae false 1 t96 H fun t97 =>
 zad .eql false t97 (.int .i64 15) fun t99 =>
 zag t99
 (zaf 2 t3 fun t101 =>
 zae false 1 t101 H fun t102 =>
 zae true 3 t6 H fun t103 =>
 zae true 3 t8 H fun t104 =>
 zaA 3 [(.int .i64 0), (.int .i64 0), .snil] 2 [(0, t103), (1, t104)] fun t105 =>
 ACalls tP zb9 [t0, t102, t105] H fun t106 H =>
 zab t106 true H (fun K' => zaf 5 t3 (K' · H)) fun t108 H =>
 zab t106 true H (fun K' => zae true 3 t108 H (K' · H)) fun t109 H =>
 zab t106 true H (fun K' => zae true 3 t10 H (K' · H)) fun t110 H =>
 zab t106 true H (fun K' => ACalls tP zbG [t109, t110] H K') fun t111 H =>
 zah t106 t111 (.bool false) fun t112 =>
 K t112 H)
 (zad .eql false t97 (.int .i64 16) fun t114 =>
 zag t114
 (zaf 2 t3 fun t116 =>
 zae false 1 t116 H fun t117 =>
 zae true 3 t10 H fun t118 =>
 zae true 3 t6 H fun t119 =>
 zaA 3 [(.int .i64 0), (.int .i64 0), .snil] 2 [(0, t118), (1, t119)] fun t120 =>
 ACalls tP zb9 [t0, t117, t120] H fun t121 H =>
 zab t121 true H (fun K' => zaf 5 t3 (K' · H)) fun t123 H =>
 zab t121 true H (fun K' => zae true 3 t123 H (K' · H)) fun t124 H =>
 zab t121 true H (fun K' => zae true 3 t8 H (K' · H)) fun t125 H =>
 zab t121 true H (fun K' => ACalls tP zbG [t124, t125] H K') fun t126 H =>
 zah t121 t126 (.bool false) fun t127 =>
 K t127 H)
 (zad .eql false t97 (.int .i64 17) fun t129 =>
 zag t129
 (zaf 2 t3 fun t131 =>
 zae false 1 t131 H fun t132 =>
 zae true 3 t10 H fun t133 =>
 zae true 3 t6 H fun t134 =>
 zae true 3 t8 H fun t135 =>
 zaA 3 [(.int .i64 0), (.int .i64 0), .snil] 3 [(0, t133), (1, t134), (2, t135)] fun t136 =>
 ACalls tP zb9 [t0, t132, t136] H fun t137 H =>
 zab t137 true H (fun K' => zaf 5 t3 (K' · H)) fun t139 H =>
 zab t137 true H (fun K' => zae true 3 t139 H (K' · H)) fun t140 H =>
 zab t137 true H (fun K' => zae true 3 t7 H (K' · H)) fun t141 H =>
 zab t137 true H (fun K' => ACalls tP zbG [t140, t141] H K') fun t142 H =>
 zah t137 t142 (.bool false) fun t143 =>
 K t143 H)
 (zad .eql false t97 (.int .i64 18) fun t145 =>
 zCR t0 t3 t6 t7 t8 t11 t97 t145 H K)))
def ze2 (t0 t3 t6 t7 t8 : AV) (H : zaa) (K : Kt) : Prop :=
 znC t0 t3 t6 t7 t8 H K
noncomputable def zCV : Code := zap [1, 1, 1, 1, 1, 0, 1, 1, 0, 1, 1, 1, 1, 1] ze1
def zCU (K : Kt) : AExit → List AV → zaa → Prop := zaq tP zdz [1, 1, 1, 1, 1, 0, 1, 1, 0, 1, 1, 1, 1, 1] ze1 (zal tP znD K)
def zjE (t0 t3 t6 t7 t8 t9 t79 : AV) (H : zaa) (K : Kt) : Prop := AWp tP zCV (zCU K) (t0 :: ux 2 (t3 :: ux 2 (t6 :: t7 :: t8 :: t9 :: ux 69 (t79 :: ux 95 [])))) H
def zso (t0 t3 t6 t7 t8 t9 t79 : AV) (H : zaa) (K : Kt) : Prop :=
 zag t79
 (zaf 0 t9 fun t83 =>
 zae false 1 t83 H fun t84 =>
 zad .neq false t84 (.int .i64 7) fun t85 =>
 zag t85
 (K (.bool false) H)
 (zaf 2 t9 fun t86 =>
 zae false 1 t86 H fun t87 =>
 zaj 3 t87 (.int .i64 0) fun t88 =>
 zae true 3 t88 H fun t89 =>
 zas 3 t8 t89 H fun H =>
 ze2 t0 t3 t6 t7 t8 H K))
 (zaf 0 t9 fun t56 =>
 zae false 1 t56 H fun t57 =>
 zad .neq false t57 (.int .i64 8) fun t58 =>
 zag t58
 (K (.bool false) H)
 (zaf 2 t9 fun t59 =>
 zae false 1 t59 H fun t60 =>
 zaj 3 t60 (.int .i64 0) fun t61 =>
 zae true 3 t61 H fun t62 =>
 zas 3 t8 t62 H fun H =>
 ze2 t0 t3 t6 t7 t8 H K))
noncomputable def zCQ : Code := zap [1, 1, 1] ze1
def zCP (K : Kt) : AExit → List AV → zaa → Prop := zaq tP zdz [1, 1, 1] ze1 (zal tP znD K)
def zCO (t0 t3 : AV) (H : zaa) (K : Kt) : Prop := AWp tP zCQ (zCP K) (t0 :: ux 2 (t3 :: ux 171 [])) H
def zsm (t0 t3 : AV) (H : zaa) (K : Kt) : Prop :=
 ACalls tP zct [(.int .i64 1)] H fun t41 H =>
 ACalls tP zct [(.int .i64 3)] H fun t42 H =>
 zaC [(.int .i64 0), (.int .i64 0), .snil] H fun t6 H =>
 zaC [(.int .i64 0), (.int .i64 0), .snil] H fun t7 H =>
 zas 3 t6 t41 H fun H =>
 zas 3 t7 t42 H fun H =>
 zaC [(.int .i64 0), (.int .i64 0), .snil] H fun t8 H =>
 zac H (fun K' => K' t0 H) fun t43 =>
 zac H (fun K' => za2 t43 (K' · H)) fun t44 =>
 zac H (fun K' => zaf 0 t44 (K' · H)) fun t45 =>
 zac H (fun K' => zaf 2 t45 (K' · H)) fun t46 =>
 zac H (fun K' => zai false 1 t46 H (K' · H)) fun t47 =>
 zac H (fun K' => zaf 2 t3 (K' · H)) fun t48 =>
 zac H (fun K' => zai false 1 t48 H (K' · H)) fun t49 =>
 zac H (fun K' => zaj 1 t49 (.int .i64 0) (K' · H)) fun t50 =>
 zac H (fun K' => zai false 1 t50 H (K' · H)) fun t51 =>
 zac H (fun K' => zaj 3 t47 t51 (K' · H)) fun t52 =>
 zac H (fun K' => zai true 3 t52 H (K' · H)) fun t53 =>
 zaC [(.int .i64 0), (.int .i64 0), .snil] H fun t9 H =>
 zas 3 t9 t53 H fun H =>
 zaf 0 t3 fun t54 =>
 zae false 1 t54 H fun t55 =>
 zad .eql false t55 (.int .i64 15) fun t64 =>
 zag t64
 (zac H (fun K' => K' t0 H) fun t65 =>
 zac H (fun K' => za2 t65 (K' · H)) fun t66 =>
 zac H (fun K' => zaf 0 t66 (K' · H)) fun t67 =>
 zac H (fun K' => zaf 2 t67 (K' · H)) fun t68 =>
 zac H (fun K' => zai false 1 t68 H (K' · H)) fun t69 =>
 zac H (fun K' => zaf 2 t3 (K' · H)) fun t70 =>
 zac H (fun K' => zai false 1 t70 H (K' · H)) fun t71 =>
 zac H (fun K' => zaj 1 t71 (.int .i64 1) (K' · H)) fun t72 =>
 zac H (fun K' => zai false 1 t72 H (K' · H)) fun t73 =>
 zac H (fun K' => zaj 3 t69 t73 (K' · H)) fun t74 =>
 zac H (fun K' => zai true 3 t74 H (K' · H)) fun t75 =>
 zas 3 t8 t75 H fun H =>
 ze2 t0 t3 t6 t7 t8 H K)
 (zad .eql false t55 (.int .i64 19) fun t77 =>
 zag t77
 (zae true 3 t9 H fun t78 =>
 zas 3 t8 t78 H fun H =>
 ze2 t0 t3 t6 t7 t8 H K)
 (zad .eql false t55 (.int .i64 16) fun t80 =>
 zag t80
 (zjE t0 t3 t6 t7 t8 t9 t80 H K)
 (zad .eql false t55 (.int .i64 17) fun t81 =>
 zag t81
 (zjE t0 t3 t6 t7 t8 t9 t81 H K)
 (zad .eql false t55 (.int .i64 18) fun t82 =>
 zjE t0 t3 t6 t7 t8 t9 t82 H K))))
def zsl (t0 t1 : AV) (H : zaa) (K : Kt) : Prop :=
 zaH t1 H fun t3 H =>
 zaA 1 [(.int .i64 0)] 22 [(15, (.int .i64 2)), (16, (.int .i64 2)), (17, (.int .i64 3)), (18, (.int .i64 1)), (19, (.int .i64 1)), (20, (.int .i64 1)), (21, (.int .i64 2))] fun t12 =>
 zac H (fun K' => zaf 0 t3 (K' · H)) fun t13 =>
 zac H (fun K' => zai false 1 t13 H (K' · H)) fun t14 =>
 zac H (fun K' => zad .lss false t14 (.int .i64 0) (K' · H)) fun t15 =>
 zac H (fun K' => K' t15 H) fun t16 =>
 zab t16 false H (fun K' => zac H (fun K'' => zaf 0 t3 (K'' · H)) (K' · H)) fun t17 H =>
 zab t16 false H (fun K' => zac H (fun K'' => zai false 1 t17 H (K'' · H)) (K' · H)) fun t18 H =>
 zab t16 false H (fun K' => zac H (fun K'' => K'' t12 H) (K' · H)) fun t19 H =>
 zab t16 false H (fun K' => zac H (fun K'' => zak 1 t19 (K'' · H)) (K' · H)) fun t20 H =>
 zab t16 false H (fun K' => zac H (fun K'' => zad .geq false t18 t20 (K'' · H)) (K' · H)) fun t21 H =>
 zac H (fun K' => zah t16 (.bool true) t21 (K' · H)) fun t22 =>
 zac H (fun K' => K' t22 H) fun t23 =>
 zab t23 false H (fun K' => zac H (fun K'' => K'' t12 H) (K' · H)) fun t24 H =>
 zab t23 false H (fun K' => zac H (fun K'' => zaf 0 t3 (K'' · H)) (K' · H)) fun t25 H =>
 zab t23 false H (fun K' => zac H (fun K'' => zai false 1 t25 H (K'' · H)) (K' · H)) fun t26 H =>
 zab t23 false H (fun K' => zac H (fun K'' => zaj 1 t24 t26 (K'' · H)) (K' · H)) fun t27 H =>
 zab t23 false H (fun K' => zac H (fun K'' => zai false 1 t27 H (K'' · H)) (K' · H)) fun t28 H =>
 zab t23 false H (fun K' => zac H (fun K'' => zad .eql false t28 (.int .i64 0) (K'' · H)) (K' · H)) fun t29 H =>
 zac H (fun K' => zah t23 (.bool true) t29 (K' · H)) fun t30 =>
 zac H (fun K' => K' t30 H) fun t31 =>
 zab t31 false H (fun K' => zac H (fun K'' => zai true 8 t3 H (K'' · H)) (K' · H)) fun t32 H =>
 zab t31 false H (fun K' => zac H (fun K'' => K'' t12 H) (K' · H)) fun t33 H =>
 zab t31 false H (fun K' => zac H (fun K'' => zaf 0 t3 (K'' · H)) (K' · H)) fun t34 H =>
 zab t31 false H (fun K' => zac H (fun K'' => zai false 1 t34 H (K'' · H)) (K' · H)) fun t35 H =>
 zab t31 false H (fun K' => zac H (fun K'' => zaj 1 t33 t35 (K'' · H)) (K' · H)) fun t36 H =>
 zab t31 false H (fun K' => zac H (fun K'' => zai false 1 t36 H (K'' · H)) (K' · H)) fun t37 H =>
 zab t31 false H (fun K' => zay H (fun H K'' => ACalls tP zcs [t32, t37, (.int .i64 0)] H K'') (K' · H)) fun t38 H =>
 zab t31 false H (fun K' => zac H (fun K'' => aUn .not t38 (K'' · H)) (K' · H)) fun t39 H =>
 zac H (fun K' => zah t31 (.bool true) t39 (K' · H)) fun t40 =>
 zag t40
 (K (.bool false) H)
 (zCO t0 t3 H K)
theorem zOY (t0 t3 t6 t7 t8 t11 t97 t144 : AV) (H : zaa) (K : Kt) : awp tP zdz zCT (zCS K) (t0 :: ux 2 (t3 :: ux 2 (t6 :: t7 :: t8 :: ux 2 (t11 :: ux 85 (t97 :: ux 46 (t144 :: ux 30 [])))))) H = zsn t0 t3 t6 t7 t8 t11 t97 t144 H K := by kernel_rfl
theorem zOZ {t0 t3 t6 t7 t8 t11 t97 t144 : AV} {H : zaa} {K : Kt} (h : HSc H → zsn t0 t3 t6 t7 t8 t11 t97 t144 H K) : zCR t0 t3 t6 t7 t8 t11 t97 t144 H K :=
 fun B w G a hH hF hd => zbB (M := zdz) _ _ _ _ ((zOY t0 t3 t6 t7 t8 t11 t97 t144 H K).mpr (h hH.sc)) B w G a hH hF hd
theorem zO0 (t0 t3 t6 t7 t8 t9 t79 : AV) (H : zaa) (K : Kt) : awp tP zdz zCV (zCU K) (t0 :: ux 2 (t3 :: ux 2 (t6 :: t7 :: t8 :: t9 :: ux 69 (t79 :: ux 95 [])))) H = zso t0 t3 t6 t7 t8 t9 t79 H K := by kernel_rfl
theorem zO1 {t0 t3 t6 t7 t8 t9 t79 : AV} {H : zaa} {K : Kt} (h : HSc H → zso t0 t3 t6 t7 t8 t9 t79 H K) : zjE t0 t3 t6 t7 t8 t9 t79 H K :=
 fun B w G a hH hF hd => zbB (M := zdz) _ _ _ _ ((zO0 t0 t3 t6 t7 t8 t9 t79 H K).mpr (h hH.sc)) B w G a hH hF hd
theorem zOW (t0 t3 : AV) (H : zaa) (K : Kt) : awp tP zdz zCQ (zCP K) (t0 :: ux 2 (t3 :: ux 171 [])) H = zsm t0 t3 H K := by kernel_rfl
theorem zOX {t0 t3 : AV} {H : zaa} {K : Kt} (h : HSc H → zsm t0 t3 H K) : zCO t0 t3 H K :=
 fun B w G a hH hF hd => zbB (M := zdz) _ _ _ _ ((zOW t0 t3 H K).mpr (h hH.sc)) B w G a hH hF hd
theorem zOV (t0 t1 : AV) (H : zaa) (K : Kt) : awp tP zdz ze1 (zal tP znD K) (t0 :: t1 :: List.replicate 173 .unk) H = zsl t0 t1 H K := by kernel_rfl
theorem zO2 {t0 t1 : AV} {H : zaa} {K : Kt} (h : HSc H → zsl t0 t1 H K) : ACalls tP zo1 [t0, t1] H K :=
 zaw (M := zdz) Try.func98 (c := ze1) (by kernel_rfl) (fun hs => (zOV t0 t1 H K).mpr (h hs))
end Go.Proofs.Ytkdmpbhbmmhijaa
