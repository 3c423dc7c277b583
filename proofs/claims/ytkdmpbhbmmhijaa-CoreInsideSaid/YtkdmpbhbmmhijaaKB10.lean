import Derived.Test.YtkdmpbhbmmhijaaKGD
set_option linter.unusedSimpArgs false
set_option linter.unusedVariables false
namespace Go.Proofs.Ytkdmpbhbmmhijaa
open Go Go.Abs
set_option maxRecDepth 8000
def vty (c : Cor) (v : Int) : VT := c.vars.getD v.toNat (.mk 0 0 [])
def zan (c : Cor) (l : List Int) : List VT := l.map (vty c)
def inV (c : Cor) (l : List Int) : Prop := ∀ x ∈ l, 0 ≤ x ∧ x < (c.vars.length : Int)
def ckB (c : Cor) (u : Nat) : AB := .cells [.sl (c.data.map Dat.cs) .none, .sl (c.codes.map Cod.cs) .none, .sl (VT.css c.vars) .none, .sl (c.exprs.map CEx.cs) .none, .ms u 0 c.codes.length c.codes.length]
theorem zfx {c : Cor} {v : Nat} (h : v < c.vars.length) : vty c v = c.vars[v] := by simp [vty, h]
theorem zpL {c : Cor} (hc : zaR c) (v : Int) : (vty c v).nodes ≤ 250 := by
 obtain ⟨_, _, _, ⟨_, k5⟩, _⟩ := hc
 unfold vty
 rw [List.getD_eq_getElem?_getD]
 by_cases h : v.toNat < c.vars.length
 ·rw [List.getElem?_eq_getElem h]; exact k5 _ (List.getElem_mem h)
 ·rw [List.getElem?_eq_none (by omega)]; simp [VT.nodes, VT.nodesL]
theorem zuR {c : Cor} {l : List Int} {i : Nat} (h : i < l.length) : VT.css (zan c (l.take (i + 1))) = VT.css (zan c (l.take i)) ++ [(vty c l[i]).cs] := by
 rw [zan, zbR h, List.map_append, VT.css_map, VT.css_map, List.map_append]; rfl
theorem zpD {c : Cor} {u kid : Nat} {H : zaa} (hk : H[kid]? = some (ckB c u)) {l : List Int} (hl : l.length ≤ 1000) (hr : inV c l) (K : AV → zaa → Prop) (hK : HSc H → K (zbi (VT.css (zan c l)) H.length) (H ++ zbm zaD 3 l.length)) :
  ACalls tP zd8 [.ptr kid 0, .sl (ints l) .none] H K := by
 refine zOM fun hs => ?_
 have hkl := zbW hk
 simp [zsi]
 refine zOL (Inv := fun q t5 t10 H' => ∃ i : Nat, i ≤ l.length ∧ q = l.length - i ∧ t10 = .int .i64 i ∧ t5 = zbi (VT.css (zan c (l.take i))) H.length ∧ H' = H ++ zbm zaD 3 i) l.length ?_ ?_
 ·intro _; exact ⟨0, by omega, by omega, rfl, rfl, by simp [zbm]⟩
 ·rintro q t5 t10 H' ⟨i, hi, rfl, rfl, rfl, rfl⟩ hsc hlen hsF Kb hKb
  by_cases hlt : i < l.length
  ·have hrr := hr _ (List.getElem_mem hlt)
   obtain ⟨e, he⟩ : ∃ e : Nat, l[i] = e := ⟨(l[i]).toNat, by omega⟩
   have hen : e < c.vars.length := by omega
   have hg : (H ++ zbm zaD 3 i)[kid]? = some (ckB c u) := zaT hk
   have hts := zuR (c := c) hlt
   obtain ⟨x, y, z, hv, hx, hy, hz⟩ := vt3 c.vars[e]
   simp [zny, hlt, ints, he, hg, ckB, hen, hv]
   rw [← hv, zbJ]
   refine zjN (H0 := H) (n := i) (by simp [zan]; omega) rfl rfl (by simp) (by simp [zan]; omega) (by simp [zan]; omega) ?_
   rw [he, zfx hen] at hts
   rw [← hts]
   rw [zar (by omega) (by omega)]
   refine hKb _ _ ⟨l.length - (i + 1), by omega, Back.here (by simp) ?_ ?_ ⟨_, _, rfl, i + 1, by omega, rfl, by simp, rfl, rfl⟩⟩
   ·exact hs.append (by simp [AB.sc, zbm])
   ·have : (zbi (VT.css (zan c (l.take (i + 1)))) H.length).scA (H.length + 1) = true := znU _ (.inr (by omega))
    have h2 : (zbi (VT.css (zan c (l.take (i + 1)))) H.length).sc (H.length + 1) = true := by
     revert this; generalize VT.css (zan c (l.take (i + 1))) = es; cases es <;> simp [zbi, AV.sc, AV.scV, AV.scA]
    simp [zg2, AV.sc, AV.scV, AV.scA, AV.scB, zbm] at h2 ⊢
    exact ⟨by omega, h2⟩
  ·obtain rfl : i = l.length := by omega
   rw [List.take_length]
   simpa [zny] using hK hs
theorem zkQ {c : Cor} {u kid : Nat} {H : zaa} (hk : H[kid]? = some (ckB c u)) {l : List Int} (hl : l.length ≤ 1000) (hr : inV c l) (K : AV → zaa → Prop) (hK : HSc H → K (.sl (VT.css (zan c l)) .none) H) :
  ACalls tP zd8 [.ptr kid 0, .sl (ints l) .none] H K := by
 refine ACalls.out ?_
 exact zpD hk hl hr _ fun hs => Out.one hs (.atom (znV _ _)) rfl rfl (hK hs)
theorem zaO (c : Cor) (l : List Int) : (zan c l).length = l.length := by simp [zan]
theorem zhe {c : Cor} (hc : zaR c) {u kid : Nat} {H : zaa} (hk : H[kid]? = some (ckB c u)) {l : List Int} (hl : l.length ≤ 1000) (hr : inV c l) (ts : List VT) (K : AV → zaa → Prop) (hK : K (.bool (VT.sameL (zan c l) ts)) H) :
  ACalls tP zb9 [.ptr kid 0, .sl (ints l) .none, .sl (VT.css ts) .none] H K := by
 refine ACalls.out (zOE fun hs => ?_)
 simp [zsg]
 refine zkQ hk hl hr _ fun _ => ?_
 refine zte VT.same _ (fun _ => rfl) (zan c l) ts (fun a ha b H K hK => ?_) (by rw [zaO]; omega) _ _ ?_
 ·simp only [aCallV, zsR, List.append_nil]
  have : a.nodes ≤ 250 := by
   obtain ⟨v, _, rfl⟩ := List.mem_map.1 ha
   exact zpL hc v
  exact zmU _ _ _ (Nat.le_refl _) (by omega) _ _ hK
 ·rw [zoe]
  have h3 : Out H.length K (.bool (VT.sameL (zan c l) ts)) H := Out.bool (H2 := H) (J := []) (by simp) (Nat.le_refl _) hs hK
  exact h3
def zaE (e : CEx) (v k : Int) : Bool := (decide (v < 0) || (e.vars.length : Int) == v) && (e.kids.length : Int) == k
theorem zcH (e : CEx) (v k : Int) (H : zaa) (K : AV → zaa → Prop) (hK : K (.bool (zaE e v k)) H) : ACalls tP zcs [.agg e.cs, .int .i64 v, .int .i64 k] H K := by
 refine ACalls.out (zOn fun hs => ?_)
 have hO : ∀ J, Out H.length K (.bool (zaE e v k)) (H ++ J) := fun J => Out.bool rfl (Nat.le_refl _) hs hK
 unfold zaE at hO
 by_cases h1 : v < 0
 ·simp [zjC, CEx.cs, h1] at hO ⊢; exact hO _
 ·cases h2 : ((e.vars.length : Int) == v) with
  | true =>
   simp [zjC, CEx.cs, h1, h2] at hO ⊢; exact hO _
  | false =>
   simp [zjC, CEx.cs, h1, h2] at hO ⊢; exact hO _
theorem zc4 (k : Int) (H : zaa) (K : AV → zaa → Prop) (hK : K (.agg (VT.mk k 0 []).cs) H) : ACalls tP zct [.int .i64 k] H K := by
 refine ACalls.out (zOy fun hs => ?_)
 simp [zsf, zaL, zbw]
 exact zpa (ks := []) (id := 0) hs hK
theorem zok (k : Int) (ts : List VT) (H : zaa) (K : AV → zaa → Prop) (hK : K (.agg (VT.mk k 0 ts).cs) H) : ACalls tP zd7 [.int .i64 k, .sl (VT.css ts) .none] H K := by
 refine ACalls.out (zOH fun hs => ?_)
 simp [zsh, zaL, zbw]
 exact Out.at rfl (Nat.le_refl _) hs (WkV.agg (ds := [.int .i64 k, .int .i64 0, .sl (VT.css ts) .none]) ⟨.refl _, .refl _, .refl _, trivial⟩) rfl (by simp [AV.scV, AV.scA, AV.scB]) (by simpa [VT.cs] using hK)
theorem zu6 (n m : Int) (h0 : 0 ≤ m) (h1 : m ≤ 1000000) (H : zaa) (K : AV → zaa → Prop) (hK : K (.bool (decide (-m ≤ n) && decide (n ≤ m))) H) : ACalls tP zkw [.int .i64 n, .int .i64 m] H K := by
 refine zOB fun hs => ?_
 have hw : IntKind.i64.wrap (-m) = -m := zar (by omega) (by omega)
 by_cases h : -m ≤ n
 ·simp [znx, hw, h] at hK ⊢; exact hK
 ·simp [znx, hw, h] at hK ⊢; exact hK
theorem zdI {c : Cor} (hc : zaR c) {u kid : Nat} {H : zaa} (hk : H[kid]? = some (ckB c u)) {l : List Int} (hl : l.length ≤ 1000) (hr : inV c l) (ts : List VT) {es : List (List AV)} {tok : Tok} (he : es = VT.css ts) (K : AV → zaa → Prop) (hK : K (.bool (VT.sameL (zan c l) ts)) H) :
  ACalls tP zb9 [.ptr kid 0, .sl (ints l) .none, .sl es tok] H K := by
 subst he
 exact ACalls.wk (zhe hc hk hl hr ts K hK) ⟨.rfl', .rfl', .atom (.sl _ _), trivial⟩
theorem zto (k : Int) (ts : List VT) {es : List (List AV)} {tok : Tok} (he : es = VT.css ts) (H : zaa) (K : AV → zaa → Prop) (hK : K (.agg (VT.mk k 0 ts).cs) H) : ACalls tP zd7 [.int .i64 k, .sl es tok] H K := by
 subst he
 exact ACalls.wk (zok k ts H K hK) ⟨.rfl', .atom (.sl _ _), trivial⟩
theorem ztn (k : Int) (ts : List VT) {es : List (List AV)} {id : Nat} (he : es = VT.css ts) (H : zaa) (K : AV → zaa → Prop) (hK : K (.agg (VT.mk k 0 ts).cs) H) : ACalls tP zd7 [.int .i64 k, zbi es id] H K := by
 subst he
 exact ACalls.wk (zok k ts H K hK) ⟨.rfl', .atom (znV _ _), trivial⟩
theorem zd4 {v u : VT} {k : AV → Prop} : zaA 3 [.int .i64 0, .int .i64 0, .snil] 2 [(0, .agg v.cs), (1, .agg u.cs)] k = k (.sl [v.cs, u.cs] .full) := by
 cases v; cases u
 exact propext Iff.rfl
theorem zDS {v u w : VT} {k : AV → Prop} : zaA 3 [.int .i64 0, .int .i64 0, .snil] 3 [(0, .agg v.cs), (1, .agg u.cs), (2, .agg w.cs)] k = k (.sl [v.cs, u.cs, w.cs] .full) := by
 cases v; cases u; cases w
 exact propext Iff.rfl
theorem zn1 {m n : Int} {k : AV → Prop} : zaA 1 [.int .i64 0] 2 [(0, .int .i64 m), (1, .int .i64 n)] k = k (.sl (ints [m, n]) .full) := propext Iff.rfl
theorem ex3 (e : CEx) : ∃ x y z, e.ty.cs = [x, y, z] ∧ x.known = true ∧ y.known = true ∧ z.known = true ∧ e.cs = [.int .i64 e.op, .int .i64 e.num, .sl (ints e.vars) .none, .sl (rows e.binds) .none, .sl (ints e.kids) .none, x, y, z] := by
 obtain ⟨x, y, z, hv, hx, hy, hz⟩ := vt3 e.ty
 exact ⟨x, y, z, hv, hx, hy, hz, by rw [CEx.cs, hv]⟩
def ety (c : Cor) (k : Int) : VT := match c.exprs[k.toNat]? with | some e => e.ty | none => .mk 0 0 []
def inE (c : Cor) (l : List Int) : Prop := ∀ x ∈ l, 0 ≤ x ∧ x < (c.exprs.length : Int)
theorem zof {c : Cor} {k : Nat} (h : k < c.exprs.length) : ety c k = (c.exprs[k]).ty := by simp [ety, h]
theorem ztf {c : Cor} (hc : zaR c) (k : Int) : (ety c k).nodes ≤ 250 := by
 obtain ⟨_, _, _, _, _, k7⟩ := hc
 unfold ety
 by_cases h : k.toNat < c.exprs.length
 ·rw [List.getElem?_eq_getElem h]; exact (k7 _ (List.getElem_mem h)).2.2.2.1
 ·rw [List.getElem?_eq_none (by omega)]; simp [VT.nodes, VT.nodesL]
theorem ztC {c : Cor} {u kid : Nat} {H : zaa} (hk : H[kid]? = some (ckB c u)) (e : CEx) (hr : inE c e.kids) (i : Nat) (hi : i < e.kids.length) (K : AV → zaa → Prop) (hK : K (.agg (ety c e.kids[i]).cs) H) :
  ACalls tP zka [.ptr kid 0, .agg e.cs, .int .i64 i] H K := by
 refine ACalls.out (zHF fun hs => ?_)
 have hkl := zbW hk
 have hrr := hr _ (List.getElem_mem hi)
 obtain ⟨k, hkk⟩ : ∃ k : Nat, e.kids[i] = k := ⟨(e.kids[i]).toNat, by omega⟩
 have hkn : k < c.exprs.length := by omega
 rw [hkk, zof hkn] at hK
 obtain ⟨x, y, z, hv, hx, hy, hz, hat⟩ := ex3 e
 obtain ⟨x', y', z', hv', hx', hy', hz', hat'⟩ := zdH hkn
 have hg : ∀ J, (H ++ J)[kid]? = some (ckB c u) := fun J => zaT hk
 simp [zpT, hat, hg, ckB, hi, hkk, hkn, hat', hx', hy', hz']
 rw [hv'] at hK
 refine Out.at rfl (Nat.le_refl _) hs (WkV.agg (ds := [x', y', z']) ⟨.refl _, .refl _, .refl _, trivial⟩) rfl ?_ hK
 have := VT.cs_scA (c.exprs[k]).ty H.length
 rw [hv'] at this
 simpa [AV.scV] using this
def zbV (c : Cor) (t : VT) (l : List Int) : Bool := l.all fun k => (ety c k).same t
theorem zov {c : Cor} (hc : zaR c) {u kid : Nat} {H : zaa} (hk : H[kid]? = some (ckB c u)) (e : CEx) (hl : e.kids.length ≤ 1000) (hr : inE c e.kids) (f : Nat) (K : AV → zaa → Prop) (hK : K (.bool (zbV c e.ty (e.kids.drop f))) H) :
  ACalls tP zdK [.ptr kid 0, .agg e.cs, .int .i64 f] H K := by
 refine ACalls.out (zHK fun hs => ?_)
 have hkl := zbW hk
 obtain ⟨x, y, z, hv, hx, hy, hz, hat⟩ := ex3 e
 have hO : ∀ J, Out H.length K (.bool (zbV c e.ty (e.kids.drop f))) (H ++ J) := fun J => Out.bool rfl (Nat.le_refl _) hs hK
 simp [zpU, hat]
 refine zHJ (Inv := fun q t7 H' => ∃ i : Nat, q = e.kids.length - i ∧ t7 = .int .i64 i ∧ zbV c e.ty (e.kids.drop i) = zbV c e.ty (e.kids.drop f) ∧ H' = H ++ [.cells [.int .i64 e.op, .int .i64 e.num, .sl (ints e.vars) .none, .sl (rows e.binds) .none, .sl (ints e.kids) .none, x, y, z]]) (e.kids.length - f) ?_ ?_
 ·intro _; exact ⟨f, rfl, rfl, rfl, rfl⟩
 ·rintro q t7 H' ⟨i, rfl, rfl, ho, rfl⟩ hsc hlen hsF Kb hKb
  by_cases hlt : i < e.kids.length
  ·rw [List.drop_eq_getElem_cons hlt, zbV, List.all_cons, ← zbV] at ho
   simp [zk7, hlt]
   rw [← hat, ← hv]
   refine zaz (.agg (ety c e.kids[i]).cs) (fun J => ztC (zaT (zaT hk)) e hr i hlt _ ⟨rfl, rfl⟩) ?_
   refine zaz (.bool ((ety c e.kids[i]).same e.ty)) (fun J => zmU _ _ _ (Nat.le_refl _) (by have := ztf hc e.kids[i]; omega) _ _ ⟨rfl, rfl⟩) ?_
   cases hsm : (ety c e.kids[i]).same e.ty with
   | false =>
    rw [hsm, Bool.false_and] at ho
    rw [← ho] at hO
    simp
    exact hO _
   | true =>
    rw [hsm, Bool.true_and] at ho
    simp
    rw [zar (by omega) (by omega)]
    refine hKb _ _ ⟨e.kids.length - (i + 1), by omega, Back.here (by simp) (by rw [hat]; exact hsc) ?_ ⟨_, rfl, i + 1, rfl, by simp, ho, by rw [hat]⟩⟩
    simp [zfB, AV.sc, AV.scV, AV.scA, AV.scB]; omega
  ·have hd : e.kids.drop i = [] := List.drop_eq_nil_of_le (by omega)
   rw [hd] at ho
   rw [← ho] at hO
   simp [zk7, hlt]
   exact hO _
def zbQ (l : List (List Int)) : List Int := l.map fun r => (r.length : Int)
theorem zDY : zcy tP zoE = true := by kernel_rfl
theorem znZ (e : CEx) (hl : e.binds.length ≤ 1000) (ns : List Int) {tok : Tok} (H : zaa) (K : AV → zaa → Prop) (hK : K (.bool (zbQ e.binds == ns)) H) : ACalls tP ziR [.agg e.cs, .sl (ints ns) tok] H K := by
 refine ACalls.wk (args' := [.agg e.cs, .sl (ints ns) .none]) ?_ ⟨.rfl', .atom (.sl _ _), trivial⟩
 refine ACalls.out (zHC fun hs => ?_)
 obtain ⟨x, y, z, hv, hx, hy, hz, hat⟩ := ex3 e
 have hO : ∀ J, Out H.length K (.bool (zbQ e.binds == ns)) (H ++ J) := fun J => Out.bool rfl (Nat.le_refl _) hs hK
 simp [zpS, hat]
 refine ACalls.out (zI5 fun hs2 => ?_)
 have hO2 : ∀ J, Out (H.length + 1) (Out H.length K) (.bool (zbQ e.binds == ns)) (H ++ [.cells [.int .i64 e.op, .int .i64 e.num, .sl (ints e.vars) .none, .sl (rows e.binds) .none, .sl (ints e.kids) .none, x, y, z]] ++ J) := fun J => Out.bool rfl (by simp) hs2 (hO _)
 by_cases hlen : e.binds.length = ns.length
 ·simp [zlx, hlen]
  refine zI4 (Inv := fun q t17 H' => ∃ i : Nat, i ≤ e.binds.length ∧ q = e.binds.length - i ∧ t17 = .int .i64 i ∧ (zbQ (e.binds.drop i) == ns.drop i) = (zbQ e.binds == ns) ∧ H' = H ++ [.cells [.int .i64 e.op, .int .i64 e.num, .sl (ints e.vars) .none, .sl (rows e.binds) .none, .sl (ints e.kids) .none, x, y, z]]) e.binds.length ?_ ?_
  ·intro _; exact ⟨0, by omega, by omega, rfl, by simp, rfl⟩
  ·rintro q t17 H' ⟨i, hi, rfl, rfl, ho, rfl⟩ hsc hlen2 hsF Kb hKb
   by_cases hlt : i < e.binds.length
   ·have hlt' : i < ns.length := by omega
    rw [List.drop_eq_getElem_cons hlt, List.drop_eq_getElem_cons hlt', zbQ, List.map_cons, ← zbQ, List.cons_beq_cons] at ho
    simp [zly, hlt, hlt', ints]
    simp only [aCallV, zDY]
    refine zI7 fun hs3 => ?_
    simp [zqj]
    cases hb : ((e.binds[i].length : Int) == ns[i]) with
    | false =>
     rw [hb, Bool.false_and] at ho
     rw [← ho] at hO2
     simp
     simpa [ints] using hO2 []
    | true =>
     rw [hb, Bool.true_and] at ho
     simp
     rw [zar (by omega) (by omega)]
     refine hKb _ _ ⟨e.binds.length - (i + 1), by omega, Back.here (by simp) hsc ?_ ⟨_, rfl, i + 1, by omega, rfl, by simp, ho, rfl⟩⟩
     simp [zfR, AV.sc, AV.scV, AV.scA, AV.scB]
   ·have hlt' : ¬ i < ns.length := by omega
    obtain rfl : i = e.binds.length := by omega
    rw [List.drop_length, hlen, List.drop_length] at ho
    rw [← ho] at hO2
    simp [zly, hlt']
    simpa [zbQ] using hO2 []
 ·have hl' : ((e.binds.length : Int) != ns.length) = true := by simp; omega
  have hf : (zbQ e.binds == ns) = false := by
   rw [beq_eq_false_iff_ne]
   intro h
   exact hlen (by rw [← h]; simp [zbQ])
  rw [hf] at hO2
  simp [zlx, hl']
  simpa using hO2 []
structure ExIn (c : Cor) (e : CEx) : Prop where
 kcore : zaR c
 kex : KEx e
 vars : inV c e.vars
 kids : inE c e.kids
 bk : e.binds.length = e.kids.length
 binds : ∀ l ∈ e.binds, inV c l
 codes : ∀ f ∈ c.codes, inV c f.params ∧ inV c f.capt
 vtys : ∀ v ∈ c.vars, zax c.data 0 v = true
def sm (k : Int) : VT := .mk k 0 []
def usB (us : List Int) : AB := .cells (us.map fun n => .int .i64 n)
def zcw (e : CEx) (us : List Int) : List Int := if e.op = 11 then us.set e.num.toNat (us.getD e.num.toNat 0 + 1) else us
def numR (c : Cor) (e : CEx) : Bool :=
 if e.kids.length ≠ 0 ∨ e.num < 0 then false
 else if e.op = 6 then (if e.ty.kind ≠ 5 ∨ e.num ≥ 8 then false else match zbq c.data e.ty e.num with | some fs => VT.sameL (zan c e.vars) fs | none => false)
 else if e.op = 14 then (if e.num < 1 ∨ e.num > 8 then false else VT.sameL (zan c e.vars) [sm 1, sm 1] && (if e.num ≥ 6 then e.ty.same (sm 2) else e.ty.same (sm 1)))
 else match c.codes[e.num.toNat]? with
  | none => false
  | some f => if e.op = 12 then f.name != [] && VT.sameL (zan c e.vars) (zan c f.params) && e.ty.same f.res
   else f.name == [] && VT.sameL (zan c e.vars) (zan c f.capt) && e.ty.same (.mk 9 0 (zan c f.params ++ [f.res]))
theorem ziN {c : Cor} (hc : zaR c) : (∀ d ∈ c.data, ∀ k ∈ d.cons, k.args.length ≤ 1000 ∧ ∀ x ∈ k.args, x.nodes ≤ 1000) ∧ ∀ d ∈ c.data, d.cons.length ≤ 1000000 := by
 obtain ⟨⟨k1, k2⟩, _⟩ := hc
 refine ⟨fun d hd k hk => ?_, fun d hd => ?_⟩
 ·obtain ⟨_, _, h3⟩ := k2 d hd
  obtain ⟨_, h5, h6⟩ := h3 k hk
  exact ⟨by omega, fun x hx => by have := h6 x hx; omega⟩
 ·obtain ⟨_, h3, _⟩ := k2 d hd; omega
theorem zsu {c : Cor} (hc : zaR c) {t : VT} (ht : t.nodes ≤ 1000) (k : Int) (H : zaa) (K : AV → zaa → Prop) (hK : K (zco (zbq c.data t k)) H) : ACalls tP ziQ [.sl (c.data.map Dat.cs) .none, .agg t.cs, .int .i64 k] H K :=
 zHA c.data (by obtain ⟨⟨k1, _⟩, _⟩ := hc; omega) (ziN hc).1 (ziN hc).2 t ht k H K hK
theorem zcb {v u : VT} (hv : v.nodes ≤ 1000) (H : zaa) (K : AV → zaa → Prop) (hK : K (.bool (v.same u)) H) : ACalls tP zbG [.agg v.cs, .agg u.cs] H K := zmU _ v u (Nat.le_refl _) (by omega) H K hK
theorem zec {H : zaa} {u : Nat} {b : AB} (h : H[u]? = some b) : H.set u b = H := by
 apply List.ext_getElem?
 intro i
 by_cases hi : u = i
 ·subst hi; rw [List.getElem?_set_self (zbW h), h]
 ·rw [List.getElem?_set_ne hi]
theorem zfv {us : List Int} {i : Nat} (h : i < us.length) : (us.map fun n => AV.int .i64 n)[i]? = some (.int .i64 us[i]) := by simp [h]
theorem zpG {us : List Int} {n : Nat} (h : n < us.length) (v : Int) : (us.map fun n => AV.int .i64 n).take n ++ .int .i64 v :: (us.map fun n => AV.int .i64 n).drop (n + 1) = (us.set n v).map fun n => AV.int .i64 n := by
 rw [List.map_set, List.set_eq_take_append_cons_drop, if_pos (by simpa using h)]
theorem zj4 {v : VT} {x y z : AV} (h : v.cs = [x, y, z]) : x = .int .i64 v.kind ∧ y = .int .i64 v.num ∧ z = .sl (VT.css v.kids) .none := by
 obtain ⟨k, n, ks⟩ := v
 simp only [VT.cs, List.cons.injEq, and_true] at h
 exact ⟨h.1.symm, h.2.1.symm, h.2.2.symm⟩
theorem nb {a b : Int} (h : a ≠ b) : (a == b) = false := by simpa using h
theorem nbt {a b : Int} (h : a ≠ b) : (a != b) = true := by simpa using h
theorem ztv (H : zaa) (e s n : Nat) : GrowA H (H ++ zbm e s n) := by
 cases n with
 | zero => left; simp [zbm]
 | succ n => right; left; exact ⟨e, s, n + 1, rfl⟩
theorem zEA (H : zaa) (e s n : Nat) : GrowA (H ++ zbm e s n) (H ++ zbm e s (n + 1)) := by
 cases n with
 | zero => right; left; exact ⟨e, s, 1, by simp [zbm]⟩
 | succ n => right; right; left; exact ⟨H.length, e, s, n + 1, n + 2, by simp [zbm], by simp [zbm]⟩
theorem zsx {e s bytes id n : Nat} {es : List (List AV)} {y : List AV} {t : Tok} {H0 Hh : zaa} {k : AV → zaa → Prop} (he : Hh = H0 ++ zbm e s n) (hn : n = es.length) (hid : id = H0.length) (hy : y.length = s) (hb : (es.length + 1) * bytes ≤ 140737488355328) (hl : es.length + 1 ≤ 9223372036854775807)
  (hk : k (zbi (es ++ [y]) id) (H0 ++ zbm e s (n + 1))) : zbv .g false Hh (fun K => zaJ e s bytes (zbi es id) (.sl [y] t) Hh K) k := by
 subst he
 exact znT _ _ (zjN hn rfl hid hy hb hl ⟨rfl, rfl⟩) (zEA _ _ _ _) hk
theorem zEZ {c : Cor} {e : CEx} (hx : ExIn c e) {u kid : Nat} {us : List Int} {H : zaa} (hk : H[kid]? = some (ckB c u)) (hu : H[u]? = some (usB us)) (hne : u ≠ kid) (hlen : us.length = c.codes.length) (hus : ∀ x ∈ us, 0 ≤ x ∧ x ≤ 1000000)
  (hop : e.op = 6 ∨ e.op = 11 ∨ e.op = 12 ∨ e.op = 14) (K : AV → zaa → Prop) (hT : numR c e = true → K (.bool true) (H.set u (usB (zcw e us)))) (hF : numR c e = false → ∀ us', us'.length = us.length → K (.bool false) (H.set u (usB us'))) :
  ACalls tP zoZ [.ptr kid 0, .agg e.cs] H K := by
 refine ACalls.out (zOk fun hs => ?_)
 obtain ⟨hc, ⟨kv, kb, kk, kt, kbl⟩, hvr, hkr, hbk, hbr, hcr, hvt⟩ := hx
 have hc' := hc
 obtain ⟨k1, k2, k3, ⟨k4, k5⟩, k6, k7⟩ := hc'
 obtain ⟨x, y, z, hv, hx, hy, hz, hat⟩ := ex3 e
 have hul := zbW hu
 have hkl := zbW hk
 have scU : ∀ us : List Int, (usB us).sc H.length = true := fun us => by simp [usB, AB.sc, AV.scA, AV.scB]
 have oT : numR c e = true → ∀ J, Out H.length K (.bool true) (H.set u (usB (zcw e us)) ++ J) := fun h J => Out.bool rfl (by simp) (hs.set (scU _)) (hT h)
 have oF : numR c e = false → ∀ us' J, us'.length = us.length → Out H.length K (.bool false) (H.set u (usB us') ++ J) := fun h us' J hl => Out.bool rfl (by simp) (hs.set (scU _)) (hF h us' hl)
 have oF0 : numR c e = false → ∀ J, Out H.length K (.bool false) (H ++ J) := fun h J => by
  have := oF h us J rfl
  rwa [zec hu] at this
 have oB : e.op ≠ 11 → ∀ b, numR c e = b → ∀ J, Out H.length K (.bool b) (H ++ J) := fun hne b hb J => by
  cases b with
  | false => exact oF0 hb J
  | true =>
   have := oT hb J
   rwa [zcw, if_neg hne, zec hu] at this
 have hg : ∀ J, (H ++ J)[kid]? = some (ckB c u) := fun J => zaT hk
 have hgu : ∀ J, (H ++ J)[u]? = some (usB us) := fun J => zaT hu
 simp [zsb, hat]
 rw [← hat]
 refine zcH e _ _ _ _ ?_
 by_cases hkz : e.kids.length ≠ 0
 ·have hsh : zaE e (-1) 0 = false := by simp [zaE]; simpa using hkz
  simp [hsh]
  exact oF0 (by rw [numR, if_pos (.inl hkz)]) _
 have hsh : zaE e (-1) 0 = true := by simp [zaE]; simpa using hkz
 by_cases hn0 : e.num < 0
 ·simp [hsh, hat, hn0]
  exact oF0 (by rw [numR, if_pos (.inr hn0)]) _
 obtain ⟨n, hn⟩ : ∃ n : Nat, e.num = n := ⟨e.num.toNat, by omega⟩
 have hR := numR.eq_1 c e
 rw [if_neg (by rintro (h | h) <;> contradiction)] at hR
 obtain ⟨rfl, rfl, rfl⟩ := zj4 hv
 have hnn : ¬ (n : Int) < 0 := by omega
 by_cases h6 : e.op = 6
 ·rw [if_pos h6] at hR
  have hb := oB (by omega)
  by_cases hkd : e.ty.kind ≠ 5
  ·rw [if_pos (.inl hkd)] at hR
   simp [hsh, hat, hn, hnn, h6, nbt hkd]
   exact hb _ hR _
  have hkd' : e.ty.kind = 5 := by simpa using hkd
  by_cases hn8 : e.num ≥ 8
  ·rw [if_pos (.inr hn8)] at hR
   have h8' : (8 : Int) ≤ n := by omega
   simp [hsh, hat, hn, hnn, h6, hkd', h8']
   exact hb _ hR _
  rw [if_neg (by rintro (h | h) <;> contradiction)] at hR
  have h8' : ¬ (8 : Int) ≤ n := by omega
  simp [hsh, hat, hn, hnn, h6, hkd', h8', hg, ckB]
  rw [← hkd', ← hv]
  refine zaz (zco (zbq c.data e.ty n)) (fun J => zsu hc (by omega) _ _ _ ⟨rfl, rfl⟩) ?_
  rw [hn] at hR
  cases hf : zbq c.data e.ty n with
  | none =>
   rw [hf] at hR
   simp [zco]
   exact hb _ hR _
  | some fs =>
   rw [hf] at hR
   simp [zco]
   refine zhe hc (hg _) (by omega) hvr _ _ ?_
   exact hb _ hR _
 rw [if_neg h6] at hR
 by_cases h14 : e.op = 14
 ·rw [if_pos h14] at hR
  have hb := oB (by omega)
  by_cases hn1 : e.num < 1
  ·rw [if_pos (.inl hn1)] at hR
   have h1' : (n : Int) < 1 := by omega
   simp [hsh, hat, hn, hnn, h14, h1']
   exact hb _ hR _
  by_cases hn8 : e.num > 8
  ·rw [if_pos (.inr hn8)] at hR
   have h1' : ¬ (n : Int) < 1 := by omega
   have h8' : (8 : Int) < n := by omega
   simp [hsh, hat, hn, hnn, h14, h1', h8']
   exact hb _ hR _
  rw [if_neg (by rintro (h | h) <;> contradiction)] at hR
  have h1' : ¬ (n : Int) < 1 := by omega
  have h8' : ¬ (8 : Int) < n := by omega
  simp [hsh, hat, hn, hnn, h14, h1', h8']
  refine zaz (.agg (sm 1).cs) (fun J => zc4 _ _ _ ⟨rfl, rfl⟩) ?_
  refine zaz (.agg (sm 1).cs) (fun J => zc4 _ _ _ ⟨rfl, rfl⟩) ?_
  rw [zd4]
  refine zaz (.bool (VT.sameL (zan c e.vars) [sm 1, sm 1])) (fun J => zdI hc (zaT (hg _)) (by omega) hvr [sm 1, sm 1] rfl _ ⟨rfl, rfl⟩) ?_
  cases hsl : VT.sameL (zan c e.vars) [sm 1, sm 1] with
  | false =>
   rw [hsl, Bool.false_and] at hR
   simp
   exact hb _ hR _
  | true =>
   rw [hsl, Bool.true_and] at hR
   by_cases hn6 : e.num ≥ 6
   ·rw [if_pos hn6] at hR
    have h6' : (6 : Int) ≤ n := by omega
    simp [h6', hn]
    refine zaz (.agg (sm 2).cs) (fun J => zc4 _ _ _ ⟨rfl, rfl⟩) ?_
    rw [← hv]
    refine zaz (.bool (e.ty.same (sm 2))) (fun J => zcb (by omega) _ _ ⟨rfl, rfl⟩) ?_
    exact hb _ hR _
   ·rw [if_neg hn6] at hR
    have h6' : ¬ (6 : Int) ≤ n := by omega
    simp [h6', hn]
    refine zaz (.agg (sm 1).cs) (fun J => zc4 _ _ _ ⟨rfl, rfl⟩) ?_
    rw [← hv]
    refine zaz (.bool (e.ty.same (sm 1))) (fun J => zcb (by omega) _ _ ⟨rfl, rfl⟩) ?_
    exact hb _ hR _
 rw [if_neg h14, hn, Int.toNat_natCast] at hR
 by_cases hnc : c.codes.length ≤ n
 ·rw [List.getElem?_eq_none hnc] at hR
  have hnc' : (c.codes.length : Int) ≤ n := by omega
  simp [hsh, hat, hn, hnn, nb h6, nb h14, hg, ckB, hnc']
  exact oF0 hR _
 have hnl : n < c.codes.length := by omega
 have hnc' : ¬ (c.codes.length : Int) ≤ n := by omega
 rw [List.getElem?_eq_getElem hnl] at hR
 simp only [] at hR
 obtain ⟨p, q, r, hw, hp, hq, hrr, hcat⟩ := zet hnl
 obtain ⟨hcp, hcc⟩ := hcr _ (List.getElem_mem hnl)
 obtain ⟨_, kp, kc, kr⟩ := k6 _ (List.getElem_mem hnl)
 by_cases h12 : e.op = 12
 ·rw [if_pos h12] at hR
  have hb := oB (by omega)
  cases hnm : ((c.codes[n]).name == []) with
  | true =>
   have : ((c.codes[n]).name != []) = false := by simp [bne, hnm]
   rw [this, Bool.false_and, Bool.false_and] at hR
   simp [hsh, hat, hn, hnn, h12, hg, ckB, hnc', hnl, hcat, hp, hq, hrr, hnm]
   exact hb _ hR _
  | false =>
   have : ((c.codes[n]).name != []) = true := by simp [bne, hnm]
   rw [this, Bool.true_and] at hR
   simp [hsh, hat, hn, hnn, h12, hg, ckB, hnc', hnl, hcat, hp, hq, hrr, hnm]
   refine zaz (.sl (VT.css (zan c (c.codes[n]).params)) .none) (fun J => zkQ (zaT (hg _)) (by omega) hcp _ fun _ => ⟨rfl, rfl⟩) ?_
   refine zaz (.bool (VT.sameL (zan c e.vars) (zan c (c.codes[n]).params))) (fun J => zhe hc (zaT (hg _)) (by omega) hvr _ _ ⟨rfl, rfl⟩) ?_
   cases hsl : VT.sameL (zan c e.vars) (zan c (c.codes[n]).params) with
   | false =>
    rw [hsl, Bool.false_and] at hR
    simp
    exact hb _ hR _
   | true =>
    rw [hsl, Bool.true_and] at hR
    simp
    rw [← hv, ← hw]
    refine zaz (.bool (e.ty.same (c.codes[n]).res)) (fun J => zcb (by omega) _ _ ⟨rfl, rfl⟩) ?_
    exact hb _ hR _
 ·rw [if_neg h12] at hR
  have h11 : e.op = 11 := by omega
  have hus' : zcw e us = us.set n (us[n]'(by omega) + 1) := by
   rw [zcw, if_pos h11, hn, Int.toNat_natCast, List.getD_eq_getElem?_getD, List.getElem?_eq_getElem (by omega)]; rfl
  rw [hus'] at oT
  have hub := hus _ (List.getElem_mem (show n < us.length by omega))
  have hnu : n < us.length := by omega
  have hset : ∀ v : Int, (us.map fun n => AV.int .i64 n).set n (.int .i64 v) = (us.set n v).map fun n => AV.int .i64 n := fun v => by rw [List.map_set]
  have hstep : ∀ J b, (H ++ J).set u b = H.set u b ++ J := fun J b => zdE b hu
  generalize hV : us.set n (us[n]'(by omega) + 1) = vs at *
  have hvl : vs.length = us.length := by rw [← hV]; simp
  have hg2 : ∀ J, (H.set u (usB vs) ++ J)[kid]? = some (ckB c u) := fun J => zaT (by rw [List.getElem?_set_ne hne]; exact hk)
  have hsl2 : ∀ J k, (H.set u (usB vs) ++ J)[H.length + k]? = J[k]? := fun J k => by
   have := zj0 (H.set u (usB vs)) J k
   rwa [List.length_set] at this
  have hb : ∀ b, numR c e = b → ∀ J, Out H.length K (.bool b) (H.set u (usB vs) ++ J) := fun b hb J => by
   cases b with
   | false => exact oF hb vs J hvl
   | true => exact oT hb J
  have hld : ∀ J, (H ++ J)[u]? = some (.cells (us.map fun n => .int .i64 n)) := fun J => hgu J
  have hu1 : ∀ k : AV → Prop, zaP false 1 n (us.map fun n => AV.int .i64 n) k = k (.int .i64 us[n]) := fun k => zfa 1 (zfv hnu)
  simp [hsh, hat, hn, hnn, nb h6, nb h14, nb h12, hg, ckB, hnc', hnl, hcat, hp, hq, hrr, hld, hu1, hstep]
  rw [zar (by omega) (by omega), zpG hnu, hV, ← usB]
  refine ⟨by omega, ?_⟩
  cases hnm : (c.codes[n]).name.isEmpty with
  | false =>
   have h1 : ((c.codes[n]).name == []) = false := by cases hh : (c.codes[n]).name <;> simp [hh] at hnm ⊢
   rw [h1, Bool.false_and, Bool.false_and] at hR
   simp
   exact hb _ hR _
  | true =>
   have h1 : ((c.codes[n]).name == []) = true := by cases hh : (c.codes[n]).name <;> simp [hh] at hnm ⊢
   rw [h1, Bool.true_and] at hR
   simp [hsl2]
   refine zfc (.sl (VT.css (zan c (c.codes[n]).capt)) .none) (zkQ (hg2 _) (by omega) hcc _ fun _ => ⟨rfl, rfl⟩) ?_
   refine zfc (.bool (VT.sameL (zan c e.vars) (zan c (c.codes[n]).capt))) (zhe hc (hg2 _) (by omega) hvr _ _ ⟨rfl, rfl⟩) ?_
   cases hsl : VT.sameL (zan c e.vars) (zan c (c.codes[n]).capt) with
   | false =>
    rw [hsl, Bool.false_and] at hR
    simp
    exact hb _ hR _
   | true =>
    rw [hsl, Bool.true_and] at hR
    simp [hsl2]
    refine znT _ _ (zpD (hg2 _) (by omega) hcp _ fun _ => ⟨rfl, rfl⟩) (ztv _ _ _ _) ?_
    simp [hsl2]
    rw [← hw, zbJ]
    refine zsx (List.append_assoc _ [_, _] _).symm (by simp [zan]) (by simp) (by simp) (by simp [zan]; omega) (by simp [zan]; omega) ?_
    refine zfc (.agg (VT.mk 9 0 (zan c (c.codes[n]).params ++ [(c.codes[n]).res])).cs) (ztn 9 (zan c (c.codes[n]).params ++ [(c.codes[n]).res]) (by simp [VT.css_map]) _ _ ⟨rfl, rfl⟩) ?_
    rw [← hv]
    refine zfc (.bool (e.ty.same (.mk 9 0 (zan c (c.codes[n]).params ++ [(c.codes[n]).res])))) (zcb (by omega) _ _ ⟨rfl, rfl⟩) ?_
    simp
    exact hb _ hR _
def zhb (c : Cor) (t : VT) : Nat := match c.data[t.num.toNat]? with | some d => d.cons.length | none => 0
def zfe (c : Cor) (t : VT) (e : CEx) (k : Nat) : Bool := match zbq c.data t k with | some fs => VT.sameL (zan c (e.binds.getD k [])) fs | none => false
def zff (c : Cor) (t : VT) (e : CEx) : Bool := (List.range e.kids.length).all (zfe c t e)
def parR (c : Cor) (e : CEx) : Bool :=
 if e.op = 7 then zaE e 0 2 && (zbQ e.binds == [0, 1] && (VT.sameL (zan c (e.binds.getD 1 [])) [ety c (e.kids.getD 0 0)] && zbV c e.ty (e.kids.drop 1)))
 else if e.op = 24 then zaE e 0 2 && (zbQ e.binds == [0, 1] && (VT.sameL (zan c (e.binds.getD 1 [])) [sm 1] && zbV c e.ty e.kids))
 else if e.op = 8 then zaE e 1 1 && ((vty c (e.vars.getD 0 0)).kind == 6 && (VT.sameL (zan c (e.binds.getD 0 [])) (vty c (e.vars.getD 0 0)).kids && zbV c e.ty e.kids))
 else if e.op = 9 then zaE e 1 2 && (zbQ e.binds == [0, 0] && (VT.sameL (zan c e.vars) [sm 2] && zbV c e.ty e.kids))
 else e.vars.length == 1 && ((vty c (e.vars.getD 0 0)).kind == 5 && (e.kids.length == zhb c (vty c (e.vars.getD 0 0)) && (zff c (vty c (e.vars.getD 0 0)) e && zbV c e.ty e.kids)))
theorem zu2 {c : Cor} {t : VT} (h : zax c.data 0 t = true) (hk : t.kind = 5) : ∃ n : Nat, t.num = n ∧ n < c.data.length := by
 obtain ⟨k, n, ks⟩ := t
 simp only [VT.kind] at hk
 subst hk
 simp only [zax, zbs, Bool.and_eq_true] at h
 have h2 := h.2.1
 simp [za6] at h2
 obtain ⟨h3, h4⟩ := h2
 refine ⟨n.toNat, by simp only [VT.num]; omega, ?_⟩
 by_cases hh : n.toNat < c.data.length
 ·exact hh
 ·rw [List.getElem?_eq_none (by omega)] at h4; simp at h4
theorem zu4 {c : Cor} {t : VT} (h : zax c.data 0 t = true) (hk : t.kind = 7 ∨ t.kind = 8) : ∃ a, t.kids = [a] ∧ t.num = 0 := by
 obtain ⟨k, n, ks⟩ := t
 simp only [VT.kind] at hk
 simp only [zax, zbs, Bool.and_eq_true] at h
 have h2 := h.2.1
 have : n = 0 ∧ ks.length = 1 := by rcases hk with rfl | rfl <;> simpa [za6] using h2
 obtain ⟨rfl, h4⟩ := this
 match ks, h4 with
 | [a], _ => exact ⟨a, rfl, rfl⟩
theorem zkA {c : Cor} {l : List Int} (hr : inV c l) (hl : 0 < l.length) : ∃ v : Nat, l.getD 0 0 = v ∧ l[0] = v ∧ ∃ h : v < c.vars.length, vty c (l.getD 0 0) = c.vars[v] := by
 have h := hr _ (List.getElem_mem hl)
 have e0 : l.getD 0 0 = l[0] := by rw [List.getD_eq_getElem?_getD, List.getElem?_eq_getElem hl]; rfl
 refine ⟨(l[0]).toNat, by rw [e0]; omega, by omega, by omega, ?_⟩
 rw [e0]
 have : ((l[0]).toNat : Int) = l[0] := by omega
 have h2 := zfx (c := c) (v := (l[0]).toNat) (by omega)
 rwa [this] at h2
theorem zFf {c : Cor} {e : CEx} (hx : ExIn c e) {u kid : Nat} {H : zaa} (hk : H[kid]? = some (ckB c u)) (K : AV → zaa → Prop) (hK : K (.bool (parR c e)) H) :
  ACalls tP zo0 [.ptr kid 0, .agg e.cs] H K := by
 refine ACalls.out (zOU fun hs => ?_)
 obtain ⟨hc, ⟨kv, kb, kk, kt, kbl⟩, hvr, hkr, hbk, hbr, hcr, hvt⟩ := hx
 have hc' := hc
 obtain ⟨k1, k2, k3, ⟨k4, k5⟩, k6, k7⟩ := hc'
 obtain ⟨x, y, z, hv, hx, hy, hz, hat⟩ := ex3 e
 have hkl := zbW hk
 have hO : ∀ J, Out H.length K (.bool (parR c e)) (H ++ J) := fun J => Out.bool rfl (Nat.le_refl _) hs hK
 have hg : ∀ J, (H ++ J)[kid]? = some (ckB c u) := fun J => zaT hk
 have hb : ∀ b, parR c e = b → ∀ J, Out H.length K (.bool b) (H ++ J) := fun b h J => h ▸ hO J
 have hR := parR.eq_1 c e
 have bl : ∀ i (h : i < e.binds.length), (e.binds[i]).length ≤ 1000 ∧ inV c e.binds[i] ∧ e.binds.getD i [] = e.binds[i] := fun i h => ⟨by have := kbl _ (List.getElem_mem h); omega, hbr _ (List.getElem_mem h), by rw [List.getD_eq_getElem?_getD, List.getElem?_eq_getElem h]; rfl⟩
 have hag0 : ∀ J, ACalls tP zdK [.ptr kid 0, .agg e.cs, .int .i64 0] (H ++ J) fun v H' => v = .bool (zbV c e.ty e.kids) ∧ H' = H ++ J := fun J =>
  zov hc (hg J) e (by omega) hkr 0 _ ⟨rfl, rfl⟩
 have hag1 : ∀ J, ACalls tP zdK [.ptr kid 0, .agg e.cs, .int .i64 1] (H ++ J) fun v H' => v = .bool (zbV c e.ty (e.kids.drop 1)) ∧ H' = H ++ J := fun J =>
  zov hc (hg J) e (by omega) hkr 1 _ ⟨rfl, rfl⟩
 have fin : ∀ (b : Bool) (X : AB), parR c e = zbV c e.ty e.kids → zay (H ++ [X]) (fun H' K' => ACalls tP zdK [.ptr kid 0, .agg e.cs, .int .i64 0] H' K') fun t => zah (.bool true) t (.bool false) fun t => Out H.length K t (H ++ [X]) := fun b X h => by
  refine zaz (.bool (zbV c e.ty e.kids)) (fun J => by simpa using hag0 (X :: J)) ?_
  simp
  exact hb _ h _
 by_cases h7 : e.op = 7
 ·rw [if_pos h7] at hR
  simp [zjD, hat, h7]
  have hat7 := hat
  rw [h7] at hat7
  rw [← hat7]
  refine zaz (.bool (zaE e 0 2)) (fun J => zcH e _ _ _ _ ⟨rfl, rfl⟩) ?_
  cases hsh : zaE e 0 2 with
  | false =>
   rw [hsh, Bool.false_and] at hR
   simp
   exact hb _ hR _
  | true =>
  rw [hsh, Bool.true_and] at hR
  have hkl2 : e.kids.length = 2 := by simp [zaE] at hsh; omega
  simp [hat7]
  rw [zn1, ← hat7]
  refine zaz (.bool (zbQ e.binds == [0, 1])) (fun J => znZ e (by omega) _ _ _ ⟨rfl, rfl⟩) ?_
  cases hln : (zbQ e.binds == [0, 1]) with
  | false =>
   rw [hln, Bool.false_and] at hR
   simp
   exact hb _ hR _
  | true =>
  rw [hln, Bool.true_and] at hR
  have hbl : 1 < e.binds.length := by omega
  obtain ⟨b1, b2, b3⟩ := bl 1 hbl
  simp [hat7, hbl]
  refine ⟨by omega, ?_⟩
  rw [← hat7]
  refine zaz (.agg (ety c e.kids[0]).cs) (fun J => ztC (zaT (hg _)) e hkr 0 (by omega) _ ⟨rfl, rfl⟩) ?_
  rw [zbJ]
  have hk0 : e.kids.getD 0 0 = e.kids[0] := by rw [List.getD_eq_getElem?_getD, List.getElem?_eq_getElem (by omega)]; rfl
  rw [b3, hk0] at hR
  refine zaz (.bool (VT.sameL (zan c e.binds[1]) [ety c e.kids[0]])) (fun J => zdI hc (zaT (hg _)) b1 b2 [ety c e.kids[0]] rfl _ ⟨rfl, rfl⟩) ?_
  cases hsl : VT.sameL (zan c e.binds[1]) [ety c e.kids[0]] with
  | false =>
   rw [hsl, Bool.false_and] at hR
   simp
   exact hb _ hR _
  | true =>
  rw [hsl, Bool.true_and] at hR
  simp [hat7]
  rw [← hat7]
  refine zaz (.bool (zbV c e.ty (e.kids.drop 1))) (fun J => by rw [List.append_assoc]; exact hag1 _) ?_
  exact hb _ hR _
 rw [if_neg h7] at hR
 by_cases h24 : e.op = 24
 ·rw [if_pos h24] at hR
  have hat7 := hat
  rw [h24] at hat7
  simp [zjD, hat, h24]
  rw [← hat7]
  refine zaz (.bool (zaE e 0 2)) (fun J => zcH e _ _ _ _ ⟨rfl, rfl⟩) ?_
  cases hsh : zaE e 0 2 with
  | false =>
   rw [hsh, Bool.false_and] at hR
   simp
   exact hb _ hR _
  | true =>
  rw [hsh, Bool.true_and] at hR
  have hkl2 : e.kids.length = 2 := by simp [zaE] at hsh; omega
  simp [hat7]
  rw [zn1, ← hat7]
  refine zaz (.bool (zbQ e.binds == [0, 1])) (fun J => znZ e (by omega) _ _ _ ⟨rfl, rfl⟩) ?_
  cases hln : (zbQ e.binds == [0, 1]) with
  | false =>
   rw [hln, Bool.false_and] at hR
   simp
   exact hb _ hR _
  | true =>
  rw [hln, Bool.true_and] at hR
  have hbl : 1 < e.binds.length := by omega
  obtain ⟨b1, b2, b3⟩ := bl 1 hbl
  simp [hat7, hbl]
  refine ⟨by omega, ?_⟩
  refine zaz (.agg (sm 1).cs) (fun J => zc4 _ _ _ ⟨rfl, rfl⟩) ?_
  rw [zbJ]
  rw [b3] at hR
  refine zaz (.bool (VT.sameL (zan c e.binds[1]) [sm 1])) (fun J => zdI hc (zaT (hg _)) b1 b2 [sm 1] rfl _ ⟨rfl, rfl⟩) ?_
  cases hsl : VT.sameL (zan c e.binds[1]) [sm 1] with
  | false =>
   rw [hsl, Bool.false_and] at hR
   simp
   exact hb _ hR _
  | true =>
  rw [hsl, Bool.true_and] at hR
  simp [hat7]
  rw [← hat7]
  refine zaz (.bool (zbV c e.ty e.kids)) (fun J => by rw [List.append_assoc]; exact hag0 _) ?_
  exact hb _ hR _
 rw [if_neg h24] at hR
 simp [zjD, hat, nb h7, nb h24]
 refine zOQ fun hs1 => ?_
 unfold zsj
 by_cases h8 : e.op = 8
 ·rw [if_pos h8] at hR
  have hat7 := hat
  rw [h8] at hat7
  simp [h8]
  rw [← hat7]
  refine zcH e _ _ _ _ ?_
  cases hsh : zaE e 1 1 with
  | false =>
   rw [hsh, Bool.false_and] at hR
   simp
   exact hb _ hR _
  | true =>
  rw [hsh, Bool.true_and] at hR
  have hkl1 : e.kids.length = 1 ∧ e.vars.length = 1 := by simp [zaE] at hsh; omega
  obtain ⟨v, hv0, hv1, hvl, hvt0⟩ := zkA hvr (by omega)
  rw [hvt0] at hR
  obtain ⟨x', y', z', hw, hx', hy', hz'⟩ := vt3 c.vars[v]
  have hvl1 : 0 < e.vars.length := by omega
  have hbl : 0 < e.binds.length := by omega
  obtain ⟨b1, b2, b3⟩ := bl 0 hbl
  rw [b3] at hR
  obtain ⟨rfl, rfl, rfl⟩ := zj4 hw
  cases hk6 : ((c.vars[v]).kind == 6) with
  | false =>
   rw [hk6, Bool.false_and] at hR
   simp [hat7, hg, ckB, hvl1, hv1, hvl, hw, hbl, hk6]
   exact hb _ hR _
  | true =>
  rw [hk6, Bool.true_and] at hR
  simp [hat7, hg, ckB, hvl1, hv1, hvl, hw, hbl, hk6]
  refine zaz (.bool (VT.sameL (zan c e.binds[0]) (c.vars[v]).kids)) (fun J => zhe hc (zaT (hg _)) b1 b2 _ _ ⟨rfl, rfl⟩) ?_
  cases hsl : VT.sameL (zan c e.binds[0]) (c.vars[v]).kids with
  | false =>
   rw [hsl, Bool.false_and] at hR
   simp
   exact hb _ hR _
  | true =>
  rw [hsl, Bool.true_and] at hR
  simp
  rw [← hat7]
  refine zaz (.bool (zbV c e.ty e.kids)) (fun J => by rw [List.append_assoc]; exact hag0 _) ?_
  exact hb _ hR _
 rw [if_neg h8] at hR
 by_cases h9 : e.op = 9
 ·rw [if_pos h9] at hR
  have hat7 := hat
  rw [h9] at hat7
  simp [h9]
  rw [← hat7]
  refine zaz (.bool (zaE e 1 2)) (fun J => zcH e _ _ _ _ ⟨rfl, rfl⟩) ?_
  cases hsh : zaE e 1 2 with
  | false =>
   rw [hsh, Bool.false_and] at hR
   simp
   exact hb _ hR _
  | true =>
  rw [hsh, Bool.true_and] at hR
  simp [hat7]
  rw [zn1, ← hat7]
  refine zaz (.bool (zbQ e.binds == [0, 0])) (fun J => znZ e (by omega) _ _ _ ⟨rfl, rfl⟩) ?_
  cases hln : (zbQ e.binds == [0, 0]) with
  | false =>
   rw [hln, Bool.false_and] at hR
   simp
   exact hb _ hR _
  | true =>
  rw [hln, Bool.true_and] at hR
  simp [hat7]
  refine zaz (.agg (sm 2).cs) (fun J => zc4 _ _ _ ⟨rfl, rfl⟩) ?_
  rw [zbJ]
  refine zaz (.bool (VT.sameL (zan c e.vars) [sm 2])) (fun J => zdI hc (zaT (hg _)) (by omega) hvr [sm 2] rfl _ ⟨rfl, rfl⟩) ?_
  cases hsl : VT.sameL (zan c e.vars) [sm 2] with
  | false =>
   rw [hsl, Bool.false_and] at hR
   simp
   exact hb _ hR _
  | true =>
  rw [hsl, Bool.true_and] at hR
  simp [hat7]
  rw [← hat7]
  refine zaz (.bool (zbV c e.ty e.kids)) (fun J => by rw [List.append_assoc]; exact hag0 _) ?_
  exact hb _ hR _
 rw [if_neg h9] at hR
 simp [nb h8, nb h9]
 refine zOS fun hs2 => ?_
 unfold zsk
 by_cases hvn : e.vars.length ≠ 1
 ·have h1 : (e.vars.length == 1) = false := by simpa using hvn
  have h2 : ((e.vars.length : Int) != 1) = true := nbt (by omega)
  rw [h1, Bool.false_and] at hR
  simp [h2]
  exact hb _ hR _
 have hv1' : e.vars.length = 1 := by omega
 have h2 : ((e.vars.length : Int) != 1) = false := by simp [hv1']
 have h1 : (e.vars.length == 1) = true := by simp [hv1']
 rw [h1, Bool.true_and] at hR
 obtain ⟨v, hv0, hv1, hvl, hvt0⟩ := zkA hvr (by omega)
 rw [hvt0] at hR
 obtain ⟨x', y', z', hw, hx', hy', hz'⟩ := vt3 c.vars[v]
 obtain ⟨rfl, rfl, rfl⟩ := zj4 hw
 have hvl1 : 0 < e.vars.length := by omega
 by_cases hk5 : (c.vars[v]).kind ≠ 5
 ·rw [nb hk5, Bool.false_and] at hR
  simp [h2, hg, ckB, hvl1, hv1, hvl, hw, nbt hk5]
  exact hb _ hR _
 have hk5' : (c.vars[v]).kind = 5 := by simpa using hk5
 rw [hk5'] at hR
 obtain ⟨d, hd, hdl⟩ := zu2 (hvt _ (List.getElem_mem hvl)) hk5'
 have hcl : zhb c c.vars[v] = (c.data[d]).cons.length := by simp [zhb, hd, hdl]
 rw [hcl] at hR
 simp [h2, hg, ckB, hvl1, hv1, hvl, hw, hk5', hd, hdl, Dat.cs]
 have hw5 : (c.vars[v]).cs = [.int .i64 5, .int .i64 d, .sl (VT.css (c.vars[v]).kids) .none] := by rw [hw, hk5', hd]
 by_cases hkn : e.kids.length ≠ (c.data[d]).cons.length
 ·have h3 : (e.kids.length == (c.data[d]).cons.length) = false := by simpa using hkn
  have h4 : ((e.kids.length : Int) != (c.data[d]).cons.length) = true := nbt (by omega)
  rw [h3] at hR
  simp [h4]
  exact hb _ hR _
 have hkn' : e.kids.length = (c.data[d]).cons.length := by omega
 have h4 : ((e.kids.length : Int) != (c.data[d]).cons.length) = false := by simp [hkn']
 rw [hkn'] at hR
 simp only [beq_self_eq_true, Bool.true_and] at hR
 simp [h4]
 refine zOT (Inv := fun q t156 H' => ∃ i : Nat, i ≤ e.kids.length ∧ q = e.kids.length - i ∧ t156 = .int .i64 i ∧ (∀ k, k < i → zfe c c.vars[v] e k = true) ∧ H' = H ++ [.cells [.int .i64 e.op, .int .i64 e.num, .sl (ints e.vars) .none, .sl (rows e.binds) .none, .sl (ints e.kids) .none, x, y, z], .cells [.int .i64 5, .int .i64 d, .sl (VT.css (c.vars[v]).kids) .none]]) e.kids.length ?_ ?_
 ·intro _; exact ⟨0, by omega, by omega, rfl, by omega, rfl⟩
 ·rintro q t156 H' ⟨i, hi, rfl, rfl, hok, rfl⟩ hsc hlen hsF Kb hKb
  by_cases hlt : i < e.kids.length
  ·have hbl : i < e.binds.length := by omega
   obtain ⟨b1, b2, b3⟩ := bl i hbl
   have hbad : zfe c c.vars[v] e i = false → parR c e = false := fun h => by
    rw [hR]
    have : zff c c.vars[v] e = false := by
     rw [zff, List.all_eq_false]
     exact ⟨i, by simp; omega, by simp [h]⟩
    rw [this, Bool.false_and]
   have hco : zfe c c.vars[v] e i = (match zbq c.data c.vars[v] i with | some fs => VT.sameL (zan c e.binds[i]) fs | none => false) := by rw [zfe, b3]
   simp [znA, hlt, hg, ckB]
   rw [← hw5]
   refine zaz (zco (zbq c.data c.vars[v] i)) (fun J => zsu hc (by have := k5 _ (List.getElem_mem hvl); omega) _ _ _ ⟨rfl, rfl⟩) ?_
   cases hf : zbq c.data c.vars[v] i with
   | none =>
    rw [hf] at hco
    simp [zco]
    exact hb _ (hbad hco) _
   | some fs =>
    rw [hf] at hco
    simp [zco, hbl]
    refine zhe hc (hg _) b1 b2 _ _ ?_
    cases hsl : VT.sameL (zan c e.binds[i]) fs with
    | false =>
     simp only [] at hco
     rw [hsl] at hco
     simp
     exact hb _ (hbad hco) _
    | true =>
     simp only [] at hco
     rw [hsl] at hco
     simp
     rw [zar (by omega) (by omega)]
     refine hKb _ _ ⟨e.kids.length - (i + 1), by omega, Back.here (by simp) (by rw [hw5]; exact hsc) ?_ ⟨_, rfl, i + 1, by omega, rfl, by simp, fun k hk => ?_, by rw [hw5]⟩⟩
     ·simp [zg3, AV.sc, AV.scV, AV.scA, AV.scB]; omega
     ·by_cases hki : k = i
      ·subst hki; exact hco
      ·exact hok k (by omega)
  ·obtain rfl : i = e.kids.length := by omega
   have hall : zff c c.vars[v] e = true := by
    rw [zff, List.all_eq_true]
    intro k hk
    exact hok k (by simpa using hk)
   rw [hall, Bool.true_and] at hR
   simp [znA]
   rw [← hat]
   refine (zov hc (hg _) e (by omega) hkr 0 _ ?_)
   exact hb _ hR _
def stF (c : Cor) (e : CEx) (el : VT) : Bool :=
 if e.op = 15 then VT.sameL (zan c e.vars) [sm 1, el] && e.ty.same (.mk 7 0 [el])
 else if e.op = 16 then VT.sameL (zan c e.vars) [.mk 7 0 [el], sm 1] && e.ty.same el
 else if e.op = 17 then VT.sameL (zan c e.vars) [.mk 7 0 [el], sm 1, el] && e.ty.same (sm 3)
 else if e.op = 18 then e.ty.same (sm 1)
 else if e.op = 19 then e.ty.same (.mk 8 0 [el])
 else if e.op = 20 then e.ty.same el
 else VT.sameL (zan c e.vars) [.mk 8 0 [el], el] && e.ty.same (sm 3)
theorem zGJ {c : Cor} {e : CEx} (hx : ExIn c e) {u kid : Nat} {H : zaa} (hk : H[kid]? = some (ckB c u)) (hs : HSc H) (el : VT) (X : AB) (K : AV → zaa → Prop) (hb : ∀ b, stF c e el = b → ∀ J, Out H.length K (.bool b) (H ++ J)) :
  znC (.ptr kid 0) (.ptr H.length 0) (.ptr (H.length + 1) 0) (.ptr (H.length + 2) 0) (.ptr (H.length + 3) 0) (H ++ [.cells e.cs, .cells (sm 1).cs, .cells (sm 3).cs, .cells el.cs, X]) (Out H.length K) := by
 obtain ⟨hc, ⟨kv, kb, kk, kt, kbl⟩, hvr, hkr, hbk, hbr, hcr, hvt⟩ := hx
 obtain ⟨x, y, z, hv, hx, hy, hz, hat⟩ := ex3 e
 obtain ⟨x1, y1, z1, hv1, hx1, hy1, hz1⟩ := vt3 el
 have hg : ∀ J, (H ++ J)[kid]? = some (ckB c u) := fun J => zaT hk
 have hR := stF.eq_1 c e el
 have h1 : (sm 1).cs = [.int .i64 1, .int .i64 0, .sl [] .none] := rfl
 have h3 : (sm 3).cs = [.int .i64 3, .int .i64 0, .sl [] .none] := rfl
 have ha : (VT.mk 7 0 [el]).cs = [.int .i64 7, .int .i64 0, .sl [el.cs] .none] := rfl
 have hr : (VT.mk 8 0 [el]).cs = [.int .i64 8, .int .i64 0, .sl [el.cs] .none] := rfl
 simp [znC, hv1]
 rw [← hv1, zbJ]
 refine zaz (.agg (VT.mk 7 0 [el]).cs) (fun J => zto 7 [el] rfl _ _ ⟨rfl, rfl⟩) ?_
 rw [zbJ]
 refine zaz (.agg (VT.mk 8 0 [el]).cs) (fun J => zto 8 [el] rfl _ _ ⟨rfl, rfl⟩) ?_
 by_cases h15 : e.op = 15
 ·rw [if_pos h15] at hR
  simp [hat, ha, hr, h1, h3, h15, hv1]
  rw [← h1, ← hv1, zd4]
  refine zdI hc (hg _) (by omega) hvr [sm 1, el] rfl _ ?_
  cases hsl : VT.sameL (zan c e.vars) [sm 1, el] with
  | false =>
   rw [hsl, Bool.false_and] at hR
   simp
   exact hb _ hR _
  | true =>
   rw [hsl, Bool.true_and] at hR
   simp [h1]
   rw [← hv, ← ha]
   refine zcb (by omega) _ _ ?_
   exact hb _ hR _
 rw [if_neg h15] at hR
 by_cases h16 : e.op = 16
 ·rw [if_pos h16] at hR
  simp [nb h15, hat, ha, hr, h1, h3, h16, hv1]
  rw [← h1, ← hv1, ← ha, zd4]
  refine zdI hc (hg _) (by omega) hvr [.mk 7 0 [el], sm 1] rfl _ ?_
  cases hsl : VT.sameL (zan c e.vars) [.mk 7 0 [el], sm 1] with
  | false =>
   rw [hsl, Bool.false_and] at hR
   simp
   exact hb _ hR _
  | true =>
   rw [hsl, Bool.true_and] at hR
   simp [h1, hv1]
   rw [← hv, ← hv1]
   refine zcb (by omega) _ _ ?_
   exact hb _ hR _
 rw [if_neg h16] at hR
 by_cases h17 : e.op = 17
 ·rw [if_pos h17] at hR
  simp [nb h15, nb h16, hat, ha, hr, h1, h3, h17, hv1]
  rw [← h1, ← hv1, ← ha, zDS]
  refine zdI hc (hg _) (by omega) hvr [.mk 7 0 [el], sm 1, el] rfl _ ?_
  cases hsl : VT.sameL (zan c e.vars) [.mk 7 0 [el], sm 1, el] with
  | false =>
   rw [hsl, Bool.false_and] at hR
   simp
   exact hb _ hR _
  | true =>
   rw [hsl, Bool.true_and] at hR
   simp [h1, h3]
   rw [← hv, ← h3]
   refine zcb (by omega) _ _ ?_
   exact hb _ hR _
 rw [if_neg h17] at hR
 simp [hat, ha, hr, h1, h3, nb h15, nb h16, nb h17, hv1]
 refine zOZ fun hs4 => ?_
 unfold zsn
 by_cases h18 : e.op = 18
 ·rw [if_pos h18] at hR
  simp [h18]
  rw [← hv, ← h1]
  refine zcb (by omega) _ _ ?_
  exact hb _ hR _
 rw [if_neg h18] at hR
 by_cases h19 : e.op = 19
 ·rw [if_pos h19] at hR
  simp [h19]
  rw [← hv, ← hv1, ← hr]
  refine zcb (by omega) _ _ ?_
  exact hb _ hR _
 rw [if_neg h19] at hR
 by_cases h20 : e.op = 20
 ·rw [if_pos h20] at hR
  simp [h20]
  rw [← hv, ← hv1]
  refine zcb (by omega) _ _ ?_
  exact hb _ hR _
 rw [if_neg h20] at hR
 simp [nb h18, nb h19, nb h20]
 rw [← hv1, ← hr, zd4]
 refine zdI hc (hg _) (by omega) hvr [.mk 8 0 [el], el] rfl _ ?_
 cases hsl : VT.sameL (zan c e.vars) [.mk 8 0 [el], el] with
 | false =>
  rw [hsl, Bool.false_and] at hR
  simp
  exact hb _ hR _
 | true =>
  rw [hsl, Bool.true_and] at hR
  simp
  rw [← hv, ← h3]
  refine zcb (by omega) _ _ ?_
  exact hb _ hR _
def cntL : List Int := [0, 0, 0, 0, 0, 0, 0, 0, 0, 0, 0, 0, 0, 0, 0, 2, 2, 3, 1, 1, 1, 2]
theorem zDP {k : AV → Prop} : zaA 1 [.int .i64 0] 22 [(15, .int .i64 2), (16, .int .i64 2), (17, .int .i64 3), (18, .int .i64 1), (19, .int .i64 1), (20, .int .i64 1), (21, .int .i64 2)] k = k (.sl (ints cntL) .full) := propext Iff.rfl
def zbY (t : VT) : VT := t.kids.getD 0 (.mk 0 0 [])
def stR (c : Cor) (e : CEx) : Bool :=
 if 15 ≤ e.op ∧ e.op ≤ 21 then zaE e (cntL.getD e.op.toNat 0) 0 && (
  if e.op = 15 then stF c e (vty c (e.vars.getD 1 0))
  else if e.op = 19 then stF c e (vty c (e.vars.getD 0 0))
  else if e.op = 16 ∨ e.op = 17 ∨ e.op = 18 then (vty c (e.vars.getD 0 0)).kind == 7 && stF c e (zbY (vty c (e.vars.getD 0 0)))
  else (vty c (e.vars.getD 0 0)).kind == 8 && stF c e (zbY (vty c (e.vars.getD 0 0))))
 else false
theorem zEi : ∀ n : Nat, n < 15 → ∀ h : n < cntL.length, cntL[n] = 0 := by decide
theorem zEh : ∀ n : Nat, n < 22 → 15 ≤ n → ∀ h : n < cntL.length, 1 ≤ cntL[n] ∧ (n = 15 → cntL[n] = 2) := by decide
theorem zGK {c : Cor} {e : CEx} (hx : ExIn c e) {u kid : Nat} {H : zaa} (hk : H[kid]? = some (ckB c u)) (K : AV → zaa → Prop) (hK : K (.bool (stR c e)) H) :
  ACalls tP zo1 [.ptr kid 0, .agg e.cs] H K := by
 refine ACalls.out (zO2 fun hs => ?_)
 have hx0 := hx
 obtain ⟨hc, ⟨kv, kb, kk, kt, kbl⟩, hvr, hkr, hbk, hbr, hcr, hvt⟩ := hx
 obtain ⟨x, y, z, hv, hx, hy, hz, hat⟩ := ex3 e
 have hO : ∀ J, Out H.length K (.bool (stR c e)) (H ++ J) := fun J => Out.bool rfl (Nat.le_refl _) hs hK
 have hg : ∀ J, (H ++ J)[kid]? = some (ckB c u) := fun J => zaT hk
 have hb : ∀ b, stR c e = b → ∀ J, Out H.length K (.bool b) (H ++ J) := fun b h J => h ▸ hO J
 have hR := stR.eq_1 c e
 have hcl : cntL.length = 22 := rfl
 simp [zsl, hat, zDP, hcl]
 by_cases h0 : e.op < 0
 ·rw [if_neg (by omega)] at hR
  simp [h0]
  exact hb _ hR _
 by_cases h22 : (22 : Int) ≤ e.op
 ·rw [if_neg (by omega)] at hR
  simp [h0, h22, hcl]
  exact hb _ hR _
 obtain ⟨n, hn⟩ : ∃ n : Nat, e.op = n := ⟨e.op.toNat, by omega⟩
 have hn22 : n < 22 := by omega
 have hn0 : ¬ (n : Int) < 0 := by omega
 have hnx : ¬ (22 : Int) ≤ n := by omega
 have hcn : n < cntL.length := by omega
 by_cases h15 : n < 15
 ·rw [if_neg (by omega)] at hR
  have hz := zEi n h15 hcn
  simp [h0, h22, hn, hn0, hnx, hcn, hcl, hn22, hz]
  refine ⟨by omega, ?_⟩
  exact hb _ hR _
 obtain ⟨hc1, hc2⟩ := zEh n hn22 (by omega) hcn
 rw [if_pos (by omega)] at hR
 have hcd : cntL.getD e.op.toNat 0 = cntL[n] := by rw [hn, Int.toNat_natCast, List.getD_eq_getElem?_getD, List.getElem?_eq_getElem hcn]; rfl
 rw [hcd] at hR
 have hm0 : (cntL[n] == 0) = false := nb (by omega)
 have hat' := hat
 rw [hn] at hat'
 simp [h0, h22, hn, hn0, hnx, hcn, hcl, hn22, hm0]
 refine ⟨by omega, ?_⟩
 rw [← hat']
 generalize cntL[n] = m at *
 refine zaz (.bool (zaE e m 0)) (fun J => zcH e _ _ _ _ ⟨rfl, rfl⟩) ?_
 cases hsh : zaE e m 0 with
 | false =>
  rw [hsh, Bool.false_and] at hR
  simp
  exact hb _ hR _
 | true =>
 rw [hsh, Bool.true_and] at hR
 have hvn : (e.vars.length : Int) = m := by simp [zaE] at hsh; omega
 have hvl1 : 0 < e.vars.length := by omega
 obtain ⟨v, hv0, hv1, hvl, hvt0⟩ := zkA hvr hvl1
 obtain ⟨x1, y1, z1, hw, hx1, hy1, hz1⟩ := vt3 c.vars[v]
 obtain ⟨rfl, rfl, rfl⟩ := zj4 hw
 have h1 : (sm 1).cs = [.int .i64 1, .int .i64 0, .sl [] .none] := rfl
 have h3 : (sm 3).cs = [.int .i64 3, .int .i64 0, .sl [] .none] := rfl
 rw [hvt0] at hR
 simp
 refine zOX fun hs1 => ?_
 unfold zsm
 refine zc4 _ _ _ ?_
 refine zc4 _ _ _ ?_
 have hH : ∀ el : VT, H ++ [.cells e.cs, .cells (sm 1).cs, .cells (sm 3).cs, .cells el.cs, .cells (c.vars[v]).cs] = H ++ [.cells [.int .i64 n, .int .i64 e.num, .sl (ints e.vars) .none, .sl (rows e.binds) .none, .sl (ints e.kids) .none, x, y, z], .cells [.int .i64 1, .int .i64 0, .sl [] .none], .cells [.int .i64 3, .int .i64 0, .sl [] .none], .cells el.cs, .cells [.int .i64 (c.vars[v]).kind, .int .i64 (c.vars[v]).num, .sl (VT.css (c.vars[v]).kids) .none]] := fun el => by rw [hat', hw]; rfl
 have j3 : ∀ el : VT, stR c e = stF c e el → znC (.ptr kid 0) (.ptr H.length 0) (.ptr (H.length + 1) 0) (.ptr (H.length + 2) 0) (.ptr (H.length + 3) 0) (H ++ [.cells [.int .i64 n, .int .i64 e.num, .sl (ints e.vars) .none, .sl (rows e.binds) .none, .sl (ints e.kids) .none, x, y, z], .cells [.int .i64 1, .int .i64 0, .sl [] .none], .cells [.int .i64 3, .int .i64 0, .sl [] .none], .cells el.cs, .cells [.int .i64 (c.vars[v]).kind, .int .i64 (c.vars[v]).num, .sl (VT.css (c.vars[v]).kids) .none]]) (Out H.length K) := fun el h => by
  rw [← hH el]
  exact zGJ hx0 hk hs el _ K (fun b hbb J => hb b (h.trans hbb) J)
 by_cases h15' : n = 15
 ·obtain ⟨v2, hv2⟩ : ∃ v2 : Nat, e.vars[1]'(by omega) = v2 := ⟨(e.vars[1]'(by omega)).toNat, by have := hvr _ (List.getElem_mem (show 1 < e.vars.length by omega)); omega⟩
  have hv2l : v2 < c.vars.length := by have := hvr _ (List.getElem_mem (show 1 < e.vars.length by omega)); omega
  have hvl2 : 1 < e.vars.length := by omega
  have hv2t : vty c (e.vars.getD 1 0) = c.vars[v2] := by
   rw [List.getD_eq_getElem?_getD, List.getElem?_eq_getElem hvl2, Option.getD_some, hv2, zfx hv2l]
  rw [if_pos (by omega), hv2t] at hR
  obtain ⟨x2, y2, z2, hw2, hx2, hy2, hz2⟩ := vt3 c.vars[v2]
  have := j3 _ hR
  rw [hw2] at this
  subst h15'
  simp [hat', h1, h3, sm, VT.cs, VT.css, hg, ckB, hvl1, hv1, hvl, hw, hvl2, hv2, hv2l, hw2, hx2, hy2, hz2, ze2, Nat.add_assoc] at this ⊢
  exact ⟨by omega, this⟩
 rw [if_neg (by omega)] at hR
 have n15 : ((n : Int) == 15) = false := nb (by omega)
 by_cases h19' : n = 19
 ·rw [if_pos (by omega)] at hR
  have := j3 _ hR
  rw [hw] at this
  subst h19'
  simp [hat', h1, h3, sm, VT.cs, VT.css, hg, ckB, hvl1, hv1, hvl, hw, ze2, Nat.add_assoc] at this ⊢
  exact this
 rw [if_neg (by omega)] at hR
 have n19 : ((n : Int) == 19) = false := nb (by omega)
 have el1 : (c.vars[v]).kind = 7 ∨ (c.vars[v]).kind = 8 → ∃ a, (c.vars[v]).kids = [a] ∧ zbY c.vars[v] = a := fun h => by
  obtain ⟨a, ha, _⟩ := zu4 (hvt _ (List.getElem_mem hvl)) h
  exact ⟨a, ha, by simp [zbY, ha]⟩
 have j5 : ∀ b : Bool, (b = true ↔ n = 16 ∨ n = 17 ∨ n = 18) → zjE (.ptr kid 0) (.ptr H.length 0) (.ptr (H.length + 1) 0) (.ptr (H.length + 2) 0) (.ptr (H.length + 3) 0) (.ptr (H.length + 4) 0) (.bool b) (H ++ [.cells [.int .i64 n, .int .i64 e.num, .sl (ints e.vars) .none, .sl (rows e.binds) .none, .sl (ints e.kids) .none, x, y, z], .cells [.int .i64 1, .int .i64 0, .sl [] .none], .cells [.int .i64 3, .int .i64 0, .sl [] .none], .cells [.int .i64 0, .int .i64 0, .snil], .cells [.int .i64 (c.vars[v]).kind, .int .i64 (c.vars[v]).num, .sl (VT.css (c.vars[v]).kids) .none]]) (Out H.length K) := fun b hbb => by
  refine zO1 fun hs5 => ?_
  unfold zso
  cases b with
  | true =>
   rw [if_pos (by have := hbb.1 rfl; omega)] at hR
   by_cases hk7 : (c.vars[v]).kind ≠ 7
   ·rw [nb hk7, Bool.false_and] at hR
    simp [nbt hk7]
    exact hb _ hR _
   have hk7' : (c.vars[v]).kind = 7 := by simpa using hk7
   obtain ⟨a, ha, ha0⟩ := el1 (.inl hk7')
   rw [hk7', ha0] at hR
   simp only [beq_self_eq_true, Bool.true_and] at hR
   have := j3 _ hR
   obtain ⟨x2, y2, z2, hw2, hx2, hy2, hz2⟩ := vt3 a
   rw [hw2] at this
   simp [hk7', ha, VT.css, hw2, hx2, hy2, hz2, ze2] at this ⊢
   exact this
  | false =>
   rw [if_neg (by intro h; have := hbb.2 (by omega); cases this)] at hR
   by_cases hk7 : (c.vars[v]).kind ≠ 8
   ·rw [nb hk7, Bool.false_and] at hR
    simp [nbt hk7]
    exact hb _ hR _
   have hk7' : (c.vars[v]).kind = 8 := by simpa using hk7
   obtain ⟨a, ha, ha0⟩ := el1 (.inr hk7')
   rw [hk7', ha0] at hR
   simp only [beq_self_eq_true, Bool.true_and] at hR
   have := j3 _ hR
   obtain ⟨x2, y2, z2, hw2, hx2, hy2, hz2⟩ := vt3 a
   rw [hw2] at this
   simp [hk7', ha, VT.css, hw2, hx2, hy2, hz2, ze2] at this ⊢
   exact this
 simp [hat', h1, h3, sm, VT.cs, VT.css, hg, ckB, hvl1, hv1, hvl, hw, n15, n19, Nat.add_assoc]
 by_cases h16 : n = 16
 ·have := j5 true (by simp [h16])
  subst h16
  simpa using this
 by_cases h17 : n = 17
 ·have := j5 true (by simp [h17])
  subst h17
  simpa using this
 have n16 : ((n : Int) == 16) = false := nb (by omega)
 have n17 : ((n : Int) == 17) = false := nb (by omega)
 simp [n16, n17]
 refine j5 _ ?_
 simp
 omega
def za4 (e : CEx) : Prop := e.op = 6 ∨ e.op = 11 ∨ e.op = 12 ∨ e.op = 14
def za9 (e : CEx) : Prop := e.op = 7 ∨ e.op = 24 ∨ e.op = 8 ∨ e.op = 9 ∨ e.op = 10
instance (e : CEx) : Decidable (za4 e) := by unfold za4; infer_instance
instance (e : CEx) : Decidable (za9 e) := by unfold za9; infer_instance
def restR (c : Cor) (e : CEx) : Bool :=
 if e.num ≠ 0 then false
 else if e.op = 1 then zaE e 0 0 && e.ty.same (sm 3)
 else if e.op = 4 then zaE e 1 0 && VT.sameL (zan c e.vars) [e.ty]
 else if e.op = 5 then zaE e (-1) 0 && (decide (2 ≤ e.vars.length) && (decide (e.vars.length ≤ 6) && e.ty.same (.mk 6 0 (zan c e.vars))))
 else if e.op = 13 then zaE e (-1) 0 && (decide (1 ≤ e.vars.length) && (vty c (e.vars.getD 0 0)).same (.mk 9 0 (zan c (e.vars.drop 1) ++ [e.ty])))
 else if e.op = 23 then zaE e 1 0 && (VT.sameL (zan c e.vars) [sm 1] && zax c.data 0 e.ty)
 else if za9 e then parR c e
 else stR c e
def progRule (c : Cor) (e : CEx) : Bool :=
 if za4 e then numR c e
 else if e.op = 2 then zaE e 0 0 && ((e.num == 0 || e.num == 1) && e.ty.same (sm 2))
 else if e.op = 3 then zaE e 0 0 && ((decide (-1000000 ≤ e.num) && decide (e.num ≤ 1000000)) && e.ty.same (sm 1))
 else if e.op = 22 then zaE e 0 0 && ((decide (-1000 ≤ e.num) && decide (e.num ≤ 1000)) && e.ty.same (sm 3))
 else restR c e
theorem zFw {c : Cor} {e : CEx} (hx : ExIn c e) {u kid : Nat} {H : zaa} (hk : H[kid]? = some (ckB c u)) (hs : HSc H) (K : AV → zaa → Prop) (hb : ∀ b, restR c e = b → ∀ J, Out H.length K (.bool b) (H ++ J)) :
  zrQ (.ptr kid 0) (.ptr H.length 0) (H ++ [.cells e.cs]) (Out H.length K) := by
 refine zNe fun hs2 => ?_
 unfold zrR
 have hx0 := hx
 obtain ⟨hc, ⟨kv, kb, kk, kt, kbl⟩, hvr, hkr, hbk, hbr, hcr, hvt⟩ := hx
 obtain ⟨x, y, z, hv, hx, hy, hz, hat⟩ := ex3 e
 have hg : ∀ J, (H ++ J)[kid]? = some (ckB c u) := fun J => zaT hk
 have hR := restR.eq_1 c e
 by_cases hn0 : e.num ≠ 0
 ·rw [if_pos hn0] at hR
  simp [hat, nbt hn0]
  exact hb _ hR _
 rw [if_neg hn0] at hR
 have hn : e.num = 0 := by simpa using hn0
 have hatn := hat
 rw [hn] at hatn
 by_cases h1 : e.op = 1
 ·rw [if_pos h1] at hR
  have hat7 := hatn
  rw [h1] at hat7
  simp [hat7]
  rw [← hat7]
  refine zaz (.bool (zaE e 0 0)) (fun J => zcH e _ _ _ _ ⟨rfl, rfl⟩) ?_
  cases hsh : zaE e 0 0 with
  | false =>
   rw [hsh, Bool.false_and] at hR
   simp
   exact hb _ hR _
  | true =>
  rw [hsh, Bool.true_and] at hR
  simp [hat7]
  refine zaz (.agg (sm 3).cs) (fun J => zc4 _ _ _ ⟨rfl, rfl⟩) ?_
  rw [← hv]
  refine zaz (.bool (e.ty.same (sm 3))) (fun J => zcb (by omega) _ _ ⟨rfl, rfl⟩) ?_
  exact hb _ hR _
 rw [if_neg h1] at hR
 simp [hatn, nb h1]
 refine zNg fun hs3 => ?_
 unfold zrS
 by_cases h4 : e.op = 4
 ·rw [if_pos h4] at hR
  have hat7 := hatn
  rw [h4] at hat7
  simp [h4]
  rw [← hat7]
  refine zcH e _ _ _ _ ?_
  cases hsh : zaE e 1 0 with
  | false =>
   rw [hsh, Bool.false_and] at hR
   simp
   exact hb _ hR _
  | true =>
  rw [hsh, Bool.true_and] at hR
  simp [hat7]
  rw [← hv, zbJ]
  refine zdI hc (hg _) (by omega) hvr [e.ty] rfl _ ?_
  exact hb _ hR _
 rw [if_neg h4] at hR
 by_cases h5 : e.op = 5
 ·rw [if_pos h5] at hR
  have hat7 := hatn
  rw [h5] at hat7
  simp [h5]
  rw [← hat7]
  refine zaz (.bool (zaE e (-1) 0)) (fun J => zcH e _ _ _ _ ⟨rfl, rfl⟩) ?_
  cases hsh : zaE e (-1) 0 with
  | false =>
   rw [hsh, Bool.false_and] at hR
   simp
   exact hb _ hR _
  | true =>
  rw [hsh, Bool.true_and] at hR
  by_cases h2 : 2 ≤ e.vars.length
  ·have h2' : (2 : Int) ≤ e.vars.length := by omega
   by_cases h6 : e.vars.length ≤ 6
   ·have h6' : (e.vars.length : Int) ≤ 6 := by omega
    simp only [h2, h6, decide_true, Bool.true_and] at hR
    simp [hat7, h2', h6']
    refine zaz (.sl (VT.css (zan c e.vars)) .none) (fun J => zkQ (zaT (hg _)) (by omega) hvr _ fun _ => ⟨rfl, rfl⟩) ?_
    refine zaz (.agg (VT.mk 6 0 (zan c e.vars)).cs) (fun J => zok _ _ _ _ ⟨rfl, rfl⟩) ?_
    rw [← hv]
    refine zaz (.bool (e.ty.same (.mk 6 0 (zan c e.vars)))) (fun J => zcb (by omega) _ _ ⟨rfl, rfl⟩) ?_
    exact hb _ hR _
   ·have h6' : ¬ (e.vars.length : Int) ≤ 6 := by omega
    simp only [h2, h6, decide_true, decide_false, Bool.true_and, Bool.false_and] at hR
    simp [hat7, h2', h6']
    exact hb _ hR _
  ·have h2' : ¬ (2 : Int) ≤ e.vars.length := by omega
   simp only [h2, decide_false, Bool.false_and] at hR
   simp [hat7, h2']
   exact hb _ hR _
 rw [if_neg h5] at hR
 by_cases h13 : e.op = 13
 ·rw [if_pos h13] at hR
  have hat7 := hatn
  rw [h13] at hat7
  simp [h13]
  rw [← hat7]
  refine zfc (.bool (zaE e (-1) 0)) (zcH e _ _ _ _ ⟨rfl, rfl⟩) ?_
  cases hsh : zaE e (-1) 0 with
  | false =>
   rw [hsh, Bool.false_and] at hR
   simp
   exact hb _ hR _
  | true =>
  rw [hsh, Bool.true_and] at hR
  by_cases h1v : 1 ≤ e.vars.length
  ·have h1' : (1 : Int) ≤ e.vars.length := by omega
   simp only [h1v, decide_true, Bool.true_and] at hR
   obtain ⟨v, hv0, hv1, hvl, hvt0⟩ := zkA hvr h1v
   rw [hvt0] at hR
   obtain ⟨x1, y1, z1, hw, hx1, hy1, hz1⟩ := vt3 c.vars[v]
   have hvl1 : 0 < e.vars.length := by omega
   simp [hat7, h1', hg, ckB, hvl1, hv1, hvl, hw]
   have htl : ((ints e.vars).take e.vars.length).tail = ints (e.vars.drop 1) := by
    rw [List.take_of_length_le (by simp)]
    simp [ints, List.map_tail]
   have hvr1 : inV c (e.vars.drop 1) := fun q hq => hvr q (List.mem_of_mem_drop hq)
   have hdl : (e.vars.drop 1).length ≤ 40 := by simp; omega
   rw [htl]
   refine ⟨⟨h1v, fun q hq => ?_⟩, ?_⟩
   ·simp [ints] at hq
    obtain ⟨_, _, rfl⟩ := hq
    rfl
   generalize e.vars.drop 1 = l at *
   refine znT _ _ (zpD (hg _) (by omega) hvr1 _ fun _ => ⟨rfl, rfl⟩) (ztv _ _ _ _) ?_
   simp
   rw [← hv, zbJ]
   refine zsx (List.append_assoc _ [_] _).symm (by simp [zan]) (by simp) (by simp) (by simp [zan]; omega) (by simp [zan]; omega) ?_
   refine zfc (.agg (VT.mk 9 0 (zan c l ++ [e.ty])).cs) (ztn 9 (zan c l ++ [e.ty]) (by simp [VT.css_map]) _ _ ⟨rfl, rfl⟩) ?_
   rw [← hw]
   refine zfc (.bool ((c.vars[v]).same (.mk 9 0 (zan c l ++ [e.ty])))) (zcb (by have := hc.2.2.2.1.2 _ (List.getElem_mem hvl); omega) _ _ ⟨rfl, rfl⟩) ?_
   simp
   exact hb _ hR _
  ·have h1' : ¬ (1 : Int) ≤ e.vars.length := by omega
   simp only [h1v, decide_false, Bool.false_and] at hR
   simp [hat7, h1']
   exact hb _ hR _
 rw [if_neg h13] at hR
 by_cases h23 : e.op = 23
 ·rw [if_pos h23] at hR
  have hat7 := hatn
  rw [h23] at hat7
  simp [h23]
  rw [← hat7]
  refine zaz (.bool (zaE e 1 0)) (fun J => zcH e _ _ _ _ ⟨rfl, rfl⟩) ?_
  cases hsh : zaE e 1 0 with
  | false =>
   rw [hsh, Bool.false_and] at hR
   simp
   exact hb _ hR _
  | true =>
  rw [hsh, Bool.true_and] at hR
  simp [hat7]
  refine zaz (.agg (sm 1).cs) (fun J => zc4 _ _ _ ⟨rfl, rfl⟩) ?_
  rw [zbJ]
  refine zaz (.bool (VT.sameL (zan c e.vars) [sm 1])) (fun J => zdI hc (zaT (hg _)) (by omega) hvr [sm 1] rfl _ ⟨rfl, rfl⟩) ?_
  cases hsl : VT.sameL (zan c e.vars) [sm 1] with
  | false =>
   rw [hsl, Bool.false_and] at hR
   simp
   exact hb _ hR _
  | true =>
  rw [hsl, Bool.true_and] at hR
  simp [hg, ckB]
  rw [← hv]
  refine zaz (.bool (zax c.data 0 e.ty)) (fun J => zmT c.data 0 _ (by omega) _ _ ⟨rfl, rfl⟩) ?_
  exact hb _ hR _
 rw [if_neg h23] at hR
 have j4 : ∀ b : Bool, (b = true ↔ za9 e) → zeX (.ptr kid 0) (.ptr H.length 0) (.bool b) (H ++ [.cells e.cs]) (Out H.length K) := fun b hbb => by
  cases b with
  | true =>
   rw [if_pos (hbb.1 rfl)] at hR
   simp [zeX, hat]
   rw [← hat]
   refine zFf hx0 (hg _) _ ?_
   exact hb _ hR _
  | false =>
   rw [if_neg (fun h => by have := hbb.2 h; cases this)] at hR
   simp [zeX, hat]
   rw [← hat]
   refine zGK hx0 (hg _) _ ?_
   exact hb _ hR _
 rw [← hatn]
 by_cases h7 : e.op = 7
 ·simp [h7]
  exact j4 true (by simp [za9, h7])
 by_cases h24 : e.op = 24
 ·simp [h24]
  exact j4 true (by simp [za9, h24])
 by_cases h8 : e.op = 8
 ·simp [h8]
  exact j4 true (by simp [za9, h8])
 by_cases h9 : e.op = 9
 ·simp [h9]
  exact j4 true (by simp [za9, h9])
 simp [nb h4, nb h5, nb h13, nb h23, nb h7, nb h24, nb h8, nb h9]
 exact j4 _ (by simp [za9, h7, h24, h8, h9])
theorem zG0 {c : Cor} {e : CEx} (hx : ExIn c e) {u kid : Nat} {us : List Int} {H : zaa} (hk : H[kid]? = some (ckB c u)) (hu : H[u]? = some (usB us)) (hne : u ≠ kid) (hlen : us.length = c.codes.length) (hus : ∀ x ∈ us, 0 ≤ x ∧ x ≤ 1000000)
  (K : AV → zaa → Prop) (hT : progRule c e = true → K (.bool true) (H.set u (usB (zcw e us)))) (hF : progRule c e = false → ∀ us', us'.length = us.length → K (.bool false) (H.set u (usB us'))) :
  ACalls tP zoU [.ptr kid 0, .agg e.cs] H K := by
 refine ACalls.out (zNh fun hs => ?_)
 have hx0 := hx
 obtain ⟨hc, ⟨kv, kb, kk, kt, kbl⟩, hvr, hkr, hbk, hbr, hcr, hvt⟩ := hx
 obtain ⟨x, y, z, hv, hx, hy, hz, hat⟩ := ex3 e
 have hul := zbW hu
 have scU : ∀ us : List Int, (usB us).sc H.length = true := fun us => by simp [usB, AB.sc, AV.scA, AV.scB]
 have hg : ∀ J, (H ++ J)[kid]? = some (ckB c u) := fun J => zaT hk
 have hgu : ∀ J, (H ++ J)[u]? = some (usB us) := fun J => zaT hu
 have hR := progRule.eq_1 c e
 have oF : progRule c e = false → ∀ us' J, us'.length = us.length → Out H.length K (.bool false) (H.set u (usB us') ++ J) := fun h us' J hl => Out.bool rfl (by simp) (hs.set (scU _)) (hF h us' hl)
 have hb : ¬ za4 e → ∀ b, progRule c e = b → ∀ J, Out H.length K (.bool b) (H ++ J) := fun hno b h J => by
  cases b with
  | false =>
   have := oF h us J rfl
   rwa [zec hu] at this
  | true =>
   have h2 := hT h
   rw [zcw, if_neg (fun h => hno (.inr (.inl h))), zec hu] at h2
   exact Out.bool rfl (Nat.le_refl _) hs h2
 have j1 : ∀ b : Bool, (b = true ↔ za4 e) → zih (.ptr kid 0) (.ptr H.length 0) (.int .i64 e.op) (.bool b) (H ++ [.cells e.cs]) (Out H.length K) := fun b hbb => by
  refine zNc fun hs1 => ?_
  unfold zrP
  cases b with
  | true =>
   have hno := hbb.1 rfl
   rw [if_pos hno] at hR
   simp [hat]
   rw [← hat]
   refine zEZ hx0 (hg _) (hgu _) hne hlen hus hno _ (fun h => ?_) (fun h us' hl => ?_)
   ·rw [zdE _ hu]
    exact Out.bool rfl (by simp) (hs.set (scU _)) (hT (hR.trans h))
   ·rw [zdE _ hu]
    exact oF (hR.trans h) us' _ hl
  | false =>
   have hno : ¬ za4 e := fun h => by have := hbb.2 h; cases this
   rw [if_neg hno] at hR
   have hb := hb hno
   by_cases h2 : e.op = 2
   ·rw [if_pos h2] at hR
    have hat7 := hat
    rw [h2] at hat7
    simp [h2, hat7]
    rw [← hat7]
    refine zaz (.bool (zaE e 0 0)) (fun J => zcH e _ _ _ _ ⟨rfl, rfl⟩) ?_
    cases hsh : zaE e 0 0 with
    | false =>
     rw [hsh, Bool.false_and] at hR
     simp
     exact hb _ hR _
    | true =>
    rw [hsh, Bool.true_and] at hR
    have fin : (e.num == 0 || e.num == 1) = true → zay (H ++ [.cells e.cs]) (fun H' K' => ACalls tP zct [.int .i64 2] H' K') fun t => zay (H ++ [.cells e.cs]) (fun H' K' => ACalls tP zbG [.agg e.ty.cs, t] H' K') fun t => Out H.length K t (H ++ [.cells e.cs]) := fun h => by
     rw [h, Bool.true_and] at hR
     refine zaz (.agg (sm 2).cs) (fun J => zc4 _ _ _ ⟨rfl, rfl⟩) ?_
     refine zaz (.bool (e.ty.same (sm 2))) (fun J => zcb (by omega) _ _ ⟨rfl, rfl⟩) ?_
     exact hb _ hR _
    rw [hat7, hv] at fin
    cases hn0 : (e.num == 0) with
    | true => simp [hat7, hn0] at fin ⊢; exact fin
    | false =>
    cases hn1 : (e.num == 1) with
    | true => simp [hat7, hn0, hn1] at fin ⊢; exact fin
    | false =>
     rw [hn0, hn1, Bool.or_false, Bool.false_and] at hR
     simp [hat7, hn0, hn1]
     exact hb _ hR _
   rw [if_neg h2] at hR
   by_cases h3 : e.op = 3
   ·rw [if_pos h3] at hR
    have hat7 := hat
    rw [h3] at hat7
    simp [h3, hat7]
    rw [← hat7]
    refine zaz (.bool (zaE e 0 0)) (fun J => zcH e _ _ _ _ ⟨rfl, rfl⟩) ?_
    cases hsh : zaE e 0 0 with
    | false =>
     rw [hsh, Bool.false_and] at hR
     simp
     exact hb _ hR _
    | true =>
    rw [hsh, Bool.true_and] at hR
    simp [hat7]
    refine zaz (.bool (decide (-1000000 ≤ e.num) && decide (e.num ≤ 1000000))) (fun J => zu6 _ 1000000 (by omega) (by omega) _ _ ⟨rfl, rfl⟩) ?_
    cases hw : (decide (-1000000 ≤ e.num) && decide (e.num ≤ 1000000)) with
    | false =>
     rw [hw, Bool.false_and] at hR
     simp
     exact hb _ hR _
    | true =>
    rw [hw, Bool.true_and] at hR
    simp
    refine zaz (.agg (sm 1).cs) (fun J => zc4 _ _ _ ⟨rfl, rfl⟩) ?_
    rw [← hv]
    refine zaz (.bool (e.ty.same (sm 1))) (fun J => zcb (by omega) _ _ ⟨rfl, rfl⟩) ?_
    exact hb _ hR _
   rw [if_neg h3] at hR
   by_cases h22 : e.op = 22
   ·rw [if_pos h22] at hR
    have hat7 := hat
    rw [h22] at hat7
    simp [h22, hat7]
    rw [← hat7]
    refine zaz (.bool (zaE e 0 0)) (fun J => zcH e _ _ _ _ ⟨rfl, rfl⟩) ?_
    cases hsh : zaE e 0 0 with
    | false =>
     rw [hsh, Bool.false_and] at hR
     simp
     exact hb _ hR _
    | true =>
    rw [hsh, Bool.true_and] at hR
    simp [hat7]
    refine zaz (.bool (decide (-1000 ≤ e.num) && decide (e.num ≤ 1000))) (fun J => zu6 _ 1000 (by omega) (by omega) _ _ ⟨rfl, rfl⟩) ?_
    cases hw : (decide (-1000 ≤ e.num) && decide (e.num ≤ 1000)) with
    | false =>
     rw [hw, Bool.false_and] at hR
     simp
     exact hb _ hR _
    | true =>
    rw [hw, Bool.true_and] at hR
    simp
    refine zaz (.agg (sm 3).cs) (fun J => zc4 _ _ _ ⟨rfl, rfl⟩) ?_
    rw [← hv]
    refine zaz (.bool (e.ty.same (sm 3))) (fun J => zcb (by omega) _ _ ⟨rfl, rfl⟩) ?_
    exact hb _ hR _
   rw [if_neg h22] at hR
   simp [nb h2, nb h3, nb h22]
   exact zFw hx0 hk hs K fun b h J => hb b (hR.trans h) J
 simp [zrO, hat]
 rw [← hat]
 by_cases h6 : e.op = 6
 ·have := j1 true (by simp [za4, h6])
  rw [h6] at this
  simp [h6]
  exact this
 by_cases h11 : e.op = 11
 ·have := j1 true (by simp [za4, h11])
  rw [h11] at this
  simp [h11]
  exact this
 by_cases h12 : e.op = 12
 ·have := j1 true (by simp [za4, h12])
  rw [h12] at this
  simp [h12]
  exact this
 simp [nb h6, nb h11, nb h12]
 exact j1 _ (by simp [za4, h6, h11, h12])
end Go.Proofs.Ytkdmpbhbmmhijaa
