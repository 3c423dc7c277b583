import Derived.Test.YtkdmpbhbmmhijaaKP1
import Derived.Test.YtkdmpbhbmmhijaaKNum
import Derived.Test.YtkdmpbhbmmhijaaProg
import Derived.KernelRfl
set_option linter.unusedSimpArgs false
set_option linter.unusedVariables false
namespace Go.Proofs.Ytkdmpbhbmmhijaa
open Go Go.Abs
set_option maxRecDepth 8000
theorem zu3 (t : VT) : t = .mk t.kind t.num t.kids := by cases t; rfl
theorem zkX {t u : VT} (h1 : t.kind = u.kind) (h2 : t.num = u.num) (h3 : t.kids = u.kids) : t = u := by rw [zu3 t, zu3 u, h1, h2, h3]
theorem zkW {data : List Dat} {t : VT} (h : zax data 0 t = true) : za6 data 0 t.kind t.num t.kids.length = true := by
 obtain ⟨k, n, ks⟩ := t
 simp only [zax, zbs, Bool.and_eq_true] at h
 exact h.2.1
theorem zfu {data : List Dat} {t : VT} (h : zax data 0 t = true) {k : Int} (hk : k = 1 ∨ k = 2 ∨ k = 3) : t.kind = k ↔ t = sm k := by
 constructor
 ·intro h1
  have h2 := zkW h
  rw [h1] at h2
  have : t.num = 0 ∧ t.kids = [] := by rcases hk with rfl | rfl | rfl <;> simpa [za6] using h2
  exact zkX h1 this.1 this.2
 ·intro h1; rw [h1]; rfl
theorem zGU {data : List Dat} {t : VT} (h : zax data 0 t = true) (h6 : t.kind = 6) : t.num = 0 ∧ 2 ≤ t.kids.length ∧ t.kids.length ≤ 6 := by
 have h2 := zkW h
 rw [h6] at h2
 simpa [za6, and_assoc] using h2
theorem zGT {data : List Dat} {t : VT} (h : zax data 0 t = true) (h9 : t.kind = 9) : t.num = 0 := by
 have h2 := zkW h
 rw [h9] at h2
 simp [za6] at h2
 exact h2.1.1
theorem zja {data : List Dat} {t : VT} (h : zax data 0 t = true) {k : Int} (hk : k = 7 ∨ k = 8) (h1 : t.kind = k) : t = .mk k 0 [zbY t] := by
 have h2 := zkW h
 rw [h1] at h2
 have : t.num = 0 ∧ t.kids.length = 1 := by rcases hk with rfl | rfl <;> simpa [za6] using h2
 obtain ⟨a, ha⟩ := zcp (l := t.kids) (by simp [this.2])
 have hk0 : zbY t = a := by simp [zbY, ha]
 rw [hk0]
 exact zkX h1 this.1 ha
theorem zbn (c : Cor) (t : VT) (l : List Int) : zbV c t l = true ↔ ∀ k ∈ l, ety c k = t := by
 simp [zbV, za8]
theorem zsZ {c : Cor} {n : Nat} (h : n < c.codes.length) : zdc c (n : Int) = c.codes[n] := by simp [zdc, h]
section
variable {c : Cor} {e : CEx}
abbrev RR (c : Cor) (e : CEx) : Bool := refR4 c e (e.num == 0) ((e.kids.length : Int) == 0) (zan c e.vars) (zaF c e.kids) (e.binds.map (zan c))
theorem zEt {data : List Dat} {t : VT} {n : Int} {fs : List VT} (h : zbq data t n = some fs) : t.kind = 5 := by
 unfold zbq at h
 split at h
 ·rename_i h1; exact h1.1
 ·cases h
theorem zkZ (hx : ExIn c e) {v : Int} (hv : v ∈ e.vars) : zax c.data 0 (vty c v) = true := by
 have := hx.vars v hv
 obtain ⟨k, rfl⟩ : ∃ k : Nat, v = k := ⟨v.toNat, by omega⟩
 rw [zfx (by omega)]
 exact hx.vtys _ (List.getElem_mem _)
theorem zDE (c : Cor) (l : List (List Int)) (k : Nat) : bAt (l.map (zan c)) k = zan c (l.getD k []) := by
 rw [bAt, List.getD_eq_getElem?_getD, List.getElem?_map, List.getD_eq_getElem?_getD]
 cases l[k]? <;> rfl
theorem ztr {t : VT} {X : List VT} (h : zax c.data 0 t = true) : t = .mk 9 0 X ↔ t.kind = 9 ∧ t.kids = X := by
 constructor
 ·intro h; rw [h]; exact ⟨rfl, rfl⟩
 ·rintro ⟨h1, h2⟩; exact zkX h1 (zGT h h1) h2
theorem rl1 (hx : ExIn c e) (hT : zax c.data 0 e.ty = true) (hop : e.op = 1) : progRule c e = true ↔ RR c e = true := by
 have hvl := zaO c e.vars
 have hkl : (zaF c e.kids).length = e.kids.length := by simp [zaF]
 simp [progRule, za4, za9, restR, numR, parR, stR, stF, RR, refR4, refR5, refR6, refR7, refR9, hop, zaE, za8, zbr, zaO, zbn, cntL, zfu hT (k := 3) (by simp)]
 grind
theorem rl2 (hx : ExIn c e) (hT : zax c.data 0 e.ty = true) (hop : e.op = 2) : progRule c e = true ↔ RR c e = true := by
 have hvl := zaO c e.vars
 have hkl : (zaF c e.kids).length = e.kids.length := by simp [zaF]
 simp [progRule, za4, za9, restR, numR, parR, stR, stF, RR, refR4, refR5, refR6, refR7, refR9, hop, zaE, za8, zbr, zaO, zbn, cntL, zfu hT (k := 2) (by simp)]
 grind
theorem rl3 (hx : ExIn c e) (hT : zax c.data 0 e.ty = true) (hop : e.op = 3) : progRule c e = true ↔ RR c e = true := by
 have hvl := zaO c e.vars
 have hkl : (zaF c e.kids).length = e.kids.length := by simp [zaF]
 simp [progRule, za4, za9, restR, numR, parR, stR, stF, RR, refR4, refR5, refR6, refR7, refR9, hop, zaE, za8, zbr, zaO, zbn, cntL, zfu hT (k := 1) (by simp)]
 grind
theorem zFJ (hx : ExIn c e) (hT : zax c.data 0 e.ty = true) (hop : e.op = 22) : progRule c e = true ↔ RR c e = true := by
 have hvl := zaO c e.vars
 have hkl : (zaF c e.kids).length = e.kids.length := by simp [zaF]
 simp [progRule, za4, za9, restR, numR, parR, stR, stF, RR, refR4, refR5, refR6, refR7, refR9, hop, zaE, za8, zbr, zaO, zbn, cntL, zfu hT (k := 3) (by simp)]
 grind
theorem rl4 (hx : ExIn c e) (hT : zax c.data 0 e.ty = true) (hop : e.op = 4) : progRule c e = true ↔ RR c e = true := by
 have hvl := zaO c e.vars
 have hkl : (zaF c e.kids).length = e.kids.length := by simp [zaF]
 simp [progRule, za4, za9, restR, numR, parR, stR, stF, RR, refR4, refR5, refR6, refR7, refR9, hop, zaE, za8, zbr, zaO, zbn, cntL]
 grind
theorem rl5 (hx : ExIn c e) (hT : zax c.data 0 e.ty = true) (hop : e.op = 5) : progRule c e = true ↔ RR c e = true := by
 have hvl := zaO c e.vars
 have hkl : (zaF c e.kids).length = e.kids.length := by simp [zaF]
 simp [progRule, za4, za9, restR, numR, parR, stR, stF, RR, refR4, refR5, refR6, refR7, refR9, hop, zaE, za8, zbr, zaO, zbn, cntL]
 intro h0 h1
 constructor
 ·rintro ⟨h2, h3, h4⟩
  rw [h4]; exact ⟨rfl, rfl⟩
 ·rintro ⟨h2, h3⟩
  obtain ⟨q1, q2, q3⟩ := zGU hT h2
  rw [h3] at hvl
  exact ⟨by omega, by omega, zkX h2 q1 h3.symm⟩
theorem rl6 (hx : ExIn c e) (hT : zax c.data 0 e.ty = true) (hop : e.op = 6) : progRule c e = true ↔ RR c e = true := by
 have hvl := zaO c e.vars
 have hkl : (zaF c e.kids).length = e.kids.length := by simp [zaF]
 simp [progRule, za4, za9, restR, numR, parR, stR, stF, RR, refR4, refR5, refR6, refR7, refR9, hop, zaE, za8, zbr, zaO, zbn, cntL]
 cases hf : zbq c.data e.ty e.num with
 | none => simp
 | some fs =>
  have := zEt hf
  simp [this]
  grind
theorem rl7 (hx : ExIn c e) (hT : zax c.data 0 e.ty = true) (hop : e.op = 7) : progRule c e = true ↔ RR c e = true := by
 have hvl := zaO c e.vars
 have hkl : (zaF c e.kids).length = e.kids.length := by simp [zaF]
 simp [progRule, za4, za9, restR, numR, parR, stR, stF, RR, refR4, refR5, refR6, refR7, refR9, hop, zaE, za8, zbr, zaO, zbn, cntL]
 intro h0
 by_cases hk : e.kids.length = 2
 ·obtain ⟨k0, k1, hk'⟩ := zcq (l := e.kids) (by simp [hk])
  obtain ⟨b0, b1, hb'⟩ := zcq (l := e.binds) (by simp [hx.bk, hk])
  simp [hk', hb', zaF, bAt, hd0, hd1, zbQ, zan]
  grind
 ·grind
theorem rl8 (hx : ExIn c e) (hT : zax c.data 0 e.ty = true) (hop : e.op = 8) : progRule c e = true ↔ RR c e = true := by
 have hvl := zaO c e.vars
 have hkl : (zaF c e.kids).length = e.kids.length := by simp [zaF]
 simp [progRule, za4, za9, restR, numR, parR, stR, stF, RR, refR4, refR5, refR6, refR7, refR9, hop, zaE, za8, zbr, zaO, zbn, cntL]
 intro h0
 by_cases hv : e.vars.length = 1
 ·obtain ⟨v, hv'⟩ := zcp (l := e.vars) (by simp [hv])
  by_cases hk : e.kids.length = 1
  ·obtain ⟨k0, hk'⟩ := zcp (l := e.kids) (by simp [hk])
   obtain ⟨b0, hb'⟩ := zcp (l := e.binds) (by simp [hx.bk, hk])
   simp [hv', hk', hb', zaF, bAt, hd0, hd1, zbQ, zan]
  ·grind
 ·grind
theorem rl9 (hx : ExIn c e) (hT : zax c.data 0 e.ty = true) (hop : e.op = 9) : progRule c e = true ↔ RR c e = true := by
 have hvl := zaO c e.vars
 have hkl : (zaF c e.kids).length = e.kids.length := by simp [zaF]
 simp [progRule, za4, za9, restR, numR, parR, stR, stF, RR, refR4, refR5, refR6, refR7, refR9, hop, zaE, za8, zbr, zaO, zbn, cntL]
 intro h0
 by_cases hv : e.vars.length = 1
 ·obtain ⟨v, hv'⟩ := zcp (l := e.vars) (by simp [hv])
  by_cases hk : e.kids.length = 2
  ·obtain ⟨k0, k1, hk'⟩ := zcq (l := e.kids) (by simp [hk])
   obtain ⟨b0, b1, hb'⟩ := zcq (l := e.binds) (by simp [hx.bk, hk])
   simp [hv', hk', hb', zaF, bAt, hd0, hd1, zbQ, zan]
   grind
  ·grind
 ·grind
theorem zFx (hx : ExIn c e) (hT : zax c.data 0 e.ty = true) (hop : e.op = 10) : progRule c e = true ↔ RR c e = true := by
 have hvl := zaO c e.vars
 have hkl : (zaF c e.kids).length = e.kids.length := by simp [zaF]
 simp [progRule, za4, za9, restR, numR, parR, stR, stF, RR, refR4, refR5, refR6, refR7, refR9, hop, zaE, za8, zbr, zaO, zbn, cntL]
 intro h0
 by_cases hv : e.vars.length = 1
 ·obtain ⟨v, hv'⟩ := zcp (l := e.vars) (by simp [hv])
  have hcr : ∀ k (h : k < e.kids.length), caseR c (vty c v) e.ty (zaF c e.kids) (e.binds.map (zan c)) k = (zfe c (vty c v) e k && (ety c e.kids[k]).same e.ty) := fun k h => by
   rw [caseR, zfe, zDE]
   congr 1
   simp [zaF, h]
  have h1 : (∀ x, x < e.kids.length → caseR c (vty c v) e.ty (zaF c e.kids) (e.binds.map (zan c)) x = true) ↔ (zff c (vty c v) e = true ∧ ∀ k ∈ e.kids, ety c k = e.ty) := by
   rw [zff, List.all_eq_true]
   constructor
   ·intro h
    refine ⟨fun k hk => ?_, fun k hk => ?_⟩
    ·have := h k (by simpa using hk)
     rw [hcr k (by simpa using hk), Bool.and_eq_true] at this
     exact this.1
    ·obtain ⟨j, hj, rfl⟩ := List.getElem_of_mem hk
     have := h j hj
     rw [hcr j hj, Bool.and_eq_true, za8] at this
     exact this.2
   ·rintro ⟨h1, h2⟩ k hk
    rw [hcr k hk, Bool.and_eq_true, za8]
    exact ⟨h1 k (by simpa using hk), h2 _ (List.getElem_mem hk)⟩
  have hh : hd0 (zan c e.vars) = vty c v := by simp [hv', zan, hd0]
  rw [hh, hkl, h1]
  simp [hv']
  grind
 ·grind
theorem zFy (hx : ExIn c e) (hT : zax c.data 0 e.ty = true) (hlam : e.op = 11 → ∃ n : Nat, e.num = n ∧ ∃ h : n < c.codes.length, (c.codes[n]).name = []) (hop : e.op = 11) : progRule c e = true ↔ RR c e = true := by
 have hvl := zaO c e.vars
 have hkl : (zaF c e.kids).length = e.kids.length := by simp [zaF]
 simp [progRule, za4, za9, restR, numR, parR, stR, stF, RR, refR4, refR5, refR6, refR7, refR9, hop, zaE, za8, zbr, zaO, zbn, cntL]
 obtain ⟨n, hn, hnl, hnm⟩ := hlam hop
 rw [hn, zsZ hnl]
 simp [hnl, hnm, za8, zbr, ztr hT]
 grind
theorem zFz (hx : ExIn c e) (hT : zax c.data 0 e.ty = true) (hop : e.op = 12) : progRule c e = true ↔ RR c e = true := by
 have hvl := zaO c e.vars
 have hkl : (zaF c e.kids).length = e.kids.length := by simp [zaF]
 simp [progRule, za4, za9, restR, numR, parR, stR, stF, RR, refR4, refR5, refR6, refR7, refR9, hop, zaE, za8, zbr, zaO, zbn, cntL]
 by_cases h0 : 0 ≤ e.num
 ·by_cases hl : e.num < c.codes.length
  ·obtain ⟨n, hn⟩ : ∃ n : Nat, e.num = n := ⟨e.num.toNat, by omega⟩
   have hnl : n < c.codes.length := by omega
   rw [hn, zsZ hnl]
   simp [hnl, za8, zbr]
   grind
  ·have : c.codes[e.num.toNat]? = none := List.getElem?_eq_none (by omega)
   simp [this, h0, hl]
 ·simp [h0]
theorem zFA (hx : ExIn c e) (hT : zax c.data 0 e.ty = true) (hop : e.op = 13) : progRule c e = true ↔ RR c e = true := by
 have hvl := zaO c e.vars
 have hkl : (zaF c e.kids).length = e.kids.length := by simp [zaF]
 simp [progRule, za4, za9, restR, numR, parR, stR, stF, RR, refR4, refR5, refR6, refR7, refR9, hop, zaE, za8, zbr, zaO, zbn, cntL]
 intro h0
 cases hv : e.vars with
 | nil => simp
 | cons v l =>
  have hvv := zkZ hx (v := v) (by simp [hv])
  simp [zan, hd0, ztr hvv]
  grind
theorem zFB (hx : ExIn c e) (hT : zax c.data 0 e.ty = true) (hop : e.op = 14) : progRule c e = true ↔ RR c e = true := by
 have hvl := zaO c e.vars
 have hkl : (zaF c e.kids).length = e.kids.length := by simp [zaF]
 simp [progRule, za4, za9, restR, numR, parR, stR, stF, RR, refR4, refR5, refR6, refR7, refR9, hop, zaE, za8, zbr, zaO, zbn, cntL]
 have t1 := zfu hT (k := 1) (by simp)
 have t2 := zfu hT (k := 2) (by simp)
 by_cases h6 : 6 ≤ e.num
 ·simp [h6, t2, za8]
  grind
 ·simp [h6, t1, za8]
  grind
theorem zFC (hx : ExIn c e) (hT : zax c.data 0 e.ty = true) (hop : e.op = 15) : progRule c e = true ↔ RR c e = true := by
 have hvl := zaO c e.vars
 have hkl : (zaF c e.kids).length = e.kids.length := by simp [zaF]
 simp [progRule, za4, za9, restR, numR, parR, stR, stF, RR, refR4, refR5, refR6, refR7, refR9, hop, zaE, za8, zbr, zaO, zbn, cntL]
 intro h0
 by_cases hv : e.vars.length = 2
 ·obtain ⟨a, b, hv'⟩ := zcq (l := e.vars) (by simp [hv])
  simp [hv', zan, hd0, hd1]
  intro h1
  constructor
  ·rintro ⟨h2, h3⟩
   rw [h3]
   exact ⟨rfl, h2, rfl⟩
  ·rintro ⟨h2, h3, h4⟩
   refine ⟨h3, ?_⟩
   rw [h4]
   exact zja hT (k := 7) (by simp) h2
 ·grind
theorem zFD (hx : ExIn c e) (hT : zax c.data 0 e.ty = true) (hop : e.op = 16) : progRule c e = true ↔ RR c e = true := by
 have hvl := zaO c e.vars
 have hkl : (zaF c e.kids).length = e.kids.length := by simp [zaF]
 simp [progRule, za4, za9, restR, numR, parR, stR, stF, RR, refR4, refR5, refR6, refR7, refR9, hop, zaE, za8, zbr, zaO, zbn, cntL]
 intro h0
 by_cases hv : e.vars.length = 2
 ·obtain ⟨a, b, hv'⟩ := zcq (l := e.vars) (by simp [hv])
  have hva := zkZ hx (v := a) (by simp [hv'])
  simp [hv', zan, hd0, hd1]
  have := fun h => zja hva (k := 7) (by simp) h
  grind
 ·grind
theorem zFE (hx : ExIn c e) (hT : zax c.data 0 e.ty = true) (hop : e.op = 17) : progRule c e = true ↔ RR c e = true := by
 have hvl := zaO c e.vars
 have hkl : (zaF c e.kids).length = e.kids.length := by simp [zaF]
 simp [progRule, za4, za9, restR, numR, parR, stR, stF, RR, refR4, refR5, refR6, refR7, refR9, hop, zaE, za8, zbr, zaO, zbn, cntL]
 intro h0
 by_cases hv : e.vars.length = 3
 ·obtain ⟨a, b, d, hv'⟩ := ztE (l := e.vars) (by simp [hv])
  have hva := zkZ hx (v := a) (by simp [hv'])
  simp [hv', zan, hd0, hd1]
  have := fun h => zja hva (k := 7) (by simp) h
  grind
 ·grind
theorem zFF (hx : ExIn c e) (hT : zax c.data 0 e.ty = true) (hop : e.op = 18) : progRule c e = true ↔ RR c e = true := by
 have hvl := zaO c e.vars
 have hkl : (zaF c e.kids).length = e.kids.length := by simp [zaF]
 simp [progRule, za4, za9, restR, numR, parR, stR, stF, RR, refR4, refR5, refR6, refR7, refR9, hop, zaE, za8, zbr, zaO, zbn, cntL, zfu hT (k := 1) (by simp)]
 intro h0
 by_cases hv : e.vars.length = 1
 ·obtain ⟨a, hv'⟩ := zcp (l := e.vars) (by simp [hv])
  simp [hv', zan, hd0, hd1]

 ·grind
theorem zFG (hx : ExIn c e) (hT : zax c.data 0 e.ty = true) (hop : e.op = 19) : progRule c e = true ↔ RR c e = true := by
 have hvl := zaO c e.vars
 have hkl : (zaF c e.kids).length = e.kids.length := by simp [zaF]
 simp [progRule, za4, za9, restR, numR, parR, stR, stF, RR, refR4, refR5, refR6, refR7, refR9, hop, zaE, za8, zbr, zaO, zbn, cntL]
 intro h0
 by_cases hv : e.vars.length = 1
 ·obtain ⟨a, hv'⟩ := zcp (l := e.vars) (by simp [hv])
  simp [hv', zan, hd0, hd1]
  intro h1
  constructor
  ·intro h2
   rw [h2]
   exact ⟨rfl, rfl⟩
  ·rintro ⟨h2, h3⟩
   rw [h3]
   exact zja hT (k := 8) (by simp) h2
 ·grind
theorem zFH (hx : ExIn c e) (hT : zax c.data 0 e.ty = true) (hop : e.op = 20) : progRule c e = true ↔ RR c e = true := by
 have hvl := zaO c e.vars
 have hkl : (zaF c e.kids).length = e.kids.length := by simp [zaF]
 simp [progRule, za4, za9, restR, numR, parR, stR, stF, RR, refR4, refR5, refR6, refR7, refR9, hop, zaE, za8, zbr, zaO, zbn, cntL]
 intro h0
 by_cases hv : e.vars.length = 1
 ·obtain ⟨a, hv'⟩ := zcp (l := e.vars) (by simp [hv])
  simp [hv', zan, hd0, hd1]
  grind
 ·grind
theorem zFI (hx : ExIn c e) (hT : zax c.data 0 e.ty = true) (hop : e.op = 21) : progRule c e = true ↔ RR c e = true := by
 have hvl := zaO c e.vars
 have hkl : (zaF c e.kids).length = e.kids.length := by simp [zaF]
 simp [progRule, za4, za9, restR, numR, parR, stR, stF, RR, refR4, refR5, refR6, refR7, refR9, hop, zaE, za8, zbr, zaO, zbn, cntL]
 intro h0
 by_cases hv : e.vars.length = 2
 ·obtain ⟨a, b, hv'⟩ := zcq (l := e.vars) (by simp [hv])
  have hva := zkZ hx (v := a) (by simp [hv'])
  simp [hv', zan, hd0, hd1]
  have := fun h => zja hva (k := 8) (by simp) h
  grind
 ·grind
theorem zFK (hx : ExIn c e) (hT : zax c.data 0 e.ty = true) (hop : e.op = 23) : progRule c e = true ↔ RR c e = true := by
 have hvl := zaO c e.vars
 have hkl : (zaF c e.kids).length = e.kids.length := by simp [zaF]
 simp [progRule, za4, za9, restR, numR, parR, stR, stF, RR, refR4, refR5, refR6, refR7, refR9, hop, zaE, za8, zbr, zaO, zbn, cntL]
 simp [hT]
 grind
theorem zFL (hx : ExIn c e) (hT : zax c.data 0 e.ty = true) (hop : e.op = 24) : progRule c e = true ↔ RR c e = true := by
 have hvl := zaO c e.vars
 have hkl : (zaF c e.kids).length = e.kids.length := by simp [zaF]
 simp [progRule, za4, za9, restR, numR, parR, stR, stF, RR, refR4, refR5, refR6, refR7, refR9, hop, zaE, za8, zbr, zaO, zbn, cntL]
 intro h0
 by_cases hk : e.kids.length = 2
 ·obtain ⟨k0, k1, hk'⟩ := zcq (l := e.kids) (by simp [hk])
  obtain ⟨b0, b1, hb'⟩ := zcq (l := e.binds) (by simp [hx.bk, hk])
  simp [hk', hb', zaF, bAt, hd0, hd1, zbQ, zan]
  grind
 ·grind
theorem zuk (hx : ExIn c e) (hT : zax c.data 0 e.ty = true) (hlam : e.op = 11 → ∃ n : Nat, e.num = n ∧ ∃ h : n < c.codes.length, (c.codes[n]).name = []) : progRule c e = true ↔ RR c e = true := by
 by_cases h1 : e.op = 1
 ·exact rl1 hx hT h1
 by_cases h2 : e.op = 2
 ·exact rl2 hx hT h2
 by_cases h3 : e.op = 3
 ·exact rl3 hx hT h3
 by_cases h4 : e.op = 4
 ·exact rl4 hx hT h4
 by_cases h5 : e.op = 5
 ·exact rl5 hx hT h5
 by_cases h6 : e.op = 6
 ·exact rl6 hx hT h6
 by_cases h7 : e.op = 7
 ·exact rl7 hx hT h7
 by_cases h8 : e.op = 8
 ·exact rl8 hx hT h8
 by_cases h9 : e.op = 9
 ·exact rl9 hx hT h9
 by_cases h10 : e.op = 10
 ·exact zFx hx hT h10
 by_cases h11 : e.op = 11
 ·exact zFy hx hT hlam h11
 by_cases h12 : e.op = 12
 ·exact zFz hx hT h12
 by_cases h13 : e.op = 13
 ·exact zFA hx hT h13
 by_cases h14 : e.op = 14
 ·exact zFB hx hT h14
 by_cases h15 : e.op = 15
 ·exact zFC hx hT h15
 by_cases h16 : e.op = 16
 ·exact zFD hx hT h16
 by_cases h17 : e.op = 17
 ·exact zFE hx hT h17
 by_cases h18 : e.op = 18
 ·exact zFF hx hT h18
 by_cases h19 : e.op = 19
 ·exact zFG hx hT h19
 by_cases h20 : e.op = 20
 ·exact zFH hx hT h20
 by_cases h21 : e.op = 21
 ·exact zFI hx hT h21
 by_cases h22 : e.op = 22
 ·exact zFJ hx hT h22
 by_cases h23 : e.op = 23
 ·exact zFK hx hT h23
 by_cases h24 : e.op = 24
 ·exact zFL hx hT h24
 have hp : progRule c e = false := by
  have h15' : ¬ (15 ≤ e.op ∧ e.op ≤ 21) := by omega
  simp [progRule, za4, za9, restR, stR, h1, h2, h3, h4, h5, h6, h7, h8, h9, h10, h11, h12, h13, h14, h15, h16, h17, h18, h19, h20, h21, h22, h23, h24]
  intro _ h1 h2
  omega
 have hr : RR c e = false := by simp [RR, refR4, refR5, refR6, refR7, refR9, h1, h2, h3, h4, h5, h6, h7, h8, h9, h10, h11, h12, h13, h14, h15, h16, h17, h18, h19, h20, h21, h22, h23, h24]
 rw [hp, hr]
end
def leB (s t : List Bool) : Prop := ∀ v : Nat, s.getD v false = true → t.getD v false = true
theorem zi6 (st : List Bool) (i v : Nat) (b : Bool) : (st.set i b).getD v false = if i = v ∧ v < st.length then b else st.getD v false := by
 rw [List.getD_eq_getElem?_getD, List.getElem?_set, List.getD_eq_getElem?_getD]
 by_cases h : i = v
 ·subst h
  by_cases h2 : i < st.length
  ·simp [h2]
  ·simp [h2]
 ·simp [h]
theorem zpm (l : List Int) : ∀ st v, (zaB st l false).getD v false = true → st.getD v false = true ∧ ∀ x ∈ l, x.toNat ≠ v := by
 induction l with
 | nil => intro st v h; exact ⟨h, by simp⟩
 | cons a l ih =>
  intro st v h
  rw [zkK] at h
  obtain ⟨h1, h2⟩ := ih _ _ h
  rw [zi6] at h1
  by_cases hh : a.toNat = v ∧ v < st.length
  ·rw [if_pos hh] at h1; cases h1
  ·rw [if_neg hh] at h1
   refine ⟨h1, fun x hx => ?_⟩
   rcases List.mem_cons.1 hx with rfl | hx
   ·intro e
    refine hh ⟨e, ?_⟩
    by_cases h3 : v < st.length
    ·exact h3
    ·rw [List.getD_eq_getElem?_getD, List.getElem?_eq_none (by omega)] at h1; simp at h1
   ·exact h2 x hx
theorem zhv (l : List Int) : ∀ st v, (zaB st l true).getD v false = true → st.getD v false = true ∨ ∃ x ∈ l, x.toNat = v := by
 induction l with
 | nil => intro st v h; exact .inl h
 | cons a l ih =>
  intro st v h
  rw [zkK] at h
  rcases ih _ _ h with h1 | ⟨x, hx, hv⟩
  ·rw [zi6] at h1
   by_cases hh : a.toNat = v ∧ v < st.length
   ·exact .inr ⟨a, by simp, hh.1⟩
   ·rw [if_neg hh] at h1; exact .inl h1
  ·exact .inr ⟨x, by simp [hx], hv⟩
theorem zus {s st : List Bool} {l : List Int} (h : leB s (zaB st l true)) : leB (zaB s l false) st := by
 intro v hv
 obtain ⟨h1, h2⟩ := zpm l _ _ hv
 rcases zhv l _ _ (h v h1) with h3 | ⟨x, hx, e⟩
 ·exact h3
 ·exact absurd e (h2 x hx)
theorem zHa {c : Cor} {m : Nat} (ih : ∀ i st st', za1 c m i st = some st' → leB st' st) : ∀ (bs : List (List Int)) (ks : List Int) (st st' : List Bool), zbA c m bs ks st = some st' → leB st' st := by
 intro bs
 induction bs with
 | nil => intro ks st st' h; rw [zbA] at h; cases h; exact fun v h => h
 | cons b bs ihb =>
  intro ks st st' h
  cases ks with
  | nil => rw [zbA] at h; cases h; exact fun v h => h
  | cons k ks =>
   rw [zbA] at h
   cases hv : za1 c m k.toNat (zaB st b true) with
   | none => rw [hv] at h; cases h
   | some s2 =>
    rw [hv] at h
    exact fun v h3 => zus (ih _ _ _ hv) v (ihb _ _ _ h v h3)
theorem zuZ (c : Cor) : ∀ (m i : Nat) (st st' : List Bool), za1 c m i st = some st' → leB st' st := by
 intro m
 induction m with
 | zero => intro i st st' h; rw [za1] at h; cases h
 | succ m ih =>
  intro i st st' h
  rw [za1] at h
  split at h
  ·cases h
  ·split at h
   ·exact zHa ih _ _ _ _ h
   ·cases h
theorem zDv {n : Nat} {s : List Bool} (hl : s.length = n) (h : leB s (List.replicate n false)) : s = List.replicate n false := by
 apply List.ext_getElem
 ·simpa using hl
 ·intro i h1 h2
  cases hs : s[i] with
  | false => simp
  | true =>
   have h3 := h i (by simp [h1, hs])
   have h4 : (List.replicate n false).getD i false = false := by
    rw [List.getD_eq_getElem?_getD, List.getElem?_replicate]
    split <;> rfl
   rw [h4] at h3; cases h3
theorem zpj (c : Cor) : ∀ fs : List Cod, zcv c fs (List.replicate c.vars.length false) = true ↔ ∀ f ∈ fs, ((za1 c c.exprs.length f.body.toNat (zcJ c f)).isSome = true)
 | [] => by simp [zcv]
 | f :: fs => by
  rw [zcv]
  cases hv : za1 c c.exprs.length f.body.toNat (zaB (zaB (List.replicate c.vars.length false) f.params true) f.capt true) with
  | none => simp [zcJ, hv]
  | some s =>
   have hle := zuZ c _ _ _ _ hv
   have hln := zpK c _ _ _ _ hv
   have h2 : leB (zaB (zaB s f.params false) f.capt false) (List.replicate c.vars.length false) := by
    intro v hv2
    obtain ⟨h3, h4⟩ := zpm _ _ _ hv2
    obtain ⟨h5, h6⟩ := zpm _ _ _ h3
    rcases zhv _ _ _ (hle v h5) with h7 | ⟨x, hx, e⟩
    ·rcases zhv _ _ _ h7 with h8 | ⟨x, hx, e⟩
     ·exact h8
     ·exact absurd e (h6 x hx)
    ·exact absurd e (h4 x hx)
   have h3 := zDv (by simp at hln ⊢; exact hln) h2
   simp only []
   rw [h3, zpj c fs]
   simp [zcJ, hv]
theorem zu1 (c : Cor) (m i : Nat) (st : List Bool) : (zbz c m i st).1 = true ↔ (za1 c m i st).isSome = true := by
 rw [zu0]
 cases (zbz c m i st).1 <;> simp
theorem zEv : ∀ (n : Nat) (S : List Int), (∀ i : Nat, i < n → (i : Int) ∈ S) → n ≤ S.length := by
 intro n
 induction n with
 | zero => intro S _; omega
 | succ n ih =>
  intro S h
  have hm := h n (by omega)
  have := ih (S.erase n) (fun i hi => (List.mem_erase_of_ne (by omega)).2 (h i (by omega)))
  rw [List.length_erase_of_mem hm] at this
  have := List.length_pos_of_mem hm
  omega
theorem zjY {n : Nat} {S : List Int} (hr : ∀ x ∈ S, 0 ≤ x ∧ x < n) : (∀ v : Nat, v < n → S.count (v : Int) = 1) ↔ S.Nodup ∧ S.length = n := by
 constructor
 ·intro h
  have hm : ∀ v : Nat, v < n → (v : Int) ∈ S := fun v hv => List.count_pos_iff.1 (by rw [h v hv]; omega)
  have hnd : S.Nodup := by
   rw [List.nodup_iff_count]
   intro a
   by_cases ha : a ∈ S
   ·obtain ⟨v, rfl⟩ : ∃ v : Nat, a = v := ⟨a.toNat, by have := hr a ha; omega⟩
    rw [h v (by have := hr _ ha; omega)]; omega
   ·rw [List.count_eq_zero_of_not_mem ha]; omega
  exact ⟨hnd, Nat.le_antisymm (zkz n S hnd hr) (zEv n S hm)⟩
 ·rintro ⟨h1, h2⟩ v hv
  have hm := ztW h1 hr h2 v hv
  have := List.nodup_iff_count.1 h1 (v : Int)
  have := List.count_pos_iff.2 hm
  omega
theorem zuV (c : Cor) : ∀ i, i ≤ c.exprs.length → (∀ j (h : j < c.exprs.length), (c.exprs[j]).op = 11 → 0 ≤ (c.exprs[j]).num ∧ (c.exprs[j]).num < c.codes.length) → zb2 c i = cnt c.codes.length (zb3 (c.exprs.take i)) := by
 intro i
 induction i with
 | zero => intro _ _; simp [zb2, zb3, zn7]
 | succ i ih =>
  intro hi hr
  have hlt : i < c.exprs.length := by omega
  rw [zpH hlt, ih (by omega) hr, ztD hlt]
  by_cases h11 : (c.exprs[i]).op = 11
  ·obtain ⟨h1, h2⟩ := hr i hlt h11
   obtain ⟨n, hn⟩ : ∃ n : Nat, (c.exprs[i]).num = n := ⟨(c.exprs[i]).num.toNat, by omega⟩
   have hnl : n < c.codes.length := by omega
   rw [zcw, if_pos h11, if_pos h11, hn, Int.toNat_natCast, ← zn8 _ hnl]
   congr 1
   rw [List.getD_eq_getElem?_getD, List.getElem?_eq_getElem (by simpa using hnl), Option.getD_some, zd5]
  ·rw [zcw, if_neg h11, if_neg h11, List.append_nil]
theorem zsY {n i : Nat} (S : List Int) (h : i < n) : (cnt n S).getD i 0 = ((S.count (i : Int) : Nat) : Int) := by
 rw [List.getD_eq_getElem?_getD, List.getElem?_eq_getElem (by simpa using h), Option.getD_some, zd5]
theorem lams_mem {l : List CEx} {n : Int} : n ∈ zb3 l ↔ ∃ e ∈ l, e.op = 11 ∧ e.num = n := by
 simp [zb3, and_assoc]
theorem zo6 {c : Cor} {e : CEx} (h11 : e.op = 11) (h : progRule c e = true) : ∃ n : Nat, e.num = n ∧ ∃ h : n < c.codes.length, (c.codes[n]).name = [] := by
 rw [progRule, if_pos (.inr (.inl h11)), numR] at h
 split at h
 ·cases h
 ·rename_i hn
  rw [if_neg (by omega), if_neg (by omega)] at h
  obtain ⟨n, hn'⟩ : ∃ n : Nat, e.num = n := ⟨e.num.toNat, by omega⟩
  refine ⟨n, hn', ?_⟩
  rw [hn', Int.toNat_natCast] at h
  by_cases hl : n < c.codes.length
  ·rw [List.getElem?_eq_getElem hl] at h
   simp only [] at h
   rw [if_neg (by omega)] at h
   simp only [Bool.and_eq_true, beq_iff_eq] at h
   exact ⟨hl, h.1.1⟩
  ·rw [List.getElem?_eq_none (by omega)] at h; cases h
theorem zEG {c : Cor} {e : CEx} (hx : ExIn c e) (h : progRule c e = true) : ∀ k ∈ e.kids, ety c k = e.ty ∨ zax c.data 0 (ety c k) = true := by
 intro k hk
 have hne : e.kids ≠ [] := by intro h; rw [h] at hk; cases hk
 have hkl : e.kids.length ≠ 0 := fun h => hne (List.eq_nil_of_length_eq_zero h)
 have hs : ∀ v, zaE e v 0 = false := fun v => by simp [zaE, hne]
 rw [progRule] at h
 split at h
 ·rw [numR, if_pos (.inl hkl)] at h; cases h
 ·simp only [hs, Bool.false_and] at h
  split at h
  ·cases h
  ·split at h
   ·cases h
   ·split at h
    ·cases h
    ·rw [restR] at h
     simp only [hs, Bool.false_and] at h
     split at h
     ·cases h
     ·split at h
      ·cases h
      ·split at h
       ·simp [zaE, hne] at h
       ·split at h
        ·cases h
        ·split at h
         ·cases h
         ·split at h
          ·simp [zaE, hne] at h
          ·split at h
           ·rw [parR] at h
            split at h
            ·simp only [Bool.and_eq_true, zbn, zbr] at h
             obtain ⟨h1, h2, h3, h4⟩ := h
             cases hks : e.kids with
             | nil => exact absurd hks hne
             | cons k0 l =>
              rw [hks] at hk h3 h4
              rcases List.mem_cons.1 hk with rfl | hk
              ·right
               have hb1 : inV c (e.binds.getD 1 []) := by
                rw [List.getD_eq_getElem?_getD]
                by_cases hb : 1 < e.binds.length
                ·rw [List.getElem?_eq_getElem hb]; exact hx.binds _ (List.getElem_mem hb)
                ·rw [List.getElem?_eq_none (by omega)]; intro x hx; cases hx
               have : ety c k ∈ zan c (e.binds.getD 1 []) := by rw [h3]; simp
               obtain ⟨v, hv, hv2⟩ := List.mem_map.1 this
               rw [← hv2]
               have := hb1 v hv
               obtain ⟨n, rfl⟩ : ∃ n : Nat, v = n := ⟨v.toNat, by omega⟩
               rw [zfx (by omega)]
               exact hx.vtys _ (List.getElem_mem _)
              ·exact .inl (h4 k (by simpa using hk))
            ·left
             split at h
             ·simp only [Bool.and_eq_true, zbn] at h; exact h.2.2.2 k hk
             ·split at h
              ·simp only [Bool.and_eq_true, zbn] at h; exact h.2.2.2 k hk
              ·split at h
               ·simp only [Bool.and_eq_true, zbn] at h; exact h.2.2.2 k hk
               ·simp only [Bool.and_eq_true, zbn] at h; exact h.2.2.2.2 k hk
           ·rw [stR] at h
            simp only [hs, Bool.false_and] at h
            split at h <;> cases h
theorem zFk {c : Cor} (hk : zaR c) (h : ProgV c) (hex : ∀ i (h : i < c.exprs.length), ExIn c c.exprs[i]) : ∀ i (hi : i < c.exprs.length), zax c.data 0 (c.exprs[i]).ty = true := by
 intro i
 induction i using Nat.strongRecOn with
 | _ i ih =>
  intro hi
  rcases zuL h.codes h.tree i hi with ⟨f, hf, hb⟩ | ⟨j, hj, hji, hm⟩
  ·obtain ⟨k, hk, rfl⟩ := List.getElem_of_mem hf
   obtain ⟨_, _, _, hres, b, h1, h2, h3⟩ := h.codes k hk
   obtain rfl : b = i := by omega
   rw [za8] at h3
   rw [h3]; exact hres
  ·have := zEG (hex j hj) (h.exprs.rule j hj) _ hm
   rw [zof hi] at this
   rcases this with h1 | h1
   ·rw [h1]; exact ih j hji hj
   ·exact h1
theorem ztS (l : List Cod) : (nms l).Nodup ↔ ∀ i j (hi : i < l.length) (hj : j < l.length), i < j → (l[j]).name ≠ [] → (l[i]).name ≠ (l[j]).name := by
 rw [nms, List.Nodup, List.pairwise_filter, List.pairwise_map, List.pairwise_iff_getElem]
 constructor
 ·intro h i j hi hj hij hn e
  have hn' : (!(l[j]).name.isEmpty) = true := by simpa using hn
  exact h i j hi hj hij (by rw [e]; exact hn') hn' e
 ·intro h i j hi hj hij h1 h2 e
  exact h i j hi hj hij (by simpa using h2) e
theorem zpI (c : Cor) (hk : zaR c) : ProgV c ↔ RefV c := by
 have hk' := hk
 obtain ⟨k1, k2, k3, ⟨k4, k5⟩, k6, k7⟩ := hk'
 have hvar : zeM c = true ↔ ∀ v ∈ c.vars, zax c.data 0 v = true := by
  have : c.vars.length ≤ 3000 := by omega
  simp [zeM, this]
 constructor
 ·intro h
  have hex := zog hk h.vars h.codes h.tree h.bind (fun i hi => zuY (zuX h.codes h.tree h.scopes i hi) hi)
  have hty := zFk hk h hex
  have hlr : ∀ j (hj : j < c.exprs.length), (c.exprs[j]).op = 11 → 0 ≤ (c.exprs[j]).num ∧ (c.exprs[j]).num < c.codes.length := fun j hj h11 => by
   obtain ⟨n, hn, hl, _⟩ := zo6 h11 (h.exprs.rule j hj)
   omega
  have huse : zb2 c c.exprs.length = cnt c.codes.length (zb3 c.exprs) := by
   have := zuV c c.exprs.length (Nat.le_refl _) hlr
   rwa [List.take_length] at this
  refine ⟨(zs7 _).1 h.data, hvar.1 h.vars, fun i hi => ?_, ?_, fun i hi => ?_, (zjY h.bind.range).2 ⟨h.bind.nodup, h.bind.len⟩, (zjY (zuM h.codes h.tree)).2 ⟨h.tree.nodup, h.tree.len⟩, fun i hi => ?_, fun i hi => ?_, fun i hi => ?_⟩
  ·obtain ⟨_, q1, q2, q3, q4⟩ := h.codes i hi
   obtain ⟨r1, r2⟩ := znY h.bind _ (List.getElem_mem hi)
   refine ⟨fun hn hi1 => ?_, fun hn => (q1 hn).2.2, q2, q3, r1, r2, q4⟩
   obtain ⟨_, p1, _⟩ := h.codes (i + 1) hi1
   by_cases hh : (c.codes[i + 1]).name = []
   ·exact hh
   ·exact absurd hn ((p1 hh).1 i (by omega))
  ·rw [ztS]
   intro i j hi hj hij hn
   obtain ⟨_, p1, _⟩ := h.codes j hj
   exact (p1 hn).2.1 i hij
  ·have hx := hex i hi
   exact ⟨fun k hk => (h.tree.kids i hi k hk).1, hx.kids, hx.bk, hx.binds, hx.vars, fun h11 => hlr i hi h11⟩
  ·by_cases hn : (c.codes[i]).name = []
   ·rw [if_pos hn]
    have := h.exprs.uses i hi hn
    rw [huse, zsY _ hi] at this
    omega
   ·rw [if_neg hn]
    refine List.count_eq_zero_of_not_mem fun hm => ?_
    obtain ⟨e, he, h11, hnum⟩ := lams_mem.1 hm
    obtain ⟨j, hj, rfl⟩ := List.getElem_of_mem he
    obtain ⟨n, hn1, hl, hn2⟩ := zo6 h11 (h.exprs.rule j hj)
    obtain rfl : n = i := by omega
    exact hn hn2
  ·rw [zdv, hty i hi, Bool.true_and]
   exact (zuk (hex i hi) (hty i hi) (fun h11 => zo6 h11 (h.exprs.rule i hi))).1 (h.exprs.rule i hi)
  ·rw [zu1]
   exact (zpj c c.codes).1 h.scopes _ (List.getElem_mem hi)
 ·intro h
  have hempty : ∀ i j (hj : j < c.codes.length) (hij : i ≤ j), (c.codes[i]).name = [] → (c.codes[j]).name = [] := by
   intro i j hj hij hn
   induction j with
   | zero => obtain rfl : i = 0 := by omega
             exact hn
   | succ j ih =>
    by_cases e : i = j + 1
    ·subst e; exact hn
    ·have := ih (by omega) (by omega) hn
     exact (h.codes j (by omega)).order this hj
  have hcod : zdn c := fun i hi => by
   obtain ⟨q1, q2, q3, q4, q5, q6, q7⟩ := h.codes i hi
   refine ⟨hi, fun hn => ⟨fun j hj hn2 => hn (hempty j i hi (by omega) hn2), fun j hj => (ztS c.codes).1 h.names j i (by omega) hi hj hn, q2 hn⟩, q3, q4, q7⟩
  have htr : ∀ x ∈ zbI c, 0 ≤ x ∧ x < (c.exprs.length : Int) := by
   intro x hx
   rw [zbI] at hx
   rcases List.mem_append.1 hx with h1 | h1
   ·obtain ⟨f, hf, rfl⟩ := List.mem_map.1 h1
    obtain ⟨i, hi, rfl⟩ := List.getElem_of_mem hf
    obtain ⟨b, hb, hbl, _⟩ := (h.codes i hi).body
    omega
   ·obtain ⟨e, he, hx⟩ := List.mem_flatMap.1 h1
    obtain ⟨i, hi, rfl⟩ := List.getElem_of_mem he
    exact (h.exprs i hi).range x hx
  obtain ⟨ht1, ht2⟩ := (zjY htr).1 h.placed
  have htree : TreeP c := ⟨fun i hi => (h.exprs i hi).bk, fun i hi k hk => ⟨(h.exprs i hi).kids k hk, ((h.exprs i hi).range k hk).2⟩, ht1, ht2⟩
  have hbr : ∀ x ∈ zbS c, 0 ≤ x ∧ x < (c.vars.length : Int) := by
   intro x hx
   rw [zbS] at hx
   rcases List.mem_append.1 hx with h1 | h1
   ·obtain ⟨f, hf, hx⟩ := List.mem_flatMap.1 h1
    obtain ⟨i, hi, rfl⟩ := List.getElem_of_mem hf
    rcases List.mem_append.1 hx with h2 | h2
    ·exact (h.codes i hi).rp x h2
    ·exact (h.codes i hi).rc x h2
   ·obtain ⟨e, he, hx⟩ := List.mem_flatMap.1 h1
    obtain ⟨i, hi, rfl⟩ := List.getElem_of_mem he
    obtain ⟨l, hl, hx⟩ := List.mem_flatten.1 hx
    exact (h.exprs i hi).binds l hl x hx
  obtain ⟨hb1, hb2⟩ := (zjY hbr).1 h.bound
  have hbind : BindP c := ⟨hbr, hb1, hb2⟩
  have hex := zog hk (hvar.2 h.vars) hcod htree hbind (fun i hi => (h.exprs i hi).vars)
  have hty : ∀ i (hi : i < c.exprs.length), zax c.data 0 (c.exprs[i]).ty = true ∧ RR c c.exprs[i] = true := fun i hi => by
   have := h.rules i hi
   rw [zdv, Bool.and_eq_true] at this
   exact this
  have huse : zb2 c c.exprs.length = cnt c.codes.length (zb3 c.exprs) := by
   have := zuV c c.exprs.length (Nat.le_refl _) (fun j hj h11 => (h.exprs j hj).lam h11)
   rwa [List.take_length] at this
  refine ⟨(zs7 _).2 h.data, hvar.2 h.vars, hcod, htree, hbind, (zpj c c.codes).2 fun f hf => ?_, fun i hi => ?_, fun i hi hn => ?_⟩
  ·obtain ⟨i, hi, rfl⟩ := List.getElem_of_mem hf
   rw [← zu1]; exact h.scopes i hi
  ·refine (zuk (hex i hi) (hty i hi).1 (fun h11 => ?_)).2 (hty i hi).2
   obtain ⟨l1, l2⟩ := (h.exprs i hi).lam h11
   refine ⟨(c.exprs[i]).num.toNat, by omega, by omega, ?_⟩
   have hm := h.made (c.exprs[i]).num.toNat (by omega)
   by_cases hn : (c.codes[(c.exprs[i]).num.toNat]'(by omega)).name = []
   ·exact hn
   ·rw [if_neg hn] at hm
    have hmem : (((c.exprs[i]).num.toNat : Nat) : Int) ∈ zb3 c.exprs := lams_mem.2 ⟨_, List.getElem_mem hi, h11, by omega⟩
    have := List.count_pos_iff.2 hmem
    omega
  ·rw [huse, zsY _ hi, h.made i hi, if_pos hn]; rfl
end Go.Proofs.Ytkdmpbhbmmhijaa
namespace Go.Proofs.Ytkdmpbhbmmhijaa
open Go Go.Abs
set_option maxRecDepth 100000
noncomputable def zxy : Code := Try.f20.body.getD .skip
noncomputable def zJK : List ResultVar := Try.f20.results.toList
end Go.Proofs.Ytkdmpbhbmmhijaa
namespace Go.Proofs.Ytkdmpbhbmmhijaa
open Go Go.Abs
set_option maxRecDepth 8000
def zjV : List AV := [.str [102], .sl [] .none, .sl [] .none, .int .i64 1, .int .i64 0, .sl [] .none, .int .i64 0]
def zex (n : Int) : List AV := [.int .i64 3, .int .i64 n, .sl [] .none, .sl [] .none, .sl [] .none, .int .i64 1, .int .i64 0, .sl [] .none]
def c1 (n : Int) : Cor := ⟨[], [⟨[102], [], [], sm 1, 0⟩], [], [⟨3, n, [], [], [], sm 1⟩]⟩
theorem zDV (n : Int) : (c1 n).cs = [.sl [] .none, .sl [zjV] .none, .sl [] .none, .sl [zex n] .none] := rfl
theorem zsQ (n : Int) : zaR (c1 n) := by
 refine ⟨⟨by simp [c1], by simp [c1]⟩, by simp [c1], by simp [c1], ⟨by simp [c1], by simp [c1]⟩, ?_, ?_⟩
 ·intro f hf
  simp [c1] at hf
  subst hf
  exact ⟨by simp, by simp, by simp, by simp [sm, VT.nodes, VT.nodesL]⟩
 ·intro e he
  simp [c1] at he
  subst he
  exact ⟨by simp, by simp, by simp, by simp [sm, VT.nodes, VT.nodesL], by simp⟩
theorem zDU (n : Int) : zdn (c1 n) := by
 intro i hi
 have h0 : i = 0 := by simp [c1] at hi; omega
 subst h0
 refine ⟨hi, fun _ => ⟨fun j hj => by omega, fun j hj => by omega, rfl⟩, by simp [c1], by simp [c1, zax, sm, VT.nodes, VT.nodesL, zbs, zbt, za6], 0, rfl, by simp [c1], by simp [c1, za8]⟩
theorem zDW : ProgV (c1 1) := by
 refine ⟨rfl, rfl, zDU 1, ⟨?_, ?_, ?_, rfl⟩, ⟨?_, ?_, rfl⟩, ?_, ?_, ?_⟩
 ·intro i h
  have h0 : i = 0 := by simp [c1] at h; omega
  subst h0; rfl
 ·intro i h k hk
  have h0 : i = 0 := by simp [c1] at h; omega
  subst h0
  simp [c1] at hk
 ·simp [c1, zbI]
 ·intro x hx; simp [c1, zbS] at hx
 ·simp [c1, zbS]
 ·simp [c1, zcv, za1, zbA]
 ·intro i h
  have h0 : i = 0 := by simp [c1] at h; omega
  subst h0
  simp [c1, progRule, za4, zaE, za8]
 ·intro i h hn
  have h0 : i = 0 := by simp [c1] at h; omega
  subst h0
  simp [c1] at hn
theorem zsO {a b : Bool} (h : a = true ↔ b = true) : a = b := by cases a <;> cases b <;> simp_all
open Classical in
noncomputable def vOk (c : Cor) : Bool := decide (ProgV c)
theorem zkV (c : Cor) : vOk c = true ↔ ProgV c := by simp [vOk]
theorem zIC (c : Cor) (hc : zaR c) (H : zaa) (K : Kt) (hK : K (.bool (vOk c)) H) : ACalls tP zhi [.agg c.cs] H K :=
 zqd c hc H K fun b hb => by rw [zsO (hb.trans (zkV c).symm)]; exact hK
theorem zI9 (c : Cor) (hc : zaR c) (H : zaa) (K : Kt) (hK : K (.bool (vOk c)) H) : ACalls tP zkg [.agg c.cs] H K :=
 zJG c hc H K fun b hb => by rw [zsO (hb.trans ((zpI c hc).symm.trans (zkV c).symm))]; exact hK
end Go.Proofs.Ytkdmpbhbmmhijaa
namespace Go.Proofs.Ytkdmpbhbmmhijaa
open Go Go.Abs
set_option maxRecDepth 100000
def zia : Nat → List Bool
 | 1 => rl false [0,1,1,1,5,3,8]
 | _ => []
noncomputable def zmL : Code := Try.f57.body.getD .skip
noncomputable def zAh : List ResultVar := Try.f57.results.toList
def zgG (t0 t2 t8 t9 t10 : AV) : List AV := t0 :: ux 1 (t2 :: ux 5 (t8 :: t9 :: t10 :: ux 8 []))
def zAg : List Bool := zia 1
noncomputable def zAe : Code := zap [1, 0, 0] zmL
def zAd (K : Kt) : AExit → List AV → zaa → Prop := zaq tP zia [1, 0] zmL (zal tP zAh K)
def zAf (t0 t2 t8 t9 t10 : AV) (H : zaa) (K : Kt) : Prop := ALoop tP zAe (zAd K) (zgG t0 t2 t8 t9 t10) H
def zmK (t0 t2 t8 t9 t10 : AV) (H : zaa) (K : Kt) (Kb1 : Lt) : Prop :=
 zad .lss false t10 t9 fun t11 =>
 zag t11
 (zaj 1 t8 t10 fun t12 =>
 zae false 1 t12 H fun t13 =>
 zaj 1 t0 t13 fun t17 =>
 zas 1 t17 t2 H fun H =>
 zad .add false t10 (.int .i64 1) fun t18 =>
 Kb1 (zgG t0 t2 t8 t9 t18) H)
 (zaY [] (K · H))
def zrA (t0 t1 t2 : AV) (H : zaa) (K : Kt) : Prop :=
 zak 1 t1 fun t9 =>
 zAf t0 t2 t1 t9 (.int .i64 0) H K
theorem zMk (t0 t2 t8 t9 t10 : AV) (H : zaa) (K : Kt) (Kb1 : Lt) : awp tP zia zAe (zat zAg Kb1 (zAd K)) (zgG t0 t2 t8 t9 t10) H = zmK t0 t2 t8 t9 t10 H K Kb1 := by kernel_rfl
theorem zMm {t0 t2 t8 t9 t10 : AV} {H : zaa} {K : Kt} (Inv : Nat → AV → zaa → Prop) (n : Nat) (h0 : HSc H → Inv n t10 H)
  (round : ∀ n t10 H', Inv n t10 H' → HSc H' → H.length ≤ H'.length → (zgG t0 t2 t8 t9 t10).all (AV.sc H'.length) = true → ∀ Kb1 : Lt, (∀ F'' H'', (∃ n', n' < n ∧ Back H.length (fun F2 H2 => ∃ t10, F2 = zgG t0 t2 t8 t9 t10 ∧ Inv n' t10 H2) F'' H'') → Kb1 F'' H'') → zmK t0 t2 t8 t9 t10 H' K Kb1) : zAf t0 t2 t8 t9 t10 H K :=
 zav (M := zia) zAg (fun n F H => ∃ t10, F = zgG t0 t2 t8 t9 t10 ∧ Inv n t10 H) n (fun hs _ => ⟨t10, rfl, h0 hs⟩) (fun n F H' ⟨t10, hF, hI⟩ h1 h2 h3 => by subst hF; rw [zMk]; exact round n t10 H' hI h1 h2 h3 _ (fun _ _ h => h))
theorem zMl (t0 t1 t2 : AV) (H : zaa) (K : Kt) : awp tP zia zmL (zal tP zAh K) (t0 :: t1 :: t2 :: List.replicate 16 .unk) H = zrA t0 t1 t2 H K := by kernel_rfl
theorem zMn {t0 t1 t2 : AV} {H : zaa} {K : Kt} (h : HSc H → zrA t0 t1 t2 H K) : ACalls tP zeB [t0, t1, t2] H K :=
 zaw (M := zia) Try.func57 (c := zmL) (by kernel_rfl) (fun hs => (zMl t0 t1 t2 H K).mpr (h hs))
def zib : Nat → List Bool
 | 3 => rl false [3,1,2,3,11]
 | _ => []
noncomputable def zmM : Code := Try.f58.body.getD .skip
noncomputable def zAl : List ResultVar := Try.f58.results.toList
def zeU (t3 t6 t7 t8 : AV) : List AV := ux 3 (t3 :: ux 2 (t6 :: t7 :: t8 :: ux 11 []))
def zAk : List Bool := zib 3
noncomputable def zAj : Code := zap [1, 1, 0, 1, 0, 0] zmM
def zAi (K : Kt) : AExit → List AV → zaa → Prop := zaq tP zib [1, 1, 0, 1, 0] zmM (zal tP zAl K)
def zmO (t3 t6 t7 t8 : AV) (H : zaa) (K : Kt) : Prop := ALoop tP zAj (zAi K) (zeU t3 t6 t7 t8) H
def zrC (t3 t6 t7 t8 : AV) (H : zaa) (K : Kt) (Kb3 : Lt) : Prop :=
 zad .add false t8 (.int .i64 1) fun t18 =>
 Kb3 (zeU t3 t6 t7 t18) H
def zmN (t3 t6 t7 t8 : AV) (H : zaa) (K : Kt) (Kb3 : Lt) : Prop :=
 zrC t3 t6 t7 t8 H K Kb3
def zjx (t3 t6 t7 t8 : AV) (H : zaa) (K : Kt) (Kb3 : Lt) : Prop :=
 zad .lss false t8 t7 fun t9 =>
 zag t9
 (zaj 1 t6 t8 fun t11 =>
 zae false 1 t11 H fun t12 =>
 zag t12
 (zaA 1 [(.int .i64 0)] 1 [(0, t8)] fun t16 =>
 zaJ ziJ 1 8 t3 t16 H fun t17 H =>
 zmN t17 t6 t7 t8 H K Kb3)
 (zmN t3 t6 t7 t8 H K Kb3))
 (K t3 H)
def zrB (t0 : AV) (H : zaa) (K : Kt) : Prop :=
 zak 1 t0 fun t7 =>
 zmO .snil t0 t7 (.int .i64 0) H K
theorem zMo (t3 t6 t7 t8 : AV) (H : zaa) (K : Kt) (Kb3 : Lt) : awp tP zib zAj (zat zAk Kb3 (zAi K)) (zeU t3 t6 t7 t8) H = zjx t3 t6 t7 t8 H K Kb3 := by kernel_rfl
theorem zMq {t3 t6 t7 t8 : AV} {H : zaa} {K : Kt} (Inv : Nat → AV → AV → zaa → Prop) (n : Nat) (h0 : HSc H → Inv n t3 t8 H)
  (round : ∀ n t3 t8 H', Inv n t3 t8 H' → HSc H' → H.length ≤ H'.length → (zeU t3 t6 t7 t8).all (AV.sc H'.length) = true → ∀ Kb3 : Lt, (∀ F'' H'', (∃ n', n' < n ∧ Back H.length (fun F2 H2 => ∃ t3 t8, F2 = zeU t3 t6 t7 t8 ∧ Inv n' t3 t8 H2) F'' H'') → Kb3 F'' H'') → zjx t3 t6 t7 t8 H' K Kb3) : zmO t3 t6 t7 t8 H K :=
 zav (M := zib) zAk (fun n F H => ∃ t3 t8, F = zeU t3 t6 t7 t8 ∧ Inv n t3 t8 H) n (fun hs _ => ⟨t3, t8, rfl, h0 hs⟩) (fun n F H' ⟨t3, t8, hF, hI⟩ h1 h2 h3 => by subst hF; rw [zMo]; exact round n t3 t8 H' hI h1 h2 h3 _ (fun _ _ h => h))
theorem zMp (t0 : AV) (H : zaa) (K : Kt) : awp tP zib zmM (zal tP zAl K) (t0 :: List.replicate 19 .unk) H = zrB t0 H K := by kernel_rfl
theorem zMr {t0 : AV} {H : zaa} {K : Kt} (h : HSc H → zrB t0 H K) : ACalls tP zkm [t0] H K :=
 zaw (M := zib) Try.func58 (c := zmM) (by kernel_rfl) (fun hs => (zMp t0 H K).mpr (h hs))
end Go.Proofs.Ytkdmpbhbmmhijaa
namespace Go.Proofs.Ytkdmpbhbmmhijaa
open Go Go.Abs
set_option maxRecDepth 8000
theorem zhr {H : zaa} {id n : Nat} {l : List Int} {st : List Bool} {b : Bool} (hid : H[id]? = some (boB st)) (hst : st.length = n) (hl : l.length ≤ 1000000) (hr : ∀ x ∈ l, 0 ≤ x ∧ x < (n : Int)) (K : Kt)
  (hK : K (.tup []) (H.set id (boB (zaB st l b)))) : ACalls tP zeB [.ms id 0 n n, .sl (ints l) .none, .bool b] H K := by
 refine zMn fun hs => ?_
 have hil := zbW hid
 simp [zrA]
 refine zMm (Inv := fun q t10 H' => ∃ j : Nat, j ≤ l.length ∧ q = l.length - j ∧ t10 = .int .i64 j ∧ H' = H.set id (boB (zaB st (l.take j) b))) l.length ?_ ?_
 ·intro _; exact ⟨0, by omega, by omega, rfl, by simp [zaB, zec hid]⟩
 ·rintro q t10 H' ⟨j, hj, rfl, rfl, rfl⟩ hsc hlen hsF Kb hKb
  have hg : ∀ st, (H.set id (boB st))[id]? = some (.cells (zaV st)) := fun us => by rw [zc3 _ hid]; rfl
  by_cases hjl : j < l.length
  ·have hrr := hr _ (List.getElem_mem hjl)
   obtain ⟨e, he⟩ : ∃ e : Nat, l[j] = e := ⟨(l[j]).toNat, by omega⟩
   have hen : e < n := by omega
   have hnx : zaB st (l.take (j + 1)) b = (zaB st (l.take j) b).set e b := by rw [zbR hjl, zpo, he]; rfl
   have hsl : (zaB st (l.take j) b).length = n := by rw [zpn, hst]
   generalize zaB st (l.take j) b = st1 at *
   simp [zmK, hjl, he, hen, hg, hsl]
   rw [zar (by omega) (by omega), zer (by omega)]
   refine ⟨by omega, hKb _ _ ⟨l.length - (j + 1), by omega, Back.here (by simp) (hs.set (by simp [AB.sc, zdp])) ?_ ⟨_, rfl, j + 1, by omega, rfl, by simp, by rw [hnx]; rfl⟩⟩⟩
   simp [zgG, AV.sc, AV.scV, AV.scA, AV.scB]; omega
  ·obtain rfl : j = l.length := by omega
   rw [List.take_length] at *
   simp [zmK]
   simpa [zaY] using hK
def mem (st : List Bool) : List Int := ((List.range st.length).filter fun i => st.getD i false).map fun (i : Nat) => (i : Int)
def zdg (st : List Bool) (k : Nat) : List Int := ((List.range k).filter fun i => st.getD i false).map fun (i : Nat) => (i : Int)
theorem zEU (st : List Bool) (k : Nat) : zdg st (k + 1) = zdg st k ++ (if st.getD k false = true then [(k : Int)] else []) := by
 rw [zdg, List.range_succ, List.filter_append, List.map_append, zdg]
 cases h : st.getD k false with
 | false =>
  have h' : st[k]?.getD false = false := by simpa using h
  simp [List.filter_cons, h']
 | true =>
  have h' : st[k]?.getD false = true := by simpa using h
  simp [List.filter_cons, h']
theorem ztK (st : List Bool) (k : Nat) : (zdg st k).length ≤ k := by
 rw [zdg, List.length_map]
 exact Nat.le_trans (List.length_filter_le _ _) (by simp)
theorem zAm {H : zaa} {id n : Nat} {st : List Bool} (hid : H[id]? = some (boB st)) (hst : st.length = n) (hn : n ≤ 1000000) (K : Kt) (hK : K (.sl (ints (mem st)) .none) H) : ACalls tP zkm [.ms id 0 n n] H K := by
 refine ACalls.out (zMr fun hs => ?_)
 have hil := zbW hid
 have hgJ : ∀ J, (H ++ J)[id]? = some (.cells (zaV st)) := fun J => zaT hid
 subst hst
 simp [zrB]
 unfold zmO
 refine ALoop.own 3 ziJ 1 rfl ?_
 show zmO (.sl [] (.own H.length)) (.ms id 0 st.length st.length) (.int .i64 st.length) (.int .i64 0) (H ++ [.perm ziJ 1 0]) (Out H.length K)
 refine zMq (Inv := fun q t3 tI H' => ∃ i : Nat, i ≤ st.length ∧ q = st.length - i ∧ tI = .int .i64 i ∧ t3 = .sl (ints (zdg st i)) (.own H.length) ∧ H' = H ++ [.perm ziJ 1 (zdg st i).length]) st.length ?_ ?_
 ·intro _; exact ⟨0, by omega, by omega, rfl, by simp [zdg, ints], by simp [zdg]⟩
 rintro q t3 tI H' ⟨i, hi, rfl, rfl, rfl, rfl⟩ hsc hlen hsF Kb hKb
 have hml := ztK st i
 by_cases hlt : i < st.length
 ·have hsu := zEU st i
  have hgd : st.getD i false = st[i] := by rw [List.getD_eq_getElem?_getD, List.getElem?_eq_getElem hlt]; rfl
  rw [hgd] at hsu
  have back : ∀ l, zdg st (i + 1) = l → Kb (zeU (.sl (ints l) (.own H.length)) (.ms id 0 st.length st.length) (.int .i64 st.length) (.int .i64 ((i : Int) + 1))) (H ++ [.perm ziJ 1 l.length]) := fun l h => by
   subst h
   refine hKb _ _ ⟨st.length - (i + 1), by omega, Back.here (by simp) (hs.append rfl) ?_ ⟨_, _, rfl, i + 1, by omega, rfl, by simp, rfl, rfl⟩⟩
   simp [zeU, AV.sc, AV.scV, AV.scA, AV.scB]; omega
  cases hb : st[i] with
  | false =>
   rw [hb, if_neg (by simp), List.append_nil] at hsu
   have := back _ hsu
   simp [zjx, zmN, zrC, hlt, hgJ, zaP, hb]
   rw [zar (by omega) (by omega)]
   exact this
  | true =>
   rw [hb, if_pos rfl] at hsu
   have := back _ hsu
   simp [zjx, zmN, zrC, hlt, hgJ, zaP, hb]
   rw [show ∀ k : AV → Prop, zaA 1 [.int .i64 0] 1 [(0, .int .i64 (i : Int))] k = k (.sl [[.int .i64 (i : Int)]] .full) from fun k => propext Iff.rfl]
   simp [zaJ, zbH, zbh]
   refine ⟨⟨by omega, by omega⟩, ?_⟩
   rw [zar (by omega) (by omega)]
   simpa [ints] using this
 ·obtain rfl : i = st.length := by omega
  simp [zjx]
  exact Out.one hs (.atom (.sl _ _)) rfl rfl hK
def tk (e : CEx) : List Int := if e.op = 7 then [e.kids.getD 1 0] else if e.op = 8 ∨ e.op = 9 ∨ e.op = 10 ∨ e.op = 24 then e.kids else []
def lf (e : CEx) : Bool := !(e.op == 7 || e.op == 8 || e.op == 9 || e.op == 10 || e.op == 24)
def zpy (c : Cor) (i : Nat) : List Int := match c.exprs[i]? with | some e => tk e | none => []
inductive TR (c : Cor) (b : Nat) : Nat → Prop
 | base : TR c b b
 | step {p v : Nat} (h : TR c b p) (hk : (v : Int) ∈ zpy c p) : TR c b v
theorem TR.front {c : Cor} {b k v : Nat} (hk : (k : Int) ∈ zpy c b) (h : TR c k v) : TR c b v := by
 induction h with
 | base => exact .step .base hk
 | step h hk2 ih => exact .step ih hk2
structure TkP (c : Cor) : Prop where
 up : ∀ i, i < c.exprs.length → ∀ k ∈ zpy c i, (i : Int) < k ∧ k < c.exprs.length
theorem zF8 (l : List Int) : ∀ (st : List Bool), (∀ x ∈ l, 0 ≤ x ∧ x < (st.length : Int)) → ∀ v, (zaB st l true).getD v false = true ↔ st.getD v false = true ∨ (v : Int) ∈ l := by
 induction l with
 | nil => intro st _ v; simp [zaB]
 | cons a l ih =>
  intro st hr v
  have ha := hr a (by simp)
  rw [zkK, ih _ (fun x hx => by simpa using hr x (by simp [hx])) v, zi6]
  by_cases hv : a.toNat = v ∧ v < st.length
  ·rw [if_pos hv]
   have : (v : Int) = a := by omega
   simp [this]
  ·rw [if_neg hv]
   have : ¬ (v : Int) = a := by intro h; exact hv (by omega)
   simp [this]
def zcz (c : Cor) (p : Nat) : List Int := match c.exprs[p]? with | some e => e.kids | none => []
def zcm (c : Cor) (p : Nat) : List (List Int) := match c.exprs[p]? with | some e => e.binds | none => []
def zch (c : Cor) (p : Nat) : List Int := match c.exprs[p]? with | some e => e.vars | none => []
def Kid (c : Cor) (p k j : Nat) : Prop := (zcz c p)[k]? = some (j : Int)
def Bind (c : Cor) (p k : Nat) (v : Int) : Prop := ∃ l, (zcm c p)[k]? = some l ∧ v ∈ l
def zc5 (c : Cor) (i j : Nat) : Prop := ∃ h : i < c.codes.length, (c.codes[i]).body = (j : Int)
def Par (c : Cor) (i : Nat) (v : Int) : Prop := ∃ h : i < c.codes.length, v ∈ (c.codes[i]).params ++ (c.codes[i]).capt
inductive InS (c : Cor) : Nat → Int → Prop
 | root {i j : Nat} {v : Int} (hr : zc5 c i j) (hv : Par c i v) : InS c j v
 | bind {p k j : Nat} {v : Int} (hk : Kid c p k j) (hv : Bind c p k v) : InS c j v
 | up {p k j : Nat} {v : Int} (hk : Kid c p k j) (h : InS c p v) : InS c j v
inductive Sub (c : Cor) (e : Nat) : Nat → Prop
 | refl : Sub c e e
 | step {p k j : Nat} (h : Sub c e p) (hk : Kid c p k j) : Sub c e j
theorem Sub.trans {c : Cor} {a b d : Nat} (h : Sub c a b) (h2 : Sub c b d) : Sub c a d := by
 induction h2 with
 | refl => exact h
 | step _ hk ih => exact .step ih hk
theorem Sub.front {c : Cor} {e j : Nat} (h : Sub c e j) : j = e ∨ ∃ k m, Kid c e k m ∧ Sub c m j := by
 induction h with
 | refl => exact .inl rfl
 | step h hk ih =>
  rcases ih with rfl | ⟨k, m, h1, h2⟩
  ·exact .inr ⟨_, _, hk, .refl⟩
  ·exact .inr ⟨k, m, h1, .step h2 hk⟩
structure TreeC (c : Cor) : Prop where
 lt : ∀ {p k j : Nat}, Kid c p k j → p < j ∧ j < c.exprs.length
 uni : ∀ {p k p' k' j : Nat}, Kid c p k j → Kid c p' k' j → p = p' ∧ k = k'
 nob : ∀ {p k j i : Nat}, Kid c p k j → ¬ zc5 c i j
 bod : ∀ {i i' j : Nat}, zc5 c i j → zc5 c i' j → i = i'
 blt : ∀ {i j : Nat}, zc5 c i j → j < c.exprs.length
 ex : ∀ {j : Nat}, j < c.exprs.length → (∃ i, zc5 c i j) ∨ ∃ p k, Kid c p k j
 kb : ∀ p : Nat, (zcm c p).length = (zcz c p).length
 kr : ∀ p : Nat, ∀ x ∈ zcz c p, 0 ≤ x ∧ x < (c.exprs.length : Int)
 br : ∀ {p k : Nat} {v : Int}, Bind c p k v → 0 ≤ v ∧ v < (c.vars.length : Int)
 pr : ∀ {i : Nat} {v : Int}, Par c i v → 0 ≤ v ∧ v < (c.vars.length : Int)
 vr : ∀ p : Nat, ∀ x ∈ zch c p, 0 ≤ x ∧ x < (c.vars.length : Int)
 bu : ∀ {p k p' k' : Nat} {v : Int}, Bind c p k v → Bind c p' k' v → p = p' ∧ k = k'
 bn : ∀ {p k : Nat} {l : List Int}, (zcm c p)[k]? = some l → l.Nodup
 bp : ∀ {p k : Nat} {v : Int} {i : Nat}, Bind c p k v → ¬ Par c i v
 pu : ∀ {i i' : Nat} {v : Int}, Par c i v → Par c i' v → i = i'
 pn : ∀ (i) (h : i < c.codes.length), ((c.codes[i]).params ++ (c.codes[i]).capt).Nodup
 sc : ∀ {j : Nat} {v : Int}, v ∈ zch c j → InS c j v
variable {c : Cor}
theorem TreeC.sub_le (hT : TreeC c) {a b : Nat} (h : Sub c a b) : a ≤ b := by
 induction h with
 | refl => exact Nat.le_refl _
 | step _ hk ih => have := (hT.lt hk).1; omega
theorem TreeC.bound_sub (hT : TreeC c) {j p k : Nat} {v : Int} (h : InS c j v) (hb : Bind c p k v) : ∃ m, Kid c p k m ∧ Sub c m j := by
 induction h with
 | root hr hv => exact absurd hv (hT.bp hb)
 | bind hk hv =>
  obtain ⟨rfl, rfl⟩ := hT.bu hb hv
  exact ⟨_, hk, .refl⟩
 | up hk h ih =>
  obtain ⟨m, h1, h2⟩ := ih hb
  exact ⟨m, h1, .step h2 hk⟩
theorem TreeC.bound_lt (hT : TreeC c) {j p k : Nat} {v : Int} (h : InS c j v) (hb : Bind c p k v) : p < j := by
 obtain ⟨m, h1, h2⟩ := hT.bound_sub h hb
 have := hT.sub_le h2
 have := (hT.lt h1).1
 omega
def Occ (c : Cor) (e : Nat) (v : Int) : Prop := ∃ j, Sub c e j ∧ v ∈ zch c j
def Bnd (c : Cor) (e : Nat) (v : Int) : Prop := ∃ j k, Sub c e j ∧ Bind c j k v
def zel (c : Cor) (e : Nat) (v : Int) : Prop := Occ c e v ∧ ¬ Bnd c e v
theorem TreeC.kid_InS (hT : TreeC c) {p k j : Nat} {v : Int} (hk : Kid c p k j) : InS c j v ↔ InS c p v ∨ Bind c p k v := by
 constructor
 ·intro h
  cases h with
  | root hr hv => exact absurd hr (hT.nob hk)
  | bind hk' hv =>
   obtain ⟨rfl, rfl⟩ := hT.uni hk hk'
   exact .inr hv
  | up hk' h =>
   obtain ⟨rfl, rfl⟩ := hT.uni hk hk'
   exact .inl h
 ·rintro (h | h)
  ·exact .up hk h
  ·exact .bind hk h
theorem TreeC.root_InS (hT : TreeC c) {i j : Nat} {v : Int} (hr : zc5 c i j) : InS c j v ↔ Par c i v := by
 constructor
 ·intro h
  cases h with
  | root hr' hv =>
   obtain rfl := hT.bod hr hr'
   exact hv
  | bind hk hv => exact absurd hr (hT.nob hk)
  | up hk h => exact absurd hr (hT.nob hk)
 ·exact .root hr
theorem TreeC.InS_range (hT : TreeC c) {j : Nat} {v : Int} (h : InS c j v) : 0 ≤ v ∧ v < (c.vars.length : Int) := by
 induction h with
 | root hr hv => exact hT.pr hv
 | bind hk hv => exact hT.br hv
 | up hk h ih => exact ih
theorem TreeC.scope_sub (hT : TreeC c) {e j : Nat} {v : Int} (h : Sub c e j) (hi : InS c j v) : InS c e v ∨ Bnd c e v := by
 induction h with
 | refl => exact .inl hi
 | step h hk ih =>
  rcases (hT.kid_InS hk).1 hi with h1 | h1
  ·exact ih h1
  ·exact .inr ⟨_, _, h, h1⟩
theorem TreeC.free_scope (hT : TreeC c) {e : Nat} {v : Int} (h : zel c e v) : InS c e v := by
 obtain ⟨⟨j, h1, h2⟩, h3⟩ := h
 rcases hT.scope_sub h1 (hT.sc h2) with h4 | h4
 ·exact h4
 ·exact absurd h4 h3
theorem ztT {l : List Int} (h : l.Nodup) {i j : Nat} {v : Int} (h1 : l[i]? = some v) (h2 : l[j]? = some v) : i = j := by
 obtain ⟨a1, b1⟩ := List.getElem?_eq_some_iff.1 h1
 obtain ⟨a2, b2⟩ := List.getElem?_eq_some_iff.1 h2
 have hp := List.pairwise_iff_getElem.1 h
 rcases Nat.lt_trichotomy i j with h3 | h3 | h3
 ·exact absurd (b1.trans b2.symm) (hp i j a1 a2 h3)
 ·exact h3
 ·exact absurd (b2.trans b1.symm) (hp j i a2 a1 h3)
theorem zky {α : Type} {l : List α} {f : α → List Int} (h : (l.flatMap f).Nodup) {i j : Nat} (hi : i < l.length) (hj : j < l.length) {v : Int} (h1 : v ∈ f l[i]) (h2 : v ∈ f l[j]) : i = j := by
 obtain ⟨_, hp⟩ := List.pairwise_flatMap.1 h
 have hp := List.pairwise_iff_getElem.1 hp
 rcases Nat.lt_trichotomy i j with h3 | h3 | h3
 ·exact absurd rfl (hp i j hi hj h3 v h1 v h2)
 ·exact h3
 ·exact absurd rfl (hp j i hj hi h3 v h2 v h1)
theorem zi2 {α : Type} {l : List α} {f : α → List Int} (h : (l.flatMap f).Nodup) {i : Nat} (hi : i < l.length) : (f l[i]).Nodup :=
 (List.pairwise_flatMap.1 h).1 _ (List.getElem_mem hi)
theorem zc0 {c : Cor} {p : Nat} (h : p < c.exprs.length) : zcz c p = (c.exprs[p]).kids := by unfold zcz; rw [List.getElem?_eq_getElem h]
theorem zd3 {c : Cor} {p : Nat} (h : p < c.exprs.length) : zcm c p = (c.exprs[p]).binds := by unfold zcm; rw [List.getElem?_eq_getElem h]
theorem zuW {c : Cor} {p : Nat} (h : p < c.exprs.length) : zch c p = (c.exprs[p]).vars := by unfold zch; rw [List.getElem?_eq_getElem h]
theorem ziO {c : Cor} {p : Nat} {x : Int} (h : x ∈ zcz c p) : p < c.exprs.length := by
 by_cases h2 : p < c.exprs.length
 ·exact h2
 ·unfold zcz at h; rw [List.getElem?_eq_none (by omega)] at h; simp at h
theorem zjS {c : Cor} {p : Nat} {x : List Int} (h : x ∈ zcm c p) : p < c.exprs.length := by
 by_cases h2 : p < c.exprs.length
 ·exact h2
 ·unfold zcm at h; rw [List.getElem?_eq_none (by omega)] at h; simp at h
theorem zpJ {c : Cor} {p : Nat} {x : Int} (h : x ∈ zch c p) : p < c.exprs.length := by
 by_cases h2 : p < c.exprs.length
 ·exact h2
 ·unfold zch at h; rw [List.getElem?_eq_none (by omega)] at h; simp at h
theorem Kid.mem {c : Cor} {p k j : Nat} (h : Kid c p k j) : (j : Int) ∈ zcz c p := List.mem_of_getElem? h
theorem Bind.mem {c : Cor} {p k : Nat} {v : Int} (h : Bind c p k v) : v ∈ (zcm c p).flatten := by
 obtain ⟨l, h1, h2⟩ := h
 exact List.mem_flatten.2 ⟨l, List.mem_of_getElem? h1, h2⟩
theorem zHc {c : Cor} {m : Nat} (hbr : ∀ {p k : Nat} {v : Int}, Bind c p k v → 0 ≤ v) (ih : ∀ i st st', za1 c m i st = some st' → (∀ v : Nat, st.getD v false = true → InS c i v) → ∀ j, Sub c i j → ∀ v ∈ zch c j, InS c j v) (i : Nat) :
  ∀ (bs : List (List Int)) (ks : List Int) (st st' : List Bool) (k0 : Nat), zbA c m bs ks st = some st' → bs.length = ks.length → (∀ r, (zcm c i)[k0 + r]? = bs[r]?) → (∀ r, (zcz c i)[k0 + r]? = ks[r]?) → (∀ v : Nat, st.getD v false = true → InS c i v) →
   ∀ (r m' : Nat), ks[r]? = some (m' : Int) → ∀ j, Sub c m' j → ∀ v ∈ zch c j, InS c j v := by
 intro bs
 induction bs with
 | nil =>
  intro ks st st' k0 _ hl _ _ _ r m' hr
  have : ks = [] := List.eq_nil_of_length_eq_zero (by simpa using hl.symm)
  subst this
  simp at hr
 | cons b bs ihb =>
  intro ks st st' k0 h hl hb hk hs r m' hr
  cases ks with
  | nil => simp at hl
  | cons k ks =>
   rw [zbA] at h
   cases hv : za1 c m k.toNat (zaB st b true) with
   | none => rw [hv] at h; cases h
   | some s2 =>
    rw [hv] at h
    simp only at h
    cases r with
    | zero =>
     simp at hr
     subst hr
     have hkid : Kid c i k0 m' := by have := hk 0; simp at this; exact this
     have hbd : (zcm c i)[k0]? = some b := by have := hb 0; simpa using this
     refine ih m' _ s2 (by simpa using hv) fun v hv => ?_
     rcases zhv b _ _ hv with h1 | ⟨x, hx, e⟩
     ·exact .up hkid (hs v h1)
     ·have hB : Bind c i k0 x := ⟨b, hbd, hx⟩
      have := hbr hB
      obtain rfl : x = (v : Int) := by omega
      exact .bind hkid hB
    | succ r =>
     refine ihb ks _ _ (k0 + 1) h (by simpa using hl) (fun r => ?_) (fun r => ?_) (fun v hv2 => hs v (zus (zuZ c _ _ _ _ hv) v hv2)) r m' (by simpa using hr)
     ·have := hb (r + 1); rw [show k0 + 1 + r = k0 + (r + 1) by omega]; simpa using this
     ·have := hk (r + 1); rw [show k0 + 1 + r = k0 + (r + 1) by omega]; simpa using this
theorem zG3 {c : Cor} (hbr : ∀ {p k : Nat} {v : Int}, Bind c p k v → 0 ≤ v) (hkb : ∀ p, (zcm c p).length = (zcz c p).length) : ∀ (m i : Nat) (st st' : List Bool), za1 c m i st = some st' → (∀ v : Nat, st.getD v false = true → InS c i v) → ∀ j, Sub c i j → ∀ v ∈ zch c j, InS c j v := by
 intro m
 induction m with
 | zero => intro i st st' h; rw [za1] at h; cases h
 | succ m ih =>
  intro i st st' h hs j hj v hv
  rw [za1] at h
  cases he : c.exprs[i]? with
  | none => rw [he] at h; cases h
  | some e =>
   rw [he] at h
   simp only at h
   split at h
   ·rename_i hall
    rcases hj.front with rfl | ⟨k, m', h1, h2⟩
    ·unfold zch at hv
     rw [he] at hv
     have h3 := List.all_eq_true.1 hall v hv
     simp only [Bool.and_eq_true, decide_eq_true_eq] at h3
     have h4 := hs _ h3.2
     rw [show ((v.toNat : Nat) : Int) = v by omega] at h4
     exact h4
    ·have e1 : zcm c i = e.binds := by unfold zcm; rw [he]
     have e2 : zcz c i = e.kids := by unfold zcz; rw [he]
     refine zHc hbr ih i e.binds e.kids st st' 0 h (by rw [← e1, ← e2]; exact hkb i) (fun r => by rw [e1, Nat.zero_add]) (fun r => by rw [e2, Nat.zero_add]) hs k m' ?_ j h2 v hv
     rw [← e2]; exact h1
   ·cases h
theorem zhA {c : Cor} (hk : zaR c) (h : vOk c = true) : TreeC c := by
 have hp := (zkV c).1 h
 have hr := (zpI c hk).1 hp
 obtain ⟨t1, t2, t3, t4⟩ := hp.tree
 obtain ⟨b1, b2, b3⟩ := hp.bind
 unfold zbI at t3
 obtain ⟨n1, n2, n3⟩ := List.nodup_append.1 t3
 unfold zbS at b2 b1
 obtain ⟨m1, m2, m3⟩ := List.nodup_append.1 b2
 have hbl : ∀ p, (zcm c p).length = (zcz c p).length := fun p => by
  by_cases h2 : p < c.exprs.length
  ·rw [zd3 h2, zc0 h2]; exact t1 p h2
  ·unfold zcm zcz; rw [List.getElem?_eq_none (by omega)]; rfl
 have hbr : ∀ {p k : Nat} {v : Int}, Bind c p k v → v ∈ c.exprs.flatMap fun e => e.binds.flatten := fun {p k v} hb => by
  have h1 := hb.mem
  obtain ⟨l, h2, _⟩ := hb
  have h3 := zjS (List.mem_of_getElem? h2)
  rw [zd3 h3] at h1
  exact List.mem_flatMap.2 ⟨_, List.getElem_mem h3, h1⟩
 have hpr : ∀ {i : Nat} {v : Int}, Par c i v → v ∈ c.codes.flatMap fun f => f.params ++ f.capt := fun {i v} ⟨h1, h2⟩ => List.mem_flatMap.2 ⟨_, List.getElem_mem h1, h2⟩
 have hb0 : ∀ {p k : Nat} {v : Int}, Bind c p k v → 0 ≤ v ∧ v < (c.vars.length : Int) := fun hb => b1 _ (List.mem_append.2 (.inr (hbr hb)))
 have hbu : ∀ {p k p' k' : Nat} {v : Int}, Bind c p k v → Bind c p' k' v → p = p' ∧ k = k' := fun {p k p' k' v} h1 h2 => by
  have g1 := h1.mem; have g2 := h2.mem
  obtain ⟨l, a1, a2⟩ := h1
  obtain ⟨l', c1, c2⟩ := h2
  have g3 := zjS (List.mem_of_getElem? a1)
  have g4 := zjS (List.mem_of_getElem? c1)
  rw [zd3 g3] at g1
  rw [zd3 g4] at g2
  obtain rfl := zky m2 g3 g4 g1 g2
  refine ⟨rfl, ?_⟩
  have g5 := zi2 m2 g3
  rw [← zd3 g3] at g5
  obtain ⟨a3, a4⟩ := List.getElem?_eq_some_iff.1 a1
  obtain ⟨c3, c4⟩ := List.getElem?_eq_some_iff.1 c1
  have g6 : ((zcm c p).flatMap id).Nodup := by rw [List.flatMap_id]; exact g5
  exact zky g6 a3 c3 (v := v) (by rw [a4]; exact a2) (by rw [c4]; exact c2)
 refine { lt := ?_, uni := ?_, nob := ?_, bod := ?_, blt := ?_, ex := ?_, kb := hbl, kr := ?_, br := hb0, pr := ?_, vr := ?_, bu := hbu, bn := ?_, bp := ?_, pu := ?_, pn := ?_, sc := ?_ }
 ·intro p k j h1
  have h2 := ziO h1.mem
  have h3 := t2 p h2 j (by rw [← zc0 h2]; exact h1.mem)
  omega
 ·intro p k p' k' j h1 h2
  have h3 := ziO h1.mem
  have h4 := ziO h2.mem
  obtain rfl := zky n2 h3 h4 (by rw [← zc0 h3]; exact h1.mem) (by rw [← zc0 h4]; exact h2.mem)
  have h5 := zi2 n2 h3
  rw [← zc0 h3] at h5
  exact ⟨rfl, ztT h5 h1 h2⟩
 ·rintro p k j i h1 ⟨h2, h3⟩
  have h4 := ziO h1.mem
  have h5 : (j : Int) ∈ c.exprs.flatMap CEx.kids := List.mem_flatMap.2 ⟨_, List.getElem_mem h4, by rw [← zc0 h4]; exact h1.mem⟩
  exact n3 j (List.mem_map.2 ⟨_, List.getElem_mem h2, h3⟩) j h5 rfl
 ·rintro i i' j ⟨h1, h2⟩ ⟨h3, h4⟩
  exact ztT n1 (i := i) (j := i') (v := j) (by rw [List.getElem?_map, List.getElem?_eq_getElem h1]; simp [h2]) (by rw [List.getElem?_map, List.getElem?_eq_getElem h3]; simp [h4])
 ·rintro i j ⟨h1, h2⟩
  obtain ⟨b, hb, hlt, _⟩ := (hr.codes i h1).body
  rw [hb] at h2
  omega
 ·intro j hj
  have h1 := hr.placed j hj
  have h2 : (j : Int) ∈ zbI c := List.count_pos_iff.1 (by omega)
  unfold zbI at h2
  rcases List.mem_append.1 h2 with h3 | h3
  ·obtain ⟨f, hf, he⟩ := List.mem_map.1 h3
   obtain ⟨i, hi, rfl⟩ := List.mem_iff_getElem.1 hf
   exact .inl ⟨i, hi, he⟩
  ·obtain ⟨e, he, hm⟩ := List.mem_flatMap.1 h3
   obtain ⟨p, hp, rfl⟩ := List.mem_iff_getElem.1 he
   obtain ⟨k, hk2, hj2⟩ := List.mem_iff_getElem.1 hm
   exact .inr ⟨p, k, by unfold Kid; rw [zc0 hp, List.getElem?_eq_getElem hk2, hj2]⟩
 ·intro p x hx
  have h2 := ziO hx
  rw [zc0 h2] at hx
  exact (hr.exprs p h2).range x hx
 ·intro i v h1
  exact b1 _ (List.mem_append.2 (.inl (hpr h1)))
 ·intro p x hx
  have h2 := zpJ hx
  rw [zuW h2] at hx
  exact (hr.exprs p h2).vars x hx
 ·intro p k l h1
  have h2 := zjS (List.mem_of_getElem? h1)
  have h3 := zi2 m2 h2
  rw [← zd3 h2, ← List.flatMap_id] at h3
  obtain ⟨h4, h5⟩ := List.getElem?_eq_some_iff.1 h1
  have h6 := zi2 h3 h4
  rw [h5] at h6
  exact h6
 ·intro p k v i h1 h2
  exact m3 v (hpr h2) v (hbr h1) rfl
 ·rintro i i' v ⟨h1, h2⟩ ⟨h3, h4⟩
  exact zky m1 h1 h3 h2 h4
 ·intro i hi
  exact zi2 m1 hi
 ·have hsub : ∀ (i : Nat) (hi : i < c.codes.length) (j b : Nat), (c.codes[i]).body = (b : Int) → Sub c b j → ∀ v ∈ zch c j, InS c j v := by
   intro i hi j b hb hj v hv
   have h1 := hr.scopes i hi
   have h2 := zu0 c c.exprs.length (c.codes[i]).body.toNat (zcJ c c.codes[i])
   rw [if_pos h1] at h2
   rw [hb] at h2
   refine zG3 (fun hb => (hb0 hb).1) hbl _ b _ _ (by simpa using h2) (fun v hv => ?_) j hj v hv
   have hP : Par c i v := by
    unfold zcJ at hv
    rcases zhv _ _ _ hv with h3 | ⟨x, hx, e⟩
    ·rcases zhv _ _ _ h3 with h4 | ⟨x, hx, e⟩
     ·rw [List.getD_eq_getElem?_getD, List.getElem?_replicate] at h4
      split at h4 <;> simp at h4
     ·have hP : Par c i x := ⟨hi, List.mem_append.2 (.inl hx)⟩
      have := b1 _ (List.mem_append.2 (.inl (hpr hP)))
      obtain rfl : x = (v : Int) := by omega
      exact hP
    ·have hP : Par c i x := ⟨hi, List.mem_append.2 (.inr hx)⟩
     have := b1 _ (List.mem_append.2 (.inl (hpr hP)))
     obtain rfl : x = (v : Int) := by omega
     exact hP
   exact .root ⟨hi, hb⟩ hP
  have hroot : ∀ m j, j ≤ m → j < c.exprs.length → ∃ i, ∃ hi : i < c.codes.length, ∃ b : Nat, (c.codes[i]).body = (b : Int) ∧ Sub c b j := by
   intro m
   induction m with
   | zero =>
    intro j hj hjl
    have h1 := hr.placed j hjl
    have h2 : (j : Int) ∈ zbI c := List.count_pos_iff.1 (by omega)
    unfold zbI at h2
    rcases List.mem_append.1 h2 with h3 | h3
    ·obtain ⟨f, hf, he⟩ := List.mem_map.1 h3
     obtain ⟨i, hi, rfl⟩ := List.mem_iff_getElem.1 hf
     exact ⟨i, hi, j, he, .refl⟩
    ·obtain ⟨e, he, hm⟩ := List.mem_flatMap.1 h3
     obtain ⟨p, hp, rfl⟩ := List.mem_iff_getElem.1 he
     have := t2 p hp j hm
     omega
   | succ m ih =>
    intro j hj hjl
    have h1 := hr.placed j hjl
    have h2 : (j : Int) ∈ zbI c := List.count_pos_iff.1 (by omega)
    unfold zbI at h2
    rcases List.mem_append.1 h2 with h3 | h3
    ·obtain ⟨f, hf, he⟩ := List.mem_map.1 h3
     obtain ⟨i, hi, rfl⟩ := List.mem_iff_getElem.1 hf
     exact ⟨i, hi, j, he, .refl⟩
    ·obtain ⟨e, he, hm⟩ := List.mem_flatMap.1 h3
     obtain ⟨p, hp, rfl⟩ := List.mem_iff_getElem.1 he
     have := t2 p hp j hm
     obtain ⟨k, hk2, hj2⟩ := List.mem_iff_getElem.1 hm
     obtain ⟨i, hi, b, h4, h5⟩ := ih p (by omega) hp
     exact ⟨i, hi, b, h4, .step h5 (by unfold Kid; rw [zc0 hp, List.getElem?_eq_getElem hk2, hj2])⟩
  intro j v hv
  obtain ⟨i, hi, b, h1, h2⟩ := hroot j j (Nat.le_refl _) (zpJ hv)
  exact hsub i hi j b h1 h2 v hv
def ownC : List Cod → Nat → List Int → List Int
 | [], _, st => st
 | f :: l, i, st => ownC l (i + 1) (st.set f.body.toNat i)
structure BodP (c : Cor) : Prop where
 body : ∀ i (h : i < c.codes.length), ∃ b : Nat, (c.codes[i]).body = b ∧ b < c.exprs.length
 kids : ∀ i (h : i < c.exprs.length), ∀ k ∈ (c.exprs[i]).kids, (i : Int) < k ∧ k < c.exprs.length
theorem zt7 {H J : zaa} {K : Kt} (hs : HSc H) (hK : K (.sl (ints []) .none) H) : Out H.length K .snil (H ++ J) := Out.one hs (.atom .snil) rfl rfl hK
end Go.Proofs.Ytkdmpbhbmmhijaa
