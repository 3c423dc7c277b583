import Derived.Test.YtfpmdpldabopjaaGreatDoorKNum
import Derived.Test.YtfpmdpldabopjaaGreatDoorProg
import Derived.KernelRfl
import Derived.Test.YtfpmdpldabopjaaGreatDoorKGK
import Derived.Test.YtfpmdpldabopjaaGreatDoorIT
import Derived.Test.YtfpmdpldabopjaaGreatDoorKGA
import Derived.Test.YtfpmdpldabopjaaGreatDoorKGY
import Derived.Shelf.LaysM
import Derived.Shelf.Strconv.Itoa4
import Derived.Test.YtfpmdpldabopjaaGreatDoorA3
set_option linter.unusedSimpArgs false
set_option linter.unusedVariables false
namespace Go.Proofs.YtfpmdpldabopjaaGreatDoor
open Go Go.Abs
set_option maxRecDepth 100000
end Go.Proofs.YtfpmdpldabopjaaGreatDoor
namespace Go.Proofs.YtfpmdpldabopjaaGreatDoor
open Go Go.Abs
set_option maxRecDepth 8000
theorem hasL_eqBy (data : List Dat) : ∀ vs ts : List VT, hasL data vs ts = eqBy (hasV data) vs ts
 | [], [] => by simp [hasL, eqBy]
 | [], _ :: _ => by simp [hasL, eqBy]
 | _ :: _, [] => by simp [hasL, eqBy]
 | v :: vs, t :: ts => by simp [hasL, eqBy, hasL_eqBy data vs ts]
theorem callHaveAll1 : callable Tryz.prog n_zq156 = true := by kernel_rfl
theorem callHas1 : callable Tryz.prog n_zq90 = true := by kernel_rfl
theorem ty_kinds {data : List Dat} {k n : Int} {ks : List VT} (h : tyOk data 0 (.mk k n ks) = true) : (k = 1 ∧ ks = []) ∨ (k = 2 ∧ ks = []) ∨ (k = 3 ∧ ks = []) ∨ k = 5 ∨ (k = 6 ∧ 2 ≤ ks.length) ∨ (k = 7 ∧ ks.length = 1) ∨ (k = 8 ∧ ks.length = 1) ∨ (k = 9 ∧ 1 ≤ ks.length) := by
 rw [tyOk, Bool.and_eq_true] at h
 have h := h.1
 unfold shapeOk at h
 by_cases h1 : k = 1
 ·subst h1; simp at h; simp [h.2]
 by_cases h2 : k = 2
 ·subst h2; simp at h; simp [h.2]
 by_cases h3 : k = 3
 ·subst h3; simp at h; simp [h.2]
 by_cases h4 : k = 4
 ·subst h4; simp at h; omega
 by_cases h5 : k = 5
 ·subst h5; simp
 by_cases h6 : k = 6
 ·subst h6; simp at h; simp; omega
 by_cases h7 : k = 7
 ·subst h7; simp at h; simp; omega
 by_cases h8 : k = 8
 ·subst h8; simp at h; simp; omega
 by_cases h9 : k = 9
 ·subst h9; simp at h; simp; omega
 simp [h1, h2, h3, h4, h5, h6, h7, h8, h9] at h
structure DOk (data : List Dat) : Prop where
 ok : dataOk data = true
 k : KData data
theorem DOk.small {data : List Dat} (h : DOk data) : Small data := fun D hD => by
 obtain ⟨_, h2⟩ := h.k
 obtain ⟨_, h3, h4⟩ := h2 D hD
 refine ⟨by omega, fun c hc => ?_⟩
 obtain ⟨_, h5, h6⟩ := h4 c hc
 exact ⟨by omega, fun x hx => by have := h6 x hx; omega⟩
theorem kd_fields {data : List Dat} (h : KData data) : data.length ≤ 1000000 ∧ (∀ d ∈ data, ∀ c ∈ d.cons, c.args.length ≤ 1000 ∧ ∀ x ∈ c.args, x.nodes ≤ 1000) ∧ ∀ d ∈ data, d.cons.length ≤ 1000000 := by
 obtain ⟨h1, h2⟩ := h
 refine ⟨by omega, fun D hD c hc => ?_, fun D hD => ?_⟩
 ·obtain ⟨_, h3, h4⟩ := h2 D hD
  obtain ⟨_, h5, h6⟩ := h4 c hc
  exact ⟨by omega, fun x hx => by have := h6 x hx; omega⟩
 ·obtain ⟨_, h3, h4⟩ := h2 D hD
  omega
section
variable {data : List Dat} (hD : DOk data)
def HasS (data : List Dat) (v : VT) : Prop := ∀ (t : VT), tyValid data 0 t = true → ∀ (H : Heap) (K : AV → Heap → Prop), K (.bool (hasV data v t)) H → ACalls Tryz.prog n_zq50 [.sl (data.map Dat.cs) .none, .agg v.cs, .agg t.cs] H K
theorem zq88_spec (vs ts : List VT) (hl : vs.length ≤ 1000000) (hv : ∀ v ∈ vs, HasS data v) (ht : ∀ t ∈ ts, tyValid data 0 t = true) (H : Heap) (K : AV → Heap → Prop) (hK : K (.bool (hasL data vs ts)) H) :
  ACalls Tryz.prog n_zq88 [.sl (data.map Dat.cs) .none, .sl (VT.css vs) .none, .sl (VT.css ts) .none] H K := by
 refine ACalls.out (zq88_ok fun hs => ?_)
 simp [zq88]
 refine ⟨rfl, equalFuncV_spec (hasV data) _ vs ts _ (by simp [AV.sc, AV.scV, AV.scA, AV.scB]) ?_ (by omega) _ ?_⟩
 ·intro i h1 h2 hle J K' hK'
  simp [aCallV, callHaveAll1]
  refine ACalls.out (zq156_ok fun hs1 => ?_)
  obtain ⟨x, y, z, hvx, hx, hy, hz⟩ := vt3' vs[i]
  obtain ⟨x2, y2, z2, hvx2, hx2, hy2, hz2⟩ := vt3' ts[i]
  simp [zq156, hvx, hvx2]
  rw [← hvx, ← hvx2]
  refine hv _ (List.getElem_mem h1) _ (ht _ (List.getElem_mem h2)) _ _ ?_
  refine Out.bool (H2 := H ++ [.cells [.sl (data.map Dat.cs) .none]] ++ J) (J := [.cells (vs[i]).cs, .cells (ts[i]).cs]) (by simp) (by simp) (by simpa using hs1) (by simpa using hK')
 ·rw [← hasL_eqBy]
  exact Out.bool rfl (Nat.le_refl _) hs hK
theorem i0 (n : Nat) : ((n : Int) == 0) = (n == 0) := by
 rw [Bool.eq_iff_iff]; simp
theorem getD_at {ks : List VT} (h : 0 < ks.length) : ks.getD 0 (.mk 0 0 []) = ks[0] := by simp [List.getD_eq_getElem?_getD, h]
theorem hasA_drop {data : List Dat} {t : VT} {vs : List VT} {i : Nat} (h : i < vs.length) : hasA data (vs.drop i) t = (hasV data vs[i] t && hasA data (vs.drop (i + 1)) t) := by rw [List.drop_eq_getElem_cons h, hasA]
include hD in
theorem zq50_spec : ∀ (m : Nat) (v : VT), v.nodes ≤ m → v.nodes ≤ 1000000 → HasS data v := by
 intro m
 induction m with
 | zero => intro v h; have := v.nodes_pos; omega
 | succ m ih =>
  intro v hm hb t ht H K hK
  obtain ⟨vk, vn, vks⟩ := v
  obtain ⟨k, n, ks⟩ := t
  refine ACalls.out (zq50_ok fun hs => ?_)
  have hO : ∀ b J, hasV data (.mk vk vn vks) (.mk k n ks) = b → Out H.length K (.bool b) (H ++ J) := fun b J h => Out.bool rfl (Nat.le_refl _) hs (h ▸ hK)
  have hll := VT.len_le vks
  have hnn : (VT.mk vk vn vks).nodes = VT.nodesL vks + 1 := by simp [VT.nodes]
  have hkids : ∀ x ∈ vks, HasS data x := fun x hx => ih x (by have := kids_lt (k := vk) (n := vn) x hx; omega) (by have := kids_le (k := vk) (n := vn) x hx; omega)
  have htk := tyValid_kids ht
  have hto : tyOk data 0 (.mk k n ks) = true := by rw [tyValid, Bool.and_eq_true] at ht; exact ht.2
  have htn : (VT.mk k n ks).nodes ≤ 200 := by rw [tyValid, Bool.and_eq_true] at ht; exact of_decide_eq_true ht.1
  obtain ⟨f1, f2, f3⟩ := kd_fields hD.k
  rcases ty_kinds hto with ⟨rfl, rfl⟩ | ⟨rfl, rfl⟩ | ⟨rfl, rfl⟩ | rfl | ⟨rfl, hk⟩ | ⟨rfl, hk⟩ | ⟨rfl, hk⟩ | ⟨rfl, hk⟩
  ·simp [zq50, VT.cs, Nat.add_assoc]
   cases h1 : (vk == 3) <;> simp
   ·exact hO _ _ (by simp [hasV, h1])
   by_cases h2 : -1099511627776 ≤ vn <;> simp [h2]
   ·by_cases h3 : vn ≤ 1099511627776 <;> simp [h3]
    ·exact hO _ _ (by simp [hasV, h1, h2, h3, i0])
    ·exact hO _ _ (by simp [hasV, h1, h2, h3])
   ·exact hO _ _ (by simp [hasV, h1, h2])
  ·simp [zq50, VT.cs, Nat.add_assoc]
   cases h1 : (vk == 2) <;> simp
   ·exact hO _ _ (by simp [hasV, h1])
   cases h2 : (vn == 0) <;> simp [Nat.add_assoc]
   ·cases h3 : (vn == 1) <;> simp
    ·exact hO _ _ (by simp [hasV, h1, h2, h3])
    ·exact hO _ _ (by simp [hasV, h1, h2, h3, i0])
   ·exact hO _ _ (by simp [hasV, h1, h2, i0])
  ·simp [zq50, VT.cs, Nat.add_assoc]
   cases h1 : (vk == 1) <;> simp
   ·exact hO _ _ (by simp [hasV, h1])
   cases h2 : (vn == 0) <;> simp [Nat.add_assoc]
   ·exact hO _ _ (by simp [hasV, h1, h2])
   ·exact hO _ _ (by simp [hasV, h1, h2, i0])
  ·-- a data type
   simp [zq50, VT.cs, Nat.add_assoc]
   cases h1 : (vk == 5) with
   | false =>
    have : (vk != 5) = true := by simp [bne, h1]
    simp [this]
    exact hO _ _ (by simp [hasV, h1])
   | true =>
   have h1' : (vk != 5) = false := by simp [bne, h1]
   by_cases h2 : vn < 0
   ·simp [h1', h2]
    exact hO _ _ (by simp [hasV, h1]; omega)
   by_cases h3 : 8 ≤ vn
   ·simp [h1', h2, h3]
    exact hO _ _ (by simp [hasV, h1]; omega)
   simp [h1', h2, h3, Nat.add_assoc]
   have e : ∀ o, fields data (.mk 5 n ks) vn = o → hasV data (.mk vk vn vks) (.mk 5 n ks) = hasL? data vks o := fun o ho => by
    have q1 : 0 ≤ vn := by omega
    have q2 : vn < 8 := by omega
    simp [hasV, h1, q1, q2, ho]
   have hcs : (VT.mk 5 n ks).cs = [.int .i64 5, .int .i64 n, .sl (VT.css ks) .none] := rfl
   rw [← hcs]
   refine zq89_spec data f1 f2 f3 (.mk 5 n ks) (by omega) vn _ _ ?_
   cases hf : fields data (.mk 5 n ks) vn with
   | none =>
    simp [fieldsR]
    exact hO _ _ (by rw [e _ hf, hasL?_none])
   | some l =>
    simp [fieldsR, hcs]
    refine zq88_spec vks l (by omega) hkids (fields_valid hD.ok hto hf) _ _ ?_
    exact hO _ _ (by rw [e _ hf, hasL?_some])
  ·simp [zq50, VT.cs, Nat.add_assoc]
   cases h1 : (vk == 4) <;> simp
   ·exact hO _ _ (by simp [hasV, h1])
   cases h2 : (vn == 0) <;> simp [Nat.add_assoc]
   ·exact hO _ _ (by simp [hasV, h1, h2])
   refine zq88_spec vks ks (by omega) hkids htk _ _ ?_
   exact hO _ _ (by simp [hasV, h1, h2])
  ·-- an array
   simp [zq50, VT.cs, Nat.add_assoc]
   cases h1 : (vk == 6) <;> simp
   ·exact hO _ _ (by simp [hasV, h1])
   cases h2 : (vn == 0) <;> simp [Nat.add_assoc]
   ·exact hO _ _ (by simp [hasV, h1, h2])
   by_cases h3 : vks.length ≤ 4096
   case neg =>
    have h3' : ¬ (vks.length : Int) ≤ 4096 := by omega
    simp [h3, h3']
    exact hO _ _ (by simp [hasV, h1, h2, h3])
   have h3' : (vks.length : Int) ≤ 4096 := by omega
   simp [h3, h3']
   refine ⟨⟨rfl, rfl⟩, ?_⟩
   have hk0 : 0 < ks.length := by omega
   have e : hasV data (.mk vk vn vks) (.mk 7 n ks) = hasA data vks ks[0] := by
    have := getD_at hk0
    simp [hasV, h1, h2, h3, this, hk0]
   refine containsFuncV_spec vks (by omega) _ _ _ (by simp [AV.sc, AV.scV, AV.scA, AV.scB]) (fun i H' => H' = H ++ [.cells [.sl (data.map Dat.cs) .none], .cells [.int .i64 vk, .int .i64 vn, .sl (VT.css vks) .none], .cells [.int .i64 7, .int .i64 n, .sl (VT.css ks) .none]] ∧ hasA data (vks.drop i) ks[0] = hasA data vks ks[0]) ⟨rfl, by simp⟩ ?_ ?_
   ·rintro i hi H' hle ⟨rfl, ho⟩
    rw [hasA_drop hi] at ho
    simp [aCallV, callHas1]
    refine ACalls.out (zq90_ok fun hs1 => ?_)
    obtain ⟨x, y, z, hvx, hx, hy, hz⟩ := vt3' vks[i]
    obtain ⟨x2, y2, z2, hvx2, hx2, hy2, hz2⟩ := vt3' ks[0]
    simp [zq90, hvx, hk0, hvx2, Nat.add_assoc]
    rw [← hvx, ← hvx2]
    refine aPureX_call (.bool (hasV data vks[i] ks[0])) (fun J => hkids _ (List.getElem_mem hi) ks[0] (htk _ (List.getElem_mem hk0)) _ _ ⟨rfl, rfl⟩) ?_
    simp
    cases hb : hasV data vks[i] ks[0] with
    | true =>
     rw [hb, Bool.true_and] at ho
     exact Out.bool (H2 := H ++ [.cells [.sl (data.map Dat.cs) .none], .cells [.int .i64 vk, .int .i64 vn, .sl (VT.css vks) .none], .cells [.int .i64 7, .int .i64 n, .sl (VT.css ks) .none]]) (J := [_]) (by simp; rfl) (by simp) hs1 (.inl ⟨rfl, rfl, ho⟩)
    | false =>
     rw [hb, Bool.false_and] at ho
     refine Out.bool (H2 := H ++ [.cells [.sl (data.map Dat.cs) .none], .cells [.int .i64 vk, .int .i64 vn, .sl (VT.css vks) .none], .cells [.int .i64 7, .int .i64 n, .sl (VT.css ks) .none]]) (J := [_]) (by simp; rfl) (by simp) hs1 (.inr ⟨rfl, ?_⟩)
     exact hO _ _ (by rw [e, ← ho])
   ·rintro H' ⟨rfl, ho⟩
    rw [List.drop_length, hasA] at ho
    simp
    exact hO _ _ (by rw [e, ← ho])
  ·simp [zq50, VT.cs, Nat.add_assoc]
   cases h1 : (vk == 7) <;> simp
   ·exact hO _ _ (by simp [hasV, h1])
   cases h2 : (vn == 0) <;> simp [Nat.add_assoc]
   ·exact hO _ _ (by simp [hasV, h1, h2])
   refine zq88_spec vks ks (by omega) hkids htk _ _ ?_
   exact hO _ _ (by simp [hasV, h1, h2])
  ·simp [zq50, VT.cs, Nat.add_assoc]
   cases h1 : (vk == 8) <;> simp
   ·exact hO _ _ (by simp [hasV, h1])
   by_cases h2 : 0 ≤ vn <;> simp [h2]
   ·by_cases h3 : vn < 64 <;> simp [h3]
    ·exact hO _ _ (by simp [hasV, h1, h2, h3, i0])
    ·exact hO _ _ (by simp [hasV, h1, h2, h3])
   ·exact hO _ _ (by simp [hasV, h1, h2])
end
section
variable {data : List Dat} (hD : DOk data)
def HasR (data : List Dat) (v : VT) : Prop := ∀ (t : VT), tyValid data 0 t = true → ∀ (H : Heap) (K : AV → Heap → Prop), K (.bool (hasV data v t)) H → ACalls Tryz.prog n_zq54 [.sl (data.map Dat.cs) .none, .agg v.cs, .agg t.cs] H K
theorem eqBy_drop {f : VT → VT → Bool} {x y : List VT} {i : Nat} (h : i < x.length) (h' : i < y.length) : eqBy f (x.drop i) (y.drop i) = (f x[i] y[i] && eqBy f (x.drop (i + 1)) (y.drop (i + 1))) := by
 rw [List.drop_eq_getElem_cons h, List.drop_eq_getElem_cons h', eqBy]
theorem zq95_spec (vs ts : List VT) (hl : vs.length ≤ 1000000) (hv : ∀ v ∈ vs, HasR data v) (ht : ∀ t ∈ ts, tyValid data 0 t = true) (H : Heap) (K : AV → Heap → Prop) (hK : K (.bool (hasL data vs ts)) H) :
  ACalls Tryz.prog n_zq95 [.sl (data.map Dat.cs) .none, .sl (VT.css vs) .none, .sl (VT.css ts) .none] H K := by
 refine ACalls.out (zq95_ok fun hs => ?_)
 rw [hasL_eqBy] at hK
 have hO : ∀ b, eqBy (hasV data) vs ts = b → Out H.length K (.bool b) H := fun b h => by
  have := Out.bool (J := []) rfl (Nat.le_refl _) hs (h ▸ hK)
  simpa using this
 by_cases hlen : vs.length = ts.length
 case neg =>
  have hl' : ((vs.length : Int) != ts.length) = true := by simp; omega
  simp [zq95, hl']
  exact hO _ (eqBy_len hlen)
 simp [zq95, hlen]
 refine zq95_loop4 (Inv := fun q t H' => ∃ i : Nat, i ≤ vs.length ∧ q = vs.length - i ∧ t = .int .i64 i ∧ eqBy (hasV data) (vs.drop i) (ts.drop i) = eqBy (hasV data) vs ts ∧ H = H') vs.length ?_ ?_
 ·intro _; exact ⟨0, by omega, by omega, rfl, by simp, rfl⟩
 rintro q t H' ⟨i, hi, rfl, rfl, ho, rfl⟩ hsc hle hsF Kb hKb
 by_cases hlt : i < vs.length
 ·have hlt' : i < ts.length := by omega
  have hlt2 : (i : Int) < ts.length := by omega
  rw [eqBy_drop hlt hlt'] at ho
  obtain ⟨x, y, z, hvx, hx, hy, hz⟩ := vt3' vs[i]
  obtain ⟨x2, y2, z2, hvx2, hx2, hy2, hz2⟩ := vt3' ts[i]
  simp [zq95_b4, hlt, hlt', hlt2, hvx, hvx2]
  rw [← hvx, ← hvx2]
  refine aPureX_call (.bool (hasV data vs[i] ts[i])) (fun J => hv _ (List.getElem_mem hlt) _ (ht _ (List.getElem_mem hlt')) _ _ ⟨rfl, rfl⟩) ?_
  cases hb : hasV data vs[i] ts[i] with
  | false =>
   rw [hb, Bool.false_and] at ho
   simp
   exact hO _ ho.symm
  | true =>
   rw [hb, Bool.true_and] at ho
   simp
   rw [wrap_in (by omega) (by omega)]
   refine hKb _ _ ⟨vs.length - (i + 1), by omega, Back.here (Nat.le_refl _) hs ?_ ⟨_, rfl, i + 1, by omega, rfl, by simp, ho, rfl⟩⟩
   simp [zq95_fr4, AV.sc, AV.scV, AV.scA, AV.scB]
 ·obtain rfl : i = vs.length := by omega
  rw [List.drop_length, hlen, List.drop_length, eqBy] at ho
  simp [zq95_b4, hlen]
  exact hO _ ho.symm
theorem hasA_one {data : List Dat} {vks ks : List VT} (h1 : vks.length = 1) (h2 : ks.length = 1) : hasL data vks ks = hasA data vks (ks[0]'(by omega)) := by
 match vks, ks, h1, h2 with
 | [v], [k], _, _ => simp [hasL, hasA]
include hD in
theorem zq54_spec : ∀ (m : Nat) (v : VT), v.nodes ≤ m → v.nodes ≤ 1000000 → HasR data v := by
 intro m
 induction m with
 | zero => intro v h; have := v.nodes_pos; omega
 | succ m ih =>
  intro v hm hb t ht H K hK
  obtain ⟨vk, vn, vks⟩ := v
  obtain ⟨k, n, ks⟩ := t
  refine ACalls.out (zq54_ok fun hs => ?_)
  have hO : ∀ b J, hasV data (.mk vk vn vks) (.mk k n ks) = b → Out H.length K (.bool b) (H ++ J) := fun b J h => Out.bool rfl (Nat.le_refl _) hs (h ▸ hK)
  have hll := VT.len_le vks
  have hnn : (VT.mk vk vn vks).nodes = VT.nodesL vks + 1 := by simp [VT.nodes]
  have hkids : ∀ x ∈ vks, HasR data x := fun x hx => ih x (by have := kids_lt (k := vk) (n := vn) x hx; omega) (by have := kids_le (k := vk) (n := vn) x hx; omega)
  have htk := tyValid_kids ht
  have hto : tyOk data 0 (.mk k n ks) = true := by rw [tyValid, Bool.and_eq_true] at ht; exact ht.2
  have htn : (VT.mk k n ks).nodes ≤ 200 := by rw [tyValid, Bool.and_eq_true] at ht; exact of_decide_eq_true ht.1
  obtain ⟨f1, f2, f3⟩ := kd_fields hD.k
  have loop : ∀ (hk : ks.length = 1) , hasV data (.mk vk vn vks) (.mk k n ks) = hasA data vks (ks[0]'(by omega)) →
    zq54_l21 (.sl (data.map Dat.cs) .none) (.ptr H.length 0) (.ptr (H.length + 1) 0) (.int .i64 vks.length) (.int .i64 0) (H ++ [.cells [.int .i64 vk, .int .i64 vn, .sl (VT.css vks) .none], .cells [.int .i64 k, .int .i64 n, .sl (VT.css ks) .none]]) (Out H.length K) := by
   intro hk e
   have hk0 : 0 < ks.length := by omega
   refine zq54_loop21 (Inv := fun q t10 H' => ∃ i : Nat, i ≤ vks.length ∧ q = vks.length - i ∧ t10 = .int .i64 i ∧ hasA data (vks.drop i) ks[0] = hasA data vks ks[0] ∧ H' = H ++ [.cells [.int .i64 vk, .int .i64 vn, .sl (VT.css vks) .none], .cells [.int .i64 k, .int .i64 n, .sl (VT.css ks) .none]]) vks.length ?_ ?_
   ·intro _; exact ⟨0, by omega, by omega, rfl, by simp, rfl⟩
   rintro q t10 H' ⟨i, hi, rfl, rfl, ho, rfl⟩ hsc hle hsF Kb hKb
   by_cases hlt : i < vks.length
   ·rw [hasA_drop hlt] at ho
    obtain ⟨x, y, z, hvx, hx, hy, hz⟩ := vt3' vks[i]
    obtain ⟨x2, y2, z2, hvx2, hx2, hy2, hz2⟩ := vt3' ks[0]
    simp [zq54_b21, hlt, hvx, hk0, hvx2]
    rw [← hvx, ← hvx2]
    refine aPureX_call (.bool (hasV data vks[i] ks[0])) (fun J => hkids _ (List.getElem_mem hlt) ks[0] (htk _ (List.getElem_mem hk0)) _ _ ⟨rfl, rfl⟩) ?_
    cases hb2 : hasV data vks[i] ks[0] with
    | false =>
     rw [hb2, Bool.false_and] at ho
     simp
     exact hO _ _ (e.trans ho.symm)
    | true =>
     rw [hb2, Bool.true_and] at ho
     simp
     rw [wrap_in (by omega) (by omega)]
     refine hKb _ _ ⟨vks.length - (i + 1), by omega, Back.here (by simp) hsc ?_ ⟨_, rfl, i + 1, by omega, rfl, by simp, ho, rfl⟩⟩
     simp [zq54_fr21, AV.sc, AV.scV, AV.scA, AV.scB]
   ·obtain rfl : i = vks.length := by omega
    rw [List.drop_length, hasA] at ho
    simp [zq54_b21]
    exact hO _ _ (e.trans ho.symm)
  rcases ty_kinds hto with ⟨rfl, rfl⟩ | ⟨rfl, rfl⟩ | ⟨rfl, rfl⟩ | rfl | ⟨rfl, hk⟩ | ⟨rfl, hk⟩ | ⟨rfl, hk⟩ | ⟨rfl, hk⟩
  ·simp [zq54, VT.cs, Nat.add_assoc]
   cases h1 : (vk == 3) <;> simp
   ·exact hO _ _ (by simp [hasV, h1])
   by_cases h2 : -1099511627776 ≤ vn <;> simp [h2]
   ·by_cases h3 : vn ≤ 1099511627776 <;> simp [h3]
    ·exact hO _ _ (by simp [hasV, h1, h2, h3, i0])
    ·exact hO _ _ (by simp [hasV, h1, h2, h3])
   ·exact hO _ _ (by simp [hasV, h1, h2])
  ·simp [zq54, VT.cs, Nat.add_assoc]
   cases h1 : (vk == 2) <;> simp
   ·exact hO _ _ (by simp [hasV, h1])
   cases h2 : (vn == 0) <;> simp
   ·cases h3 : (vn == 1) <;> simp
    ·exact hO _ _ (by simp [hasV, h1, h2, h3])
    ·exact hO _ _ (by simp [hasV, h1, h2, h3, i0])
   ·exact hO _ _ (by simp [hasV, h1, h2, i0])
  ·simp [zq54, VT.cs, Nat.add_assoc]
   cases h1 : (vk == 1) <;> simp
   ·exact hO _ _ (by simp [hasV, h1])
   cases h2 : (vn == 0) <;> simp
   ·exact hO _ _ (by simp [hasV, h1, h2])
   ·exact hO _ _ (by simp [hasV, h1, h2, i0])
  ·-- a data type
   simp [zq54, VT.cs, Nat.add_assoc]
   cases h1 : (vk == 5) with
   | false =>
    have : (vk != 5) = true := by simp [bne, h1]
    simp [this]
    exact hO _ _ (by simp [hasV, h1])
   | true =>
   have h1' : (vk != 5) = false := by simp [bne, h1]
   by_cases h2 : vn < 0
   ·simp [h1', h2]
    exact hO _ _ (by simp [hasV, h1]; omega)
   by_cases h3 : 8 ≤ vn
   ·simp [h1', h2, h3]
    exact hO _ _ (by simp [hasV, h1]; omega)
   simp [h1', h2, h3, Nat.add_assoc]
   have e : ∀ o, fields data (.mk 5 n ks) vn = o → hasV data (.mk vk vn vks) (.mk 5 n ks) = hasL? data vks o := fun o ho => by
    have q1 : 0 ≤ vn := by omega
    have q2 : vn < 8 := by omega
    simp [hasV, h1, q1, q2, ho]
   have hcs : (VT.mk 5 n ks).cs = [.int .i64 5, .int .i64 n, .sl (VT.css ks) .none] := rfl
   rw [← hcs]
   refine zq96_spec data f1 f2 f3 (.mk 5 n ks) (by omega) vn _ _ ?_
   cases hf : fields data (.mk 5 n ks) vn with
   | none =>
    simp [fieldsR]
    exact hO _ _ (by rw [e _ hf, hasL?_none])
   | some l =>
    simp [fieldsR, hcs]
    refine zq95_spec vks l (by omega) hkids (fields_valid hD.ok hto hf) _ _ ?_
    exact hO _ _ (by rw [e _ hf, hasL?_some])
  ·simp [zq54, VT.cs, Nat.add_assoc]
   cases h1 : (vk == 4) <;> simp
   ·exact hO _ _ (by simp [hasV, h1])
   cases h2 : (vn == 0) <;> simp
   ·exact hO _ _ (by simp [hasV, h1, h2])
   refine zq95_spec vks ks (by omega) hkids htk _ _ ?_
   exact hO _ _ (by simp [hasV, h1, h2])
  ·-- an array
   simp [zq54, zq54_j1, VT.cs, Nat.add_assoc]
   have hk0 : 0 < ks.length := by omega
   cases h1 : (vk == 6) with
   | false =>
    have : (vk != 6) = true := by simp [bne, h1]
    simp [this]
    exact hO _ _ (by simp [hasV, h1])
   | true =>
   have h1' : (vk != 6) = false := by simp [bne, h1]
   by_cases h3 : vks.length ≤ 4096
   case neg =>
    have h3' : (4096 : Int) < vks.length := by omega
    simp [h1', h3']
    exact hO _ _ (by simp [hasV, h1, h3])
   have h3' : ¬ (4096 : Int) < vks.length := by omega
   cases h2 : (vn == 0) with
   | false =>
    have : (vn != 0) = true := by simp [bne, h2]
    simp [h1', h3', this]
    exact hO _ _ (by simp [hasV, h1, h2])
   | true =>
   have h2' : (vn != 0) = false := by simp [bne, h2]
   simp [h1', h3', h2']
   exact loop hk (by have := getD_at hk0; simp [hasV, h1, h2, h3, this, hk0])
  ·simp [zq54, zq54_j1, VT.cs, Nat.add_assoc]
   have hk0 : 0 < ks.length := by omega
   cases h1 : (vk == 7) with
   | false =>
    have : (vk != 7) = true := by simp [bne, h1]
    simp [this]
    exact hO _ _ (by simp [hasV, h1])
   | true =>
   have h1' : (vk != 7) = false := by simp [bne, h1]
   by_cases h3 : vks.length = 1
   case neg =>
    have h3' : ((vks.length : Int) != 1) = true := by simp; omega
    simp [h1', h3']
    refine hO _ _ ?_
    have : hasL data vks ks = false := by rw [hasL_eqBy]; exact eqBy_len (by omega)
    simp [hasV, h1, this]
   have h3' : ((vks.length : Int) != 1) = false := by simp; omega
   cases h2 : (vn == 0) with
   | false =>
    have : (vn != 0) = true := by simp [bne, h2]
    simp [h1', h3', this]
    exact hO _ _ (by simp [hasV, h1, h2])
   | true =>
   have h2' : (vn != 0) = false := by simp [bne, h2]
   simp [h1', h3', h2']
   exact loop hk (by rw [← hasA_one h3 hk]; simp [hasV, h1, h2])
  ·simp [zq54, zq54_j1, VT.cs, Nat.add_assoc]
   cases h1 : (vk == 8) <;> simp
   ·exact hO _ _ (by simp [hasV, h1])
   by_cases h2 : 0 ≤ vn <;> simp [h2]
   ·by_cases h3 : vn < 64 <;> simp [h3]
    ·exact hO _ _ (by simp [hasV, h1, h2, h3, i0])
    ·exact hO _ _ (by simp [hasV, h1, h2, h3])
   ·exact hO _ _ (by simp [hasV, h1, h2])
end
def hasT (data : List Dat) (v t : VT) : Bool := fineV data t && hasV data v t
theorem kdata_small {data : List Dat} (h : KData data) : Small data := fun D hD => by
 obtain ⟨_, h2⟩ := h
 obtain ⟨_, h3, h4⟩ := h2 D hD
 refine ⟨by omega, fun c hc => ?_⟩
 obtain ⟨_, h5, h6⟩ := h4 c hc
 exact ⟨by omega, fun x hx => by have := h6 x hx; omega⟩
theorem zq16_spec (data : List Dat) (hk : KData data) (v t : VT) (hv : v.nodes ≤ 5000) (ht : t.nodes ≤ 1000000) (H : Heap) (K : Kt) (hK : K (.bool (hasT data v t)) H) :
  ACalls Tryz.prog n_zq16 [.sl (data.map Dat.cs) .none, .agg v.cs, .agg t.cs] H K := by
 refine ACalls.out (zq16_ok fun hs => ?_)
 have hO : ∀ b J, hasT data v t = b → Out H.length K (.bool b) (H ++ J) := fun b J h => Out.bool rfl (Nat.le_refl _) hs (h ▸ hK)
 obtain ⟨x, y, z, hvx, hx, hy, hz⟩ := vt3' v
 obtain ⟨x2, y2, z2, hvx2, hx2, hy2, hz2⟩ := vt3' t
 simp [zq16, hvx, hvx2, Nat.add_assoc]
 rw [← hvx, ← hvx2]
 refine zq48_spec data (kdata_small hk) (by have := hk.1; omega) t ht ?_
 cases hf : fineV data t with
 | false =>
  simp
  exact hO _ _ (by simp [hasT, hf])
 | true =>
  have hf' := hf
  rw [fineV, Bool.and_eq_true] at hf'
  simp [Nat.add_assoc]
  refine zq49_spec _ v (Nat.le_refl _) 5000 (by omega) (by omega) _ (H.length + 2) (by simp) _ ?_
  simp [Nat.add_assoc]
  refine zq50_spec ⟨hf'.1, hk⟩ _ v (Nat.le_refl _) (by omega) t hf'.2 _ _ ?_
  exact hO _ _ (by simp [hasT, hf])
theorem zq17_spec (data : List Dat) (hk : KData data) (v t : VT) (hv : v.nodes ≤ 5000) (ht : t.nodes ≤ 1000000) (H : Heap) (K : Kt) (hK : K (.bool (hasT data v t)) H) :
  ACalls Tryz.prog n_zq17 [.sl (data.map Dat.cs) .none, .agg v.cs, .agg t.cs] H K := by
 refine ACalls.out (zq17_ok fun hs => ?_)
 have hO : ∀ b J, hasT data v t = b → Out H.length K (.bool b) (H ++ J) := fun b J h => Out.bool rfl (Nat.le_refl _) hs (h ▸ hK)
 obtain ⟨x, y, z, hvx, hx, hy, hz⟩ := vt3' v
 obtain ⟨x2, y2, z2, hvx2, hx2, hy2, hz2⟩ := vt3' t
 have hkl := hk.1
 simp [zq17, hvx, hvx2, Nat.add_assoc]
 refine zq51_spec data hk _ _ fun b hb => ?_
 have hbd : b = dataOk data := by
  rw [Bool.eq_iff_iff, hb, data_iff]
 subst hbd
 cases hd : dataOk data with
 | false =>
  simp
  exact hO _ _ (by simp [hasT, fineV, hd])
 | true =>
  simp [Nat.add_assoc]
  rw [← hvx2]
  refine zq52_spec data (by omega) 0 t (by omega) _ _ ?_
  cases hf : tyValid data 0 t with
  | false =>
   simp
   exact hO _ _ (by simp [hasT, fineV, hf])
  | true =>
   simp [Nat.add_assoc]
   rw [← hvx]
   refine zq53_spec _ v (Nat.le_refl _) 5000 (by omega) (by omega) _ (H.length + 2) (by simp) _ ?_ (fun h => absurd (by omega) h)
   intro _
   simp [Nat.add_assoc]
   refine zq54_spec ⟨hd, hk⟩ _ v (Nat.le_refl _) (by omega) t hf _ _ ?_
   exact hO _ _ (by simp [hasT, fineV, hd, hf])
end Go.Proofs.YtfpmdpldabopjaaGreatDoor
namespace Go.Proofs.YtfpmdpldabopjaaGreatDoor
open Go Go.Abs
def pick : List VT → List Bool → List VT
 | x :: l, b :: bs => if b then pick l bs else x :: pick l bs
 | _, _ => []
def payT (data : List Dat) (t : VT) (c : Int) : Option (List VT) := (fields data t c).map fun l => pick l ((recs data t.num.toNat).getD c.toNat [])
mutual
def meaV (data : List Dat) : IT → VT → Int × Bool
 | .mk n ks, t =>
  if t.kind = 6 then (if n = 0 then (if t.kids.length = ks.length then meaA data ks t.kids 0 else (0, false)) else (0, false))
  else if t.kind = 7 then (n, decide (0 ≤ n) && decide (n ≤ 6) && decide (ks.length = 0))
  else if t.kind = 5 then (if n = 0 then meaE data ks t 0 else (0, false))
  else (0, decide (n = 0) && decide (ks.length = 0))
def meaA (data : List Dat) : List IT → List VT → Int → Int × Bool
 | [], _, a => (a, decide (a ≤ 6))
 | v :: vs, ts, a => match ts with
  | t :: ts => if (meaV data v t).2 then meaA data vs ts (a + (meaV data v t).1) else (0, false)
  | [] => (0, false)
def meaE (data : List Dat) : List IT → VT → Int → Int × Bool
 | [], _, a => (a, true)
 | .mk c ks :: es, t, a => match payT data t c with
  | none => (0, false)
  | some ps => if ps.length = ks.length then
    (if (meaA data ks ps 0).2 && decide (a + (1 + (meaA data ks ps 0).1) ≤ 6) then meaE data es t (a + (1 + (meaA data ks ps 0).1)) else (0, false))
   else (0, false)
end
mutual
def rdV (data : List Dat) : IT → VT → Int
 | .mk n ks, t =>
  if t.kind = 6 then (if n = 0 then (if t.kids.length = ks.length then rdA data ks t.kids 0 else -1) else -1)
  else if t.kind = 7 then (if 0 ≤ n ∧ n ≤ 6 ∧ ks.length = 0 then n else -1)
  else if t.kind = 5 then (if n = 0 ∧ ks.length ≤ 6 then rdE data ks t 0 else -1)
  else (if n = 0 ∧ ks.length = 0 then 0 else -1)
def rdA (data : List Dat) : List IT → List VT → Int → Int
 | [], _, a => a
 | v :: vs, ts, a => match ts with
  | t :: ts => if rdV data v t < 0 ∨ a + rdV data v t > 6 then -1 else rdA data vs ts (a + rdV data v t)
  | [] => -1
def rdE (data : List Dat) : List IT → VT → Int → Int
 | [], _, a => a
 | .mk c ks :: es, t, a => if c < 0 ∨ 8 ≤ c then -1 else match payT data t c with
  | none => -1
  | some ps => if ps.length = ks.length then
    (if rdA data ks ps 0 < 0 ∨ a + 1 + rdA data ks ps 0 > 6 then -1 else rdE data es t (a + (1 + rdA data ks ps 0)))
   else -1
end
theorem payT_lt {data : List Dat} (h8 : ∀ D ∈ data, D.cons.length ≤ 8) {t : VT} {c : Int} {ps : List VT} (h : payT data t c = some ps) : 0 ≤ c ∧ c < 8 := by
 unfold payT at h
 cases hf : fields data t c with
 | none => rw [hf] at h; cases h
 | some l =>
  obtain ⟨_, k1, k2, hn, hc, _⟩ := fields_some hf
  have := h8 _ (List.getElem_mem hn)
  omega
def agr (m : Int × Bool) (r : Int) : Prop := (m.2 = true → m.1 = r ∧ 0 ≤ r ∧ r ≤ 6) ∧ (m.2 = false → r = -1)
theorem agr_no : agr (0, false) (-1) := ⟨fun h => (by cases h), fun _ => rfl⟩
mutual
theorem agrV {data : List Dat} (h8 : ∀ D ∈ data, D.cons.length ≤ 8) : ∀ (v : IT) (t : VT), agr (meaV data v t) (rdV data v t)
 | .mk n ks, t => by
  have hA := (agrA h8 ks t.kids 0 (by omega)).1 (by omega)
  have hE := agrE h8 ks t 0 (by omega) (by omega)
  unfold meaV rdV
  split
  ·split
   ·split
    ·exact hA
    ·exact agr_no
   ·exact agr_no
  ·split
   ·refine ⟨fun h => ?_, fun h => ?_⟩
    ·simp at h
     rw [if_pos ⟨h.1.1, h.1.2, by simpa using h.2⟩]
     exact ⟨rfl, h.1.1, h.1.2⟩
    ·rw [if_neg]
     rintro ⟨h1, h2, h3⟩
     simp [h1, h2, h3] at h
   ·split
    ·by_cases hn : n = 0
     ·simp only [hn, if_true, true_and]
      by_cases hl : ks.length ≤ 6
      ·rw [if_pos hl]; exact hE.1
      ·rw [if_neg hl]
       refine ⟨fun h => ?_, fun _ => rfl⟩
       have := hE.2 h
       omega
     ·simp only [hn, if_false, false_and]
      exact agr_no
    ·refine ⟨fun h => ?_, fun h => ?_⟩
     ·simp at h
      simp [h]
     ·rw [if_neg]
      rintro ⟨h1, h2⟩
      simp [h1, h2] at h
theorem agrA {data : List Dat} (h8 : ∀ D ∈ data, D.cons.length ≤ 8) : ∀ (vs : List IT) (ts : List VT) (a : Int), 0 ≤ a → (a ≤ 6 → agr (meaA data vs ts a) (rdA data vs ts a)) ∧ (6 < a → (meaA data vs ts a).2 = false)
 | [], ts, a, ha => by
  simp only [meaA, rdA]
  exact ⟨fun h => ⟨fun _ => ⟨rfl, ha, h⟩, fun h2 => by simp at h2; omega⟩, fun h => by simp; omega⟩
 | v :: vs, ts, a, ha => by
  match ts with
  | [] => simp only [meaA, rdA]; exact ⟨fun _ => agr_no, fun _ => by trivial⟩
  | t :: ts =>
   obtain ⟨g1, g2⟩ := agrV h8 v t
   simp only [meaA, rdA]
   cases hb : (meaV data v t).2 with
   | false =>
    rw [g2 hb]
    simp
    exact fun _ => agr_no
   | true =>
    obtain ⟨e1, e2, e3⟩ := g1 hb
    rw [e1]
    have hn := agrA h8 vs ts (a + rdV data v t) (by omega)
    simp only [if_true]
    refine ⟨fun h => ?_, fun h => hn.2 (by omega)⟩
    by_cases h6 : a + rdV data v t > 6
    ·rw [if_pos (.inr h6)]
     exact ⟨fun h => (by rw [hn.2 (by omega)] at h; cases h), fun _ => rfl⟩
    ·rw [if_neg (by omega)]
     exact hn.1 (by omega)
theorem agrE {data : List Dat} (h8 : ∀ D ∈ data, D.cons.length ≤ 8) : ∀ (es : List IT) (t : VT) (a : Int), 0 ≤ a → a ≤ 6 → agr (meaE data es t a) (rdE data es t a) ∧ ((meaE data es t a).2 = true → a + es.length ≤ 6)
 | [], t, a, h0, h6 => by
  simp only [meaE, rdE]
  exact ⟨⟨fun _ => ⟨rfl, h0, h6⟩, fun h => by cases h⟩, fun _ => by simpa using h6⟩
 | .mk c ks :: es, t, a, h0, h6 => by
  simp only [meaE, rdE]
  cases hp : payT data t c with
  | none => simp only [ite_self]; exact ⟨agr_no, fun h => by cases h⟩
  | some ps =>
   obtain ⟨c0, c8⟩ := payT_lt h8 hp
   rw [if_neg (show ¬(c < 0 ∨ 8 ≤ c) by omega)]
   simp only
   by_cases hl : ps.length = ks.length
   ·simp only [hl, if_true]
    obtain ⟨g1, g2⟩ := (agrA h8 ks ps 0 (by omega)).1 (by omega)
    cases hb : (meaA data ks ps 0).2 with
    | false =>
     rw [g2 hb]
     simp
     exact agr_no
    | true =>
     obtain ⟨e1, e2, e3⟩ := g1 hb
     rw [e1]
     by_cases hh : a + (1 + rdA data ks ps 0) ≤ 6
     ·have hn := agrE h8 es t (a + (1 + rdA data ks ps 0)) (by omega) hh
      rw [if_neg (show ¬(rdA data ks ps 0 < 0 ∨ a + 1 + rdA data ks ps 0 > 6) by omega)]
      simp only [hh, decide_true, Bool.and_self, if_true]
      refine ⟨hn.1, fun h => ?_⟩
      have := hn.2 h
      simp only [List.length_cons]
      omega
     ·rw [if_pos (show rdA data ks ps 0 < 0 ∨ a + 1 + rdA data ks ps 0 > 6 by omega)]
      simp [hh]
      exact agr_no
   ·simp only [hl, if_false]
    exact ⟨agr_no, fun h => by cases h⟩
end
end Go.Proofs.YtfpmdpldabopjaaGreatDoor
namespace Go.Proofs.YtfpmdpldabopjaaGreatDoor
open Go Go.Abs
set_option maxRecDepth 8000
def pos (v : Bool) (bs : List Bool) (i : Nat) : List Nat := (List.range i).filter fun j => bs.getD j false == v
theorem kdata_nil : KData [] := by
 refine ⟨by simp, fun D hD => by simp at hD⟩
def v37 : AV := .agg [.int .i64 3, .int .i64 7, .snil]
def t10 : AV := .agg [.int .i64 1, .int .i64 0, .snil]
theorem HasType_37 (H : Heap) (K : Kt) (hK : K (.bool true) H) : ACalls Tryz.prog n_zq16 [.snil, v37, t10] H K := by
 refine ACalls.wk (args' := [.sl (([] : List Dat).map Dat.cs) .none, .agg (VT.mk 3 7 []).cs, .agg (VT.mk 1 0 []).cs]) ?_ ⟨.atom .snil, .agg ⟨.refl _, .refl _, .snil, trivial⟩, .agg ⟨.refl _, .refl _, .snil, trivial⟩, trivial⟩
 refine zq16_spec [] kdata_nil _ _ (by decide) (by decide) _ _ ?_
 have : hasT [] (.mk 3 7 []) (.mk 1 0 []) = true := by decide
 rw [this]
 exact hK
theorem Format_37 (H : Heap) (K : Kt) (hK : K (.str [55]) H) : ACalls Tryz.prog n_zq19 [.snil, v37, t10] H K := by
 refine ACalls.out (zq19_ok fun hs => ?_)
 simp [zq19, v37, t10, Nat.add_assoc]
 refine HasType_37 _ _ ?_
 simp [aNewB, Nat.add_assoc]
 refine zq55_ok fun hs2 => ?_
 simp [zq55, Nat.add_assoc]
 refine FormatInt_spec 7 (by omega) _ _ ?_
 refine ACalls.ownB (id := H.length + 2) (t := 73) (p := .nilp) 5 1 (by simp) ?_
 refine WriteString_spec (id2 := H.length + 5) (l := []) (.inl rfl) (by simp [bcs]) (by simp) (by simp [small]) ?_
 have e7 : small 7 = [55] := by decide
 have e1 : ∀ F : AV → Heap → Prop, ∀ X, zq55_j1 X F = F (.tup []) X := fun F X => by simp [zq55_j1, aRet]
 rw [e1, e7]
 refine String_spec (id2 := H.length + 5) (l := [55]) (p := .ptr (H.length + 2) 0) ?_ ?_ ?_
 ·simp
 ·simp
 ·exact Out.at (H2 := H) (J := [.cells [.int .i64 3, .int .i64 7, .snil], .cells [.int .i64 1, .int .i64 0, .snil], .bld 73 [.ptr (H.length + 2) 0, .sl (bcs [55]) (.own (H.length + 5))], .cells [.int .i64 3, .int .i64 7, .snil], .cells [.int .i64 1, .int .i64 0, .snil], .dead]) (by simp [List.set_append_right]) (Nat.le_refl _) hs .rfl' rfl rfl hK
theorem awake_spec (H : Heap) (K : Kt) (hK : K (.bool true) H) : ACalls Tryz.prog n_zq18 [] H K := by
 refine ACalls.out (zq18_ok fun hs => ?_)
 simp [zq18, aBuild, fillA, Nat.add_assoc]
 refine HasType_37 _ _ ?_
 simp [Nat.add_assoc]
 refine Format_37 _ _ ?_
 simp
 exact Out.bool rfl (Nat.le_refl _) hs hK
def c71 : List AV := [.int .i64 7, .int .i64 0, .sl [[.int .i64 1, .int .i64 0, .sl [] .none]] .full]
def t71 : AV := .agg c71
def i2 : AV := .agg [.int .i64 2, .snil]
end Go.Proofs.YtfpmdpldabopjaaGreatDoor
namespace Go.Proofs.YtfpmdpldabopjaaGreatDoor
open Go Go.Abs
mutual
def fmtV (data : List Dat) : IT → VT → List UInt8
 | .mk n ks, t =>
  if t.kind = 6 then [40] ++ fmtA data ks t.kids true ++ [41]
  else if t.kind = 7 then small n.toNat
  else if t.kind = 5 then [91] ++ fmtE data ks t true ++ [93]
  else [42]
def fmtA (data : List Dat) : List IT → List VT → Bool → List UInt8
 | [], _, _ => []
 | v :: vs, ts, first => match ts with
  | t :: ts => (if first then [] else [44, 32]) ++ fmtV data v t ++ fmtA data vs ts false
  | [] => []
def fmtE (data : List Dat) : List IT → VT → Bool → List UInt8
 | [], _, _ => []
 | .mk c ks :: es, t, first => (if first then [] else [44, 32]) ++ conName data t c ++ (match payT data t c with
  | some ps => if ks.length = 0 then [] else [40] ++ fmtA data ks ps true ++ [41]
  | none => []) ++ fmtE data es t false
end
end Go.Proofs.YtfpmdpldabopjaaGreatDoor
namespace Go.Proofs.YtfpmdpldabopjaaGreatDoor
open Go Go.Abs
set_option maxRecDepth 8000
end Go.Proofs.YtfpmdpldabopjaaGreatDoor
namespace Go.Proofs.YtfpmdpldabopjaaGreatDoor
open Go Go.Abs
@[congr] theorem aDet_cg {m : WM} {g : Bool} {H : Heap} {p : (AV → Heap → Prop) → Prop} {k : AV → Heap → Prop} : aDet m g H p k = aDet m g H p k := rfl
theorem aDet_call {H : Heap} {p : (AV → Heap → Prop) → Prop} {k : AV → Heap → Prop} (r : AV) (H' : Heap) (h : p fun v H2 => v = r ∧ H2 = H') (hk : k r H') : aDet .w false H p k := ⟨r, H', h, (fun h => by cases h), hk⟩
theorem aDet_callC {H : Heap} {p : (AV → Heap → Prop) → Prop} {k : AV → Heap → Prop} (r : AV) (H' : Heap) (h : p fun v H2 => v = r ∧ H2 = H') (hk : k r H') : aDet .c false H p k := ⟨r, H', h, (fun h => by cases h), hk⟩
@[simp] theorem aRet_nil (k : AV → Prop) : aRet [] k = k (.tup []) := by simp [aRet]
def bw (H : Heap) (id id2 : Nat) (l : List UInt8) : Heap := (H.set id2 (.perm 5 1 l.length)).set id (.bld 73 [.ptr id 0, .sl (bcs l) (.own id2)])
structure Bw (H : Heap) (id id2 : Nat) (l : List UInt8) : Prop where
 ne : id ≠ id2
 h1 : ∃ p, (p = .nilp ∨ p = .ptr id 0) ∧ H[id]? = some (.bld 73 [p, .sl (bcs l) (.own id2)])
 h2 : H[id2]? = some (.perm 5 1 l.length)
section
variable {H J : Heap} {id id2 : Nat} {l l' s : List UInt8}
theorem Bw.lt1 (h : Bw H id id2 l) : id < H.length := by obtain ⟨p, _, h⟩ := h.h1; exact (List.getElem?_eq_some_iff.1 h).1
theorem Bw.lt2 (h : Bw H id id2 l) : id2 < H.length := (List.getElem?_eq_some_iff.1 h.h2).1
@[simp] theorem bw_len : (bw H id id2 l).length = H.length := by simp [bw]
theorem bw_bw (hne : id ≠ id2) : bw (bw H id id2 l) id id2 l' = bw H id id2 l' := by
 unfold bw
 rw [List.set_comm _ _ hne, List.set_set, List.set_set]
theorem Bw.app (h : Bw H id id2 l) : Bw (H ++ J) id id2 l := by
 obtain ⟨p, hp, h1⟩ := h.h1
 exact ⟨h.ne, ⟨p, hp, by rw [List.getElem?_append_left h.lt1]; exact h1⟩, by rw [List.getElem?_append_left h.lt2]; exact h.h2⟩
theorem Bw.bw_app (h : Bw H id id2 l) : bw (H ++ J) id id2 l' = bw H id id2 l' ++ J := by
 unfold bw
 rw [List.set_append_left _ _ h.lt2, List.set_append_left _ _ (by simpa using h.lt1)]
theorem Bw.next (h : Bw H id id2 l) : Bw (bw H id id2 l') id id2 l' := by
 refine ⟨h.ne, ⟨_, .inr rfl, ?_⟩, ?_⟩
 ·unfold bw; rw [List.getElem?_set_self (by simpa using h.lt1)]
 ·unfold bw; rw [List.getElem?_set_ne h.ne, List.getElem?_set_self h.lt2]
theorem Bw.hsc (h : Bw H id id2 l) (hs : HSc H) : HSc (bw H id id2 l') := by
 refine HSc.set (HSc.set hs rfl) ?_
 have := h.lt1
 have := h.lt2
 simp [AB.sc, AV.scA, AV.scB]
 try omega
theorem Ws (h : Bw H id id2 l) (hn : l.length + s.length ≤ 140737488355328) {K : AV → Heap → Prop} (hK : K (.tup [.int .i64 s.length, .nili]) (bw H id id2 (l ++ s))) :
  ACalls Tryz.prog n_zq97 [.ptr id 0, .str s] H K := by
 obtain ⟨p, hp, h1⟩ := h.h1
 refine WriteString_spec hp h1 h.h2 hn ?_
 unfold bw at hK
 rwa [List.length_append] at hK
end
end Go.Proofs.YtfpmdpldabopjaaGreatDoor
namespace Go.Proofs.YtfpmdpldabopjaaGreatDoor
open Go Go.Abs
set_option maxRecDepth 8000
theorem small_len (n : Nat) : (small n).length ≤ 2 := by unfold small; split <;> simp
mutual
theorem fmtV_bound {data : List Dat} (hk : KData data) : ∀ (v : IT) (t : VT), (fmtV data v t).length + 44 ≤ 46 * v.nodes
 | .mk n ks, t => by
  have hA := fmtA_bound hk ks t.kids true
  have hE := fmtE_bound hk ks t true
  have hs := small_len n.toNat
  rw [fmtV, IT.nodes]
  split
  ·simp only [List.length_append, List.length_cons, List.length_nil]; omega
  ·split
   ·omega
   ·split
    ·simp only [List.length_append, List.length_cons, List.length_nil]; omega
    ·simp; omega
theorem fmtA_bound {data : List Dat} (hk : KData data) : ∀ (vs : List IT) (ts : List VT) (b : Bool), (fmtA data vs ts b).length ≤ 46 * IT.nodesL vs
 | [], ts, b => by simp [fmtA]
 | v :: vs, [], b => by simp [fmtA]
 | v :: vs, t :: ts, b => by
  have h1 := fmtV_bound hk v t
  have h2 := fmtA_bound hk vs ts false
  have hb : (if b then ([] : List UInt8) else [44, 32]).length ≤ 2 := by cases b <;> simp
  simp only [fmtA, IT.nodesL, List.length_append]
  omega
theorem fmtE_bound {data : List Dat} (hk : KData data) : ∀ (es : List IT) (t : VT) (b : Bool), (fmtE data es t b).length ≤ 46 * IT.nodesL es
 | [], t, b => by simp [fmtE]
 | .mk c ks :: es, t, b => by
  have h2 := fmtE_bound hk es t false
  have h3 := con_bound hk t c
  have hb : (if b then ([] : List UInt8) else [44, 32]).length ≤ 2 := by cases b <;> simp
  simp only [fmtE, IT.nodesL, IT.nodes, List.length_append]
  cases hp : payT data t c with
  | none => simp; omega
  | some ps =>
   have h1 := fmtA_bound hk ks ps true
   by_cases hz : ks.length = 0
   ·simp only [hz, if_true, List.length_nil]; omega
   ·simp only [hz, if_false, List.length_append, List.length_cons, List.length_nil]; omega
end
end Go.Proofs.YtfpmdpldabopjaaGreatDoor
namespace Go.Proofs.YtfpmdpldabopjaaGreatDoor
open Go Go.Abs
theorem toks_len (kw : List UInt8 → Bool) : ∀ (m : Nat) (r : List UInt8) (p : Nat) (l : List Tk), r.length ≤ m → toks kw r p = .ok l → ∀ t ∈ l, t.text.length ≤ r.length := by
 intro m
 induction m with
 | zero =>
  intro r p l hm h t ht
  have : r = [] := List.eq_nil_of_length_eq_zero (by omega)
  subst this
  unfold toks at h
  cases h
  simp at ht
  subst ht
  simp
 | succ m ih =>
  intro r p l hm h t ht
  unfold toks at h
  split at h
  ·cases h
   simp at ht
   subst ht
   simp
  ·rename_i b r'
   simp at hm
   split at h
   ·have := ih r' _ l (by omega) h t ht
    simp; omega
   ·split at h
    ·have h1 := (List.dropWhile_sublist (p := (· != 10)) (l := r')).length_le
     have := ih _ _ l (by omega) h t ht
     simp; omega
    ·split at h
     ·cases h
     ·rename_i k n hk
      split at h
      ·cases h
      ·rename_i l2 hl2
       cases h
       rcases List.mem_cons.1 ht with rfl | ht
       ·simp [List.length_take]; omega
       ·have := ih _ _ l2 (by simp; omega) hl2 t ht
        simp at this ⊢; omega
theorem toks_up {kw : List UInt8 → Bool} {s : List UInt8} {a e : Tk} (h : toks kw s 0 = .ok [a, e]) (hk : a.kind = 2) (ht : a.text = s) : s ≠ [] ∧ ∀ b ∈ s, bIn b = true := by
 unfold toks at h
 split at h
 ·cases h
 ·rename_i b r
  refine ⟨by simp, ?_⟩
  split at h
  ·have := toks_len kw _ r _ _ (Nat.le_refl _) h a (by simp)
   rw [ht] at this
   simp only [List.length_cons] at this
   omega
  ·split at h
   ·have h1 := (List.dropWhile_sublist (p := (· != 10)) (l := r)).length_le
    have := toks_len kw _ _ _ _ (Nat.le_refl _) h a (by simp)
    rw [ht] at this
    simp at this
    omega
   ·split at h
    ·cases h
    ·rename_i k n hkn
     split at h
     ·cases h
     ·rename_i l2 hl2
      injection h with h
      injection h with h1 h2
      subst h1
      simp only at hk ht
      subst hk
      unfold tok at hkn
      split at hkn
      ·rename_i hb
       simp only at hkn
       split at hkn
       ·cases hkn
       ·simp only [Except.ok.injEq, Prod.mk.injEq] at hkn
        obtain ⟨hk2, rfl⟩ := hkn
        have hall : r.takeWhile bIn = r := by
         have : ((b :: r).take ((r.takeWhile bIn).length + 1)).length = (b :: r).length := by rw [ht]
         simp only [List.length_take, List.length_cons] at this
         have hle := (List.takeWhile_prefix (p := bIn) (l := r)).length_le
         exact (List.takeWhile_prefix (p := bIn) (l := r)).eq_of_length (by omega)
        have hbi : bIn b = true := by
         unfold bIn
         simp only [Bool.or_eq_true] at hb ⊢
         rcases hb with hb | hb <;> simp [hb]
        intro x hx
        rcases List.mem_cons.1 hx with rfl | hx
        ·exact hbi
        ·rw [← hall] at hx
         exact List.all_eq_true.1 List.all_takeWhile x hx
      ·split at hkn
       ·simp only at hkn
        split at hkn
        ·cases hkn
        ·split at hkn <;> simp at hkn
       ·simp only at hkn
        split at hkn <;> simp at hkn
theorem upName_spec {s : List UInt8} (h : upName s = true) : s ≠ [] ∧ ∀ b ∈ s, bIn b = true := by
 unfold upName upOf splitL at h
 split at h
 ·simp at h
 ·split at h
  ·simp at h
  ·rename_i l hl
   simp only [Bool.and_eq_true] at h
   obtain ⟨_, h⟩ := h
   match l, hl, h with
   | [a, e], hl, h =>
    simp only [Bool.and_eq_true, beq_iff_eq] at h
    exact toks_up hl h.1 h.2
   | [], _, h => cases h
   | [_], _, h => cases h
   | _ :: _ :: _ :: _, _, h => cases h
theorem con_name {data : List Dat} (hD : dataOk data = true) {d c : Nat} (hd : d < data.length) (hc : c < (data[d]).cons.length) : ((data[d]).cons[c]).name ≠ [] ∧ ∀ b ∈ ((data[d]).cons[c]).name, bIn b = true := by
 simp only [dataOk, Bool.and_eq_true, datsOk_iff, Nat.zero_add] at hD
 have h1 := hD.1.1.2 d hd
 simp only [datOk, Bool.and_eq_true] at h1
 have h2 := List.all_eq_true.1 h1.2 _ (List.getElem_mem hc)
 simp only [conOk, Bool.and_eq_true] at h2
 exact upName_spec h2.1
theorem sub_names {D : Dat} : ∀ (data : List Dat), D ∈ data → (D.cons.map Con.name).Sublist (cnames data)
 | E :: data, h => by
  unfold cnames
  rw [List.flatMap_cons]
  rcases List.mem_cons.1 h with rfl | h
  ·exact List.sublist_append_left _ _
  ·exact (sub_names data h).trans (List.sublist_append_right _ _)
theorem con_diff {data : List Dat} (hD : dataOk data = true) {d c c' : Nat} (hd : d < data.length) (hc : c < (data[d]).cons.length) (hlt : c' < c) : ((data[d]).cons[c']'(by omega)).name ≠ ((data[d]).cons[c]).name := by
 simp only [dataOk, Bool.and_eq_true] at hD
 have h1 := hD.2
 simp only [repeats, Bool.not_not, decide_eq_true_eq] at h1
 have h2 : ((data[d]).cons.map Con.name).Nodup := by
  exact List.Nodup.sublist (sub_names _ (List.getElem_mem hd)) h1
 have := (List.pairwise_iff_getElem.1 h2) c' c (by simp; omega) (by simpa using hc) hlt
 simpa using this
end Go.Proofs.YtfpmdpldabopjaaGreatDoor
namespace Go.Proofs.YtfpmdpldabopjaaGreatDoor
open Go Go.Abs
set_option maxRecDepth 8000
theorem HasPrefix_spec (s p : List UInt8) (hs : s.length ≤ 1000000000) (hp : p.length ≤ 1000000000) (H : Heap) (K : Kt) (hK : K (.bool (decide (p <+: s))) H) : ACalls Tryz.prog n_zq240 [.str s, .str p] H K := by
 refine zq240_ok fun hsc => ?_
 by_cases hl : p.length ≤ s.length
 ·have hl' : (p.length : Int) ≤ s.length := by omega
  have e : (s.take p.length == p) = decide (p <+: s) := by
   rw [Bool.eq_iff_iff, beq_iff_eq, decide_eq_true_iff]
   constructor
   ·intro h
    have h2 := List.take_append_drop p.length s
    rw [h] at h2
    exact ⟨_, h2⟩
   ·rintro ⟨t, ht⟩
    rw [← ht]; simp
  simp [zq240, hl, hl', aSlice, aBound, e]
  exact hK
 ·have hl' : ¬ (p.length : Int) ≤ s.length := by omega
  have e : decide (p <+: s) = false := by
   rw [decide_eq_false_iff_not]
   intro h
   exact hl h.length_le
  rw [e] at hK
  simp [zq240, hl, hl']
  exact hK
theorem CutPrefix_yes (p t : List UInt8) (hs : (p ++ t).length ≤ 1000000000) (H : Heap) (K : Kt) (hK : K (.tup [.str t, .bool true]) H) : ACalls Tryz.prog n_zq168 [.str (p ++ t), .str p] H K := by
 refine zq168_ok fun hsc => ?_
 simp only [List.length_append] at hs
 simp [zq168]
 refine zq213_ok fun hsc => ?_
 simp [zq213]
 refine HasPrefix_spec _ _ (by simp; omega) (by omega) _ _ ?_
 have e : decide (p <+: (p ++ t)) = true := by simp
 rw [e]
 have e2 : List.drop p.length (List.take (p.length + t.length) (p ++ t)) = t := by rw [List.take_of_length_le (by simp)]; simp
 simp [aSlice, aBound, e2, AV.isV]
 exact hK
theorem CutPrefix_no (p s : List UInt8) (hs : s.length ≤ 1000000000) (hp : p.length ≤ 1000000000) (hn : ¬ p <+: s) (H : Heap) (K : Kt) (hK : K (.tup [.str s, .bool false]) H) : ACalls Tryz.prog n_zq168 [.str s, .str p] H K := by
 refine zq168_ok fun hsc => ?_
 simp [zq168]
 refine zq213_ok fun hsc => ?_
 simp [zq213]
 refine HasPrefix_spec _ _ hs hp _ _ ?_
 simp [hn, AV.isV]
 exact hK
end Go.Proofs.YtfpmdpldabopjaaGreatDoor
namespace Go.Proofs.YtfpmdpldabopjaaGreatDoor
open Go Go.Abs
set_option maxRecDepth 100000
def zq36_M (_ : Nat) : List Bool := []
noncomputable def zq36_c : Code := Tryz.f38.body.getD .skip
noncomputable def zq36_r : List ResultVar := Tryz.f38.results.toList
def zq36 (t0 t1 t2 : AV) (H : Heap) (K : Kt) : Prop :=
 aBox t1 H fun t4 H =>
 aNew [(.int .i64 0), (.int .i64 0), .snil] H fun t6 H =>
 aLoad true 3 t4 H fun t11 =>
 ACalls Tryz.prog n_zq48 [t0, t11] H fun t12 H =>
 aUn .not t12 fun t13 =>
 aTest t13
 (aBuild [(.int .i64 0), (.int .i64 0), .snil] [(0, 1), (1, 1), (2, 1)] [] fun t14 =>
 aStore 3 t6 t14 H fun H =>
 aLoad true 3 t6 H fun r0 =>
 aRet [r0, (.bool false)] (K · H))
 (aBuild [.snil, (.str []), (.int .i64 0), (.bool false)] [(0, 1), (1, 1), (2, 1), (3, 1)] [(0, t0), (1, t2), (2, (.int .i64 5000))] fun t17 =>
 aBox t17 H fun t18 H =>
 aLoad true 3 t4 H fun t20 =>
 ACalls Tryz.prog n_zq71 [t18, t20] H fun t21 H =>
 aNew [(.int .i64 0), (.int .i64 0), .snil] H fun t9 H =>
 aStore 3 t9 t21 H fun H =>
 aNil t18 fun t23 =>
 aFld 3 t23 fun t24 =>
 aLoad false 1 t24 H fun t25 =>
 aGuardJ t25 false H (fun K' => K' t18 H) fun t27 H =>
 aGuardJ t25 false H (fun K' => aNil t27 (K' · H)) fun t28 H =>
 aGuardJ t25 false H (fun K' => aFld 1 t28 (K' · H)) fun t29 H =>
 aGuardJ t25 false H (fun K' => aLoad false 1 t29 H (K' · H)) fun t30 H =>
 aGuardJ t25 false H (fun K' => aBin .neq false t30 (.str []) (K' · H)) fun t31 H =>
 aPick t25 (.bool true) t31 fun t32 =>
 aGuardJ t32 false H (fun K' => K' t0 H) fun t34 H =>
 aGuardJ t32 false H (fun K' => aLoad true 3 t9 H (K' · H)) fun t35 H =>
 aGuardJ t32 false H (fun K' => aLoad true 3 t4 H (K' · H)) fun t36 H =>
 aGuardJ t32 false H (fun K' => ACalls Tryz.prog n_zq19 [t34, t35, t36] H K') fun t37 H =>
 aGuardJ t32 false H (fun K' => K' t2 H) fun t38 H =>
 aGuardJ t32 false H (fun K' => aBin .neq false t37 t38 (K' · H)) fun t39 H =>
 aPick t32 (.bool true) t39 fun t40 =>
 aTest t40
 (aBuild [(.int .i64 0), (.int .i64 0), .snil] [(0, 1), (1, 1), (2, 1)] [] fun t41 =>
 aStore 3 t6 t41 H fun H =>
 aLoad true 3 t6 H fun r0 =>
 aRet [r0, (.bool false)] (K · H))
 (aLoad true 3 t9 H fun t42 =>
 aStore 3 t6 t42 H fun H =>
 aLoad true 3 t6 H fun r0 =>
 aRet [r0, (.bool true)] (K · H)))
theorem zq36_eq (t0 t1 t2 : AV) (H : Heap) (K : Kt) : awp Tryz.prog zq36_M zq36_c (retQ Tryz.prog zq36_r K) (t0 :: t1 :: t2 :: List.replicate 40 .unk) H = zq36 t0 t1 t2 H K := by kernel_rfl
theorem zq36_ok {t0 t1 t2 : AV} {H : Heap} {K : Kt} (h : HSc H → zq36 t0 t1 t2 H K) : ACalls Tryz.prog n_zq36 [t0, t1, t2] H K :=
 acalls_body (M := zq36_M) Tryz.func38 (c := zq36_c) (by kernel_rfl) (fun hs => (zq36_eq t0 t1 t2 H K).mpr (h hs))
def zq71_M (_ : Nat) : List Bool := []
noncomputable def zq71_c : Code := Tryz.f73.body.getD .skip
noncomputable def zq71_r : List ResultVar := Tryz.f73.results.toList
def zq71 (t0 t1 : AV) (H : Heap) (K : Kt) : Prop :=
 aBox t1 H fun t3 H =>
 aNew [(.int .i64 0), (.int .i64 0), .snil] H fun t4 H =>
 aNil t0 fun t6 =>
 aFld 2 t6 fun t7 =>
 aLoad false 1 t7 H fun t8 =>
 aBin .sub false t8 (.int .i64 1) fun t9 =>
 aNil t0 fun t10 =>
 aFld 2 t10 fun t11 =>
 aStore 1 t11 t9 H fun H =>
 aNil t0 fun t13 =>
 aFld 3 t13 fun t14 =>
 aLoad false 1 t14 H fun t15 =>
 aGuardJ t15 false H (fun K' => K' t0 H) fun t17 H =>
 aGuardJ t15 false H (fun K' => aNil t17 (K' · H)) fun t18 H =>
 aGuardJ t15 false H (fun K' => aFld 2 t18 (K' · H)) fun t19 H =>
 aGuardJ t15 false H (fun K' => aLoad false 1 t19 H (K' · H)) fun t20 H =>
 aGuardJ t15 false H (fun K' => aBin .lss false t20 (.int .i64 0) (K' · H)) fun t21 H =>
 aPick t15 (.bool true) t21 fun t22 =>
 aTest t22
 (ACalls Tryz.prog n_zq125 [t0] H fun t24 H =>
 aBuild [(.int .i64 0), (.int .i64 0), .snil] [(0, 1), (1, 1), (2, 1)] [] fun t25 =>
 aStore 3 t4 t25 H fun H =>
 aLoad true 3 t4 H fun r0 =>
 K r0 H)
 (aFld 0 t3 fun t26 =>
 aLoad false 1 t26 H fun t27 =>
 aBin .eql false t27 (.int .i64 1) fun t29 =>
 aTest t29
 (ACalls Tryz.prog n_zq126 [t0] H fun t31 H =>
 aBuild [(.int .i64 0), (.int .i64 0), .snil] [(0, 1), (1, 1), (2, 1)] [(0, (.int .i64 3)), (1, t31)] fun t32 =>
 aStore 3 t4 t32 H fun H =>
 aLoad true 3 t4 H fun r0 =>
 K r0 H)
 (aBin .eql false t27 (.int .i64 2) fun t34 =>
 aTest t34
 (ACalls Tryz.prog n_zq127 [t0, (.str [116, 114, 117, 101])] H fun t36 H =>
 aTest t36
 (aBuild [(.int .i64 0), (.int .i64 0), .snil] [(0, 1), (1, 1), (2, 1)] [(0, (.int .i64 2)), (1, (.int .i64 1))] fun t37 =>
 aStore 3 t4 t37 H fun H =>
 aLoad true 3 t4 H fun r0 =>
 K r0 H)
 (ACalls Tryz.prog n_zq128 [t0, (.str [102, 97, 108, 115, 101])] H fun t39 H =>
 aBuild [(.int .i64 0), (.int .i64 0), .snil] [(0, 1), (1, 1), (2, 1)] [(0, (.int .i64 2))] fun t40 =>
 aStore 3 t4 t40 H fun H =>
 aLoad true 3 t4 H fun r0 =>
 K r0 H))
 (aBin .eql false t27 (.int .i64 3) fun t42 =>
 aTest t42
 (ACalls Tryz.prog n_zq128 [t0, (.str [40, 41])] H fun t44 H =>
 aBuild [(.int .i64 0), (.int .i64 0), .snil] [(0, 1), (1, 1), (2, 1)] [(0, (.int .i64 1))] fun t45 =>
 aStore 3 t4 t45 H fun H =>
 aLoad true 3 t4 H fun r0 =>
 K r0 H)
 (aBin .eql false t27 (.int .i64 6) fun t47 =>
 aTest t47
 (aFld 2 t3 fun t49 =>
 aLoad false 1 t49 H fun t50 =>
 ACalls Tryz.prog n_zq129 [t0, t50] H fun t51 H =>
 aBuild [(.int .i64 0), (.int .i64 0), .snil] [(0, 1), (1, 1), (2, 1)] [(0, (.int .i64 4)), (2, t51)] fun t52 =>
 aStore 3 t4 t52 H fun H =>
 aLoad true 3 t4 H fun r0 =>
 K r0 H)
 (aBin .eql false t27 (.int .i64 5) fun t54 =>
 aTest t54
 (aLoad true 3 t3 H fun t56 =>
 ACalls Tryz.prog n_zq130 [t0, t56] H fun t57 H =>
 aStore 3 t4 t57 H fun H =>
 aLoad true 3 t4 H fun r0 =>
 K r0 H)
 (aBin .eql false t27 (.int .i64 7) fun t59 =>
 aTest t59
 (aFld 2 t3 fun t61 =>
 aLoad false 1 t61 H fun t62 =>
 aIdxA 3 t62 (.int .i64 0) fun t63 =>
 aLoad true 3 t63 H fun t64 =>
 ACalls Tryz.prog n_zq131 [t0, t64] H fun t65 H =>
 aStore 3 t4 t65 H fun H =>
 aLoad true 3 t4 H fun r0 =>
 K r0 H)
 (aBin .eql false t27 (.int .i64 8) fun t67 =>
 aTest t67
 (ACalls Tryz.prog n_zq128 [t0, (.str [114, 101, 102])] H fun t69 H =>
 aFld 2 t3 fun t71 =>
 aLoad false 1 t71 H fun t72 =>
 ACalls Tryz.prog n_zq129 [t0, t72] H fun t73 H =>
 aBuild [(.int .i64 0), (.int .i64 0), .snil] [(0, 1), (1, 1), (2, 1)] [(0, (.int .i64 7)), (2, t73)] fun t74 =>
 aStore 3 t4 t74 H fun H =>
 aLoad true 3 t4 H fun r0 =>
 K r0 H)
 (ACalls Tryz.prog n_zq128 [t0, (.str [102, 110, 35])] H fun t76 H =>
 ACalls Tryz.prog n_zq126 [t0] H fun t78 H =>
 aBuild [(.int .i64 0), (.int .i64 0), .snil] [(0, 1), (1, 1), (2, 1)] [(0, (.int .i64 8)), (1, t78)] fun t79 =>
 aStore 3 t4 t79 H fun H =>
 aLoad true 3 t4 H fun r0 =>
 K r0 H))))))))
theorem zq71_eq (t0 t1 : AV) (H : Heap) (K : Kt) : awp Tryz.prog zq71_M zq71_c (retQ Tryz.prog zq71_r K) (t0 :: t1 :: List.replicate 78 .unk) H = zq71 t0 t1 H K := by kernel_rfl
theorem zq71_ok {t0 t1 : AV} {H : Heap} {K : Kt} (h : HSc H → zq71 t0 t1 H K) : ACalls Tryz.prog n_zq71 [t0, t1] H K :=
 acalls_body (M := zq71_M) Tryz.func73 (c := zq71_c) (by kernel_rfl) (fun hs => (zq71_eq t0 t1 H K).mpr (h hs))
def zq125_M (_ : Nat) : List Bool := []
noncomputable def zq125_c : Code := Tryz.f127.body.getD .skip
noncomputable def zq125_r : List ResultVar := Tryz.f127.results.toList
def zq125 (t0 : AV) (H : Heap) (K : Kt) : Prop :=
 aNil t0 fun t4 =>
 aFld 3 t4 fun t5 =>
 aStore 1 t5 (.bool true) H fun H =>
 aNil t0 fun t6 =>
 aFld 1 t6 fun t7 =>
 aStore 1 t7 (.str []) H fun H =>
 aRet [] (K · H)
theorem zq125_eq (t0 : AV) (H : Heap) (K : Kt) : awp Tryz.prog zq125_M zq125_c (retQ Tryz.prog zq125_r K) (t0 :: List.replicate 7 .unk) H = zq125 t0 H K := by kernel_rfl
theorem zq125_ok {t0 : AV} {H : Heap} {K : Kt} (h : HSc H → zq125 t0 H K) : ACalls Tryz.prog n_zq125 [t0] H K :=
 acalls_body (M := zq125_M) Tryz.func127 (c := zq125_c) (by kernel_rfl) (fun hs => (zq125_eq t0 H K).mpr (h hs))
def zq126_M : Nat → List Bool
 | 2 => rl false [0,1,2,1,62]
 | _ => []
noncomputable def zq126_c : Code := Tryz.f128.body.getD .skip
noncomputable def zq126_r : List ResultVar := Tryz.f128.results.toList
def zq126_fr2 (t0 t3 : AV) : List AV := t0 :: ux 2 (t3 :: ux 62 [])
def zq126_m2 : List Bool := zq126_M 2
noncomputable def zq126_c2 : Code := codeAt [1, 1, 0, 0, 0] zq126_c
def zq126_Q2 (K : Kt) : AExit → List AV → Heap → Prop := contAt Tryz.prog zq126_M [1, 1, 0, 0] zq126_c (retQ Tryz.prog zq126_r K)
def zq126_l2 (t0 t3 : AV) (H : Heap) (K : Kt) : Prop := ALoop Tryz.prog zq126_c2 (zq126_Q2 K) (zq126_fr2 t0 t3) H
def zq126_b2 (t0 t3 : AV) (H : Heap) (K : Kt) (Kb2 : Lt) : Prop :=
 aNil t0 fun t8 =>
 aFld 1 t8 fun t9 =>
 aLoad false 1 t9 H fun t10 =>
 aLen 0 t10 fun t11 =>
 aBin .lss false t3 t11 fun t12 =>
 aGuardJ t12 true H (fun K' => K' t0 H) fun t14 H =>
 aGuardJ t12 true H (fun K' => aNil t14 (K' · H)) fun t15 H =>
 aGuardJ t12 true H (fun K' => aFld 1 t15 (K' · H)) fun t16 H =>
 aGuardJ t12 true H (fun K' => aLoad false 1 t16 H (K' · H)) fun t17 H =>
 aGuardJ t12 true H (fun K' => K' t3 H) fun t18 H =>
 aGuardJ t12 true H (fun K' => aIdxS t17 t18 (K' · H)) fun t19 H =>
 aGuardJ t12 true H (fun K' => aBin .eql false t19 (.int .u8 45) (K' · H)) fun t20 H =>
 aGuardJ t12 true H (fun K' => K' t20 H) fun t21 H =>
 aGuardJ t21 false H (fun K' => K' t0 H) fun t22 H =>
 aGuardJ t21 false H (fun K' => aNil t22 (K' · H)) fun t23 H =>
 aGuardJ t21 false H (fun K' => aFld 1 t23 (K' · H)) fun t24 H =>
 aGuardJ t21 false H (fun K' => aLoad false 1 t24 H (K' · H)) fun t25 H =>
 aGuardJ t21 false H (fun K' => K' t3 H) fun t26 H =>
 aGuardJ t21 false H (fun K' => aIdxS t25 t26 (K' · H)) fun t27 H =>
 aGuardJ t21 false H (fun K' => aBin .geq false t27 (.int .u8 48) (K' · H)) fun t28 H =>
 aGuardJ t21 false H (fun K' => K' t28 H) fun t29 H =>
 aGuardJ t29 true H (fun K' => K' t0 H) fun t30 H =>
 aGuardJ t29 true H (fun K' => aNil t30 (K' · H)) fun t31 H =>
 aGuardJ t29 true H (fun K' => aFld 1 t31 (K' · H)) fun t32 H =>
 aGuardJ t29 true H (fun K' => aLoad false 1 t32 H (K' · H)) fun t33 H =>
 aGuardJ t29 true H (fun K' => K' t3 H) fun t34 H =>
 aGuardJ t29 true H (fun K' => aIdxS t33 t34 (K' · H)) fun t35 H =>
 aGuardJ t29 true H (fun K' => aBin .leq false t35 (.int .u8 57) (K' · H)) fun t36 H =>
 aGuardJ t21 false H (fun K' => aPick t29 t36 (.bool false) (K' · H)) fun t37 H =>
 aGuardJ t12 true H (fun K' => aPick t21 (.bool true) t37 (K' · H)) fun t38 H =>
 aPick t12 t38 (.bool false) fun t39 =>
 aTest t39
 (aBin .add false t3 (.int .i64 1) fun t41 =>
 Kb2 (zq126_fr2 t0 t41) H)
 (aNil t0 fun t44 =>
 aFld 1 t44 fun t45 =>
 aLoad false 1 t45 H fun t46 =>
 aSlice 0 0 t46 none (some t3) fun t48 =>
 ACalls Tryz.prog n_zq170 [t48, (.int .i64 10), (.int .i64 64)] H fun t49 H =>
 aExt t49 0 fun t50 =>
 aExt t49 1 fun t51 =>
 aNilCmp true .neq t51 fun t53 =>
 aTest t53
 (ACalls Tryz.prog n_zq125 [t0] H fun t55 H =>
 K (.int .i64 0) H)
 (aNil t0 fun t58 =>
 aFld 1 t58 fun t59 =>
 aLoad false 1 t59 H fun t60 =>
 aSlice 0 0 t60 (some t3) none fun t62 =>
 aNil t0 fun t63 =>
 aFld 1 t63 fun t64 =>
 aStore 1 t64 t62 H fun H =>
 K t50 H))
def zq126 (t0 : AV) (H : Heap) (K : Kt) : Prop :=
 zq126_l2 t0 (.int .i64 0) H K
theorem zq126_b2_eq (t0 t3 : AV) (H : Heap) (K : Kt) (Kb2 : Lt) : awp Tryz.prog zq126_M zq126_c2 (roundQ zq126_m2 Kb2 (zq126_Q2 K)) (zq126_fr2 t0 t3) H = zq126_b2 t0 t3 H K Kb2 := by kernel_rfl
theorem zq126_loop2 {t0 t3 : AV} {H : Heap} {K : Kt} (Inv : Nat → AV → Heap → Prop) (n : Nat) (h0 : HSc H → Inv n t3 H)
  (round : ∀ n t3 H', Inv n t3 H' → HSc H' → H.length ≤ H'.length → (zq126_fr2 t0 t3).all (AV.sc H'.length) = true → ∀ Kb2 : Lt, (∀ F'' H'', (∃ n', n' < n ∧ Back H.length (fun F2 H2 => ∃ t3, F2 = zq126_fr2 t0 t3 ∧ Inv n' t3 H2) F'' H'') → Kb2 F'' H'') → zq126_b2 t0 t3 H' K Kb2) : zq126_l2 t0 t3 H K :=
 aloop (M := zq126_M) zq126_m2 (fun n F H => ∃ t3, F = zq126_fr2 t0 t3 ∧ Inv n t3 H) n (fun hs _ => ⟨t3, rfl, h0 hs⟩) (fun n F H' ⟨t3, hF, hI⟩ h1 h2 h3 => by subst hF; rw [zq126_b2_eq]; exact round n t3 H' hI h1 h2 h3 _ (fun _ _ h => h))
theorem zq126_eq (t0 : AV) (H : Heap) (K : Kt) : awp Tryz.prog zq126_M zq126_c (retQ Tryz.prog zq126_r K) (t0 :: List.replicate 65 .unk) H = zq126 t0 H K := by kernel_rfl
theorem zq126_ok {t0 : AV} {H : Heap} {K : Kt} (h : HSc H → zq126 t0 H K) : ACalls Tryz.prog n_zq126 [t0] H K :=
 acalls_body (M := zq126_M) Tryz.func128 (c := zq126_c) (by kernel_rfl) (fun hs => (zq126_eq t0 H K).mpr (h hs))
def zq127_M (_ : Nat) : List Bool := []
noncomputable def zq127_c : Code := Tryz.f129.body.getD .skip
noncomputable def zq127_r : List ResultVar := Tryz.f129.results.toList
def zq127_j1 (t6 : AV) (H : Heap) (K : Kt) : Prop :=
 K t6 H
def zq127 (t0 t1 : AV) (H : Heap) (K : Kt) : Prop :=
 aNil t0 fun t9 =>
 aFld 1 t9 fun t10 =>
 aLoad false 1 t10 H fun t11 =>
 ACalls Tryz.prog n_zq168 [t11, t1] H fun t13 H =>
 aExt t13 0 fun t14 =>
 aExt t13 1 fun t15 =>
 aTest t15
 (aNil t0 fun t19 =>
 aFld 1 t19 fun t20 =>
 aStore 1 t20 t14 H fun H =>
 zq127_j1 t15 H K)
 (zq127_j1 t15 H K)
theorem zq127_eq (t0 t1 : AV) (H : Heap) (K : Kt) : awp Tryz.prog zq127_M zq127_c (retQ Tryz.prog zq127_r K) (t0 :: t1 :: List.replicate 20 .unk) H = zq127 t0 t1 H K := by kernel_rfl
theorem zq127_ok {t0 t1 : AV} {H : Heap} {K : Kt} (h : HSc H → zq127 t0 t1 H K) : ACalls Tryz.prog n_zq127 [t0, t1] H K :=
 acalls_body (M := zq127_M) Tryz.func129 (c := zq127_c) (by kernel_rfl) (fun hs => (zq127_eq t0 t1 H K).mpr (h hs))
def zq128_M (_ : Nat) : List Bool := []
noncomputable def zq128_c : Code := Tryz.f130.body.getD .skip
noncomputable def zq128_r : List ResultVar := Tryz.f130.results.toList
def zq128 (t0 t1 : AV) (H : Heap) (K : Kt) : Prop :=
 ACalls Tryz.prog n_zq127 [t0, t1] H fun t6 H =>
 aUn .not t6 fun t7 =>
 aTest t7
 (ACalls Tryz.prog n_zq125 [t0] H fun t9 H =>
 aRet [] (K · H))
 (aRet [] (K · H))
theorem zq128_eq (t0 t1 : AV) (H : Heap) (K : Kt) : awp Tryz.prog zq128_M zq128_c (retQ Tryz.prog zq128_r K) (t0 :: t1 :: List.replicate 8 .unk) H = zq128 t0 t1 H K := by kernel_rfl
theorem zq128_ok {t0 t1 : AV} {H : Heap} {K : Kt} (h : HSc H → zq128 t0 t1 H K) : ACalls Tryz.prog n_zq128 [t0, t1] H K :=
 acalls_body (M := zq128_M) Tryz.func130 (c := zq128_c) (by kernel_rfl) (fun hs => (zq128_eq t0 t1 H K).mpr (h hs))
def zq129_M : Nat → List Bool
 | 4 => rl false [0,1,4,1,4,3,18]
 | _ => []
noncomputable def zq129_c : Code := Tryz.f131.body.getD .skip
noncomputable def zq129_r : List ResultVar := Tryz.f131.results.toList
def zq129_fr4 (t0 t5 t10 t11 t12 : AV) : List AV := t0 :: ux 4 (t5 :: ux 4 (t10 :: t11 :: t12 :: ux 18 []))
def zq129_m4 : List Bool := zq129_M 4
noncomputable def zq129_c4 : Code := codeAt [1, 1, 1, 0, 1, 0, 0] zq129_c
def zq129_Q4 (K : Kt) : AExit → List AV → Heap → Prop := contAt Tryz.prog zq129_M [1, 1, 1, 0, 1, 0] zq129_c (retQ Tryz.prog zq129_r K)
def zq129_l4 (t0 t5 t10 t11 t12 : AV) (H : Heap) (K : Kt) : Prop := ALoop Tryz.prog zq129_c4 (zq129_Q4 K) (zq129_fr4 t0 t5 t10 t11 t12) H
def zq129_j1 (t0 t5 t7 t10 t11 t12 : AV) (H : Heap) (K : Kt) (Kb4 : Lt) : Prop :=
 aLoad true 3 t7 H fun t23 =>
 ACalls Tryz.prog n_zq71 [t0, t23] H fun t24 H =>
 aBuildS 3 [(.int .i64 0), (.int .i64 0), .snil] 1 [(0, t24)] fun t25 =>
 aAppend e_api_Value 3 40 t5 t25 H fun t26 H =>
 aBin .add false t12 (.int .i64 1) fun t27 =>
 Kb4 (zq129_fr4 t0 t26 t10 t11 t27) H
def zq129_b4 (t0 t5 t10 t11 t12 : AV) (H : Heap) (K : Kt) (Kb4 : Lt) : Prop :=
 aBin .lss false t12 t11 fun t13 =>
 aTest t13
 (aIdxA 3 t10 t12 fun t15 =>
 aLoad true 3 t15 H fun t16 =>
 aNew [(.int .i64 0), (.int .i64 0), .snil] H fun t7 H =>
 aStore 3 t7 t16 H fun H =>
 aBin .gtr false t12 (.int .i64 0) fun t18 =>
 aTest t18
 (ACalls Tryz.prog n_zq128 [t0, (.str [44, 32])] H fun t20 H =>
 zq129_j1 t0 t5 t7 t10 t11 t12 H K Kb4)
 (zq129_j1 t0 t5 t7 t10 t11 t12 H K Kb4))
 (ACalls Tryz.prog n_zq128 [t0, (.str [41])] H fun t29 H =>
 K t5 H)
def zq129 (t0 t1 : AV) (H : Heap) (K : Kt) : Prop :=
 ACalls Tryz.prog n_zq128 [t0, (.str [40])] H fun t9 H =>
 aLen 1 t1 fun t11 =>
 zq129_l4 t0 .snil t1 t11 (.int .i64 0) H K
theorem zq129_b4_eq (t0 t5 t10 t11 t12 : AV) (H : Heap) (K : Kt) (Kb4 : Lt) : awp Tryz.prog zq129_M zq129_c4 (roundQ zq129_m4 Kb4 (zq129_Q4 K)) (zq129_fr4 t0 t5 t10 t11 t12) H = zq129_b4 t0 t5 t10 t11 t12 H K Kb4 := by kernel_rfl
theorem zq129_loop4 {t0 t5 t10 t11 t12 : AV} {H : Heap} {K : Kt} (Inv : Nat → AV → AV → Heap → Prop) (n : Nat) (h0 : HSc H → Inv n t5 t12 H)
  (round : ∀ n t5 t12 H', Inv n t5 t12 H' → HSc H' → H.length ≤ H'.length → (zq129_fr4 t0 t5 t10 t11 t12).all (AV.sc H'.length) = true → ∀ Kb4 : Lt, (∀ F'' H'', (∃ n', n' < n ∧ Back H.length (fun F2 H2 => ∃ t5 t12, F2 = zq129_fr4 t0 t5 t10 t11 t12 ∧ Inv n' t5 t12 H2) F'' H'') → Kb4 F'' H'') → zq129_b4 t0 t5 t10 t11 t12 H' K Kb4) : zq129_l4 t0 t5 t10 t11 t12 H K :=
 aloop (M := zq129_M) zq129_m4 (fun n F H => ∃ t5 t12, F = zq129_fr4 t0 t5 t10 t11 t12 ∧ Inv n t5 t12 H) n (fun hs _ => ⟨t5, t12, rfl, h0 hs⟩) (fun n F H' ⟨t5, t12, hF, hI⟩ h1 h2 h3 => by subst hF; rw [zq129_b4_eq]; exact round n t5 t12 H' hI h1 h2 h3 _ (fun _ _ h => h))
theorem zq129_eq (t0 t1 : AV) (H : Heap) (K : Kt) : awp Tryz.prog zq129_M zq129_c (retQ Tryz.prog zq129_r K) (t0 :: t1 :: List.replicate 29 .unk) H = zq129 t0 t1 H K := by kernel_rfl
theorem zq129_ok {t0 t1 : AV} {H : Heap} {K : Kt} (h : HSc H → zq129 t0 t1 H K) : ACalls Tryz.prog n_zq129 [t0, t1] H K :=
 acalls_body (M := zq129_M) Tryz.func131 (c := zq129_c) (by kernel_rfl) (fun hs => (zq129_eq t0 t1 H K).mpr (h hs))
def zq130_M : Nat → List Bool
 | 2 => rl false [0,1,2,3,86]
 | 7 => rl false [0,1,2,2,1,1,48,3,34]
 | _ => []
noncomputable def zq130_c : Code := Tryz.f132.body.getD .skip
noncomputable def zq130_r : List ResultVar := Tryz.f132.results.toList
def zq130_fr2 (t0 t3 t4 t5 : AV) : List AV := t0 :: ux 2 (t3 :: t4 :: t5 :: ux 86 [])
def zq130_m2 : List Bool := zq130_M 2
noncomputable def zq130_c2 : Code := codeAt [1, 1, 0, 0, 0] zq130_c
def zq130_Q2 (K : Kt) : AExit → List AV → Heap → Prop := contAt Tryz.prog zq130_M [1, 1, 0, 0] zq130_c (retQ Tryz.prog zq130_r K)
def zq130_l2 (t0 t3 t4 t5 : AV) (H : Heap) (K : Kt) : Prop := ALoop Tryz.prog zq130_c2 (zq130_Q2 K) (zq130_fr2 t0 t3 t4 t5) H
def zq130_fr7 (t0 t3 t4 t6 t55 t56 t57 : AV) : List AV := t0 :: ux 2 (t3 :: t4 :: ux 1 (t6 :: ux 48 (t55 :: t56 :: t57 :: ux 34 [])))
def zq130_m7 : List Bool := zq130_M 7
noncomputable def zq130_c7 : Code := codeAt [1, 1, 1, 1, 1, 0, 1, 0, 0] zq130_c
def zq130_Q7 (K : Kt) : AExit → List AV → Heap → Prop := contAt Tryz.prog zq130_M [1, 1, 1, 1, 1, 0, 1, 0] zq130_c (retQ Tryz.prog zq130_r K)
def zq130_l7 (t0 t3 t4 t6 t55 t56 t57 : AV) (H : Heap) (K : Kt) : Prop := ALoop Tryz.prog zq130_c7 (zq130_Q7 K) (zq130_fr7 t0 t3 t4 t6 t55 t56 t57) H
def zq130_j2 (t0 t4 : AV) (H : Heap) (K : Kt) : Prop :=
 ACalls Tryz.prog n_zq125 [t0] H fun t90 H =>
 aBuild [(.int .i64 0), (.int .i64 0), .snil] [(0, 1), (1, 1), (2, 1)] [] fun t91 =>
 aStore 3 t4 t91 H fun H =>
 aLoad true 3 t4 H fun r0 =>
 K r0 H
def zq130_j1 (t0 t4 : AV) (H : Heap) (K : Kt) : Prop :=
 zq130_j2 t0 t4 H K
def zq130_j3 (t4 t11 : AV) (H : Heap) (K : Kt) (Kb7 : Lt) : Prop :=
 aLoad true 3 t11 H fun t87 =>
 aStore 3 t4 t87 H fun H =>
 aLoad true 3 t4 H fun r0 =>
 K r0 H
def zq130_b7 (t0 t3 t4 t6 t55 t56 t57 : AV) (H : Heap) (K : Kt) (Kb7 : Lt) : Prop :=
 aBin .lss false t57 t56 fun t58 =>
 aTest t58
 (aIdxA 2 t55 t57 fun t60 =>
 aLoad true 2 t60 H fun t61 =>
 aNew [(.str []), .snil] H fun t8 H =>
 aStore 2 t8 t61 H fun H =>
 aFld 0 t8 fun t62 =>
 aLoad false 1 t62 H fun t63 =>
 aBin .neq false t63 t6 fun t65 =>
 aTest t65
 (aBin .add false t57 (.int .i64 1) fun t88 =>
 Kb7 (zq130_fr7 t0 t3 t4 t6 t55 t56 t88) H)
 (aPure H (fun K' => K' t0 H) fun t67 =>
 aPure H (fun K' => aNil t67 (K' · H)) fun t68 =>
 aPure H (fun K' => aFld 0 t68 (K' · H)) fun t69 =>
 aPure H (fun K' => aLoadC false 1 t69 H (K' · H)) fun t70 =>
 aPure H (fun K' => aLoadC true 3 t3 H (K' · H)) fun t71 =>
 aPure H (fun K' => K' t57 H) fun t72 =>
 aPureX H (fun H K' => ACalls Tryz.prog n_zq89 [t70, t71, t72] H K') fun t73 =>
 aPure H (fun K' => K' t73 H) fun t66 =>
 aPure H (fun K' => aExt t66 0 (K' · H)) fun t74 =>
 aPure H (fun K' => aExt t66 1 (K' · H)) fun t75 =>
 aPure H (fun K' => K' t74 H) fun t9 =>
 aPure H (fun K' => K' t75 H) fun t10 =>
 aUn .not t10 fun t77 =>
 aTest t77
 (zq130_j1 t0 t4 H K)
 (aBuild [(.int .i64 0), (.int .i64 0), .snil] [(0, 1), (1, 1), (2, 1)] [(0, (.int .i64 5)), (1, t57)] fun t79 =>
 aNew [(.int .i64 0), (.int .i64 0), .snil] H fun t11 H =>
 aStore 3 t11 t79 H fun H =>
 aLen 1 t9 fun t81 =>
 aBin .gtr false t81 (.int .i64 0) fun t82 =>
 aTest t82
 (ACalls Tryz.prog n_zq129 [t0, t9] H fun t85 H =>
 aFld 2 t11 fun t86 =>
 aStore 1 t86 t85 H fun H =>
 zq130_j3 t4 t11 H K Kb7)
 (zq130_j3 t4 t11 H K Kb7))))
 (zq130_j1 t0 t4 H K)
def zq130_b2 (t0 t3 t4 t5 : AV) (H : Heap) (K : Kt) (Kb2 : Lt) : Prop :=
 aNil t0 fun t14 =>
 aFld 1 t14 fun t15 =>
 aLoad false 1 t15 H fun t16 =>
 aLen 0 t16 fun t17 =>
 aBin .lss false t5 t17 fun t18 =>
 aGuardJ t18 true H (fun K' => K' t0 H) fun t20 H =>
 aGuardJ t18 true H (fun K' => aNil t20 (K' · H)) fun t21 H =>
 aGuardJ t18 true H (fun K' => aFld 1 t21 (K' · H)) fun t22 H =>
 aGuardJ t18 true H (fun K' => aLoad false 1 t22 H (K' · H)) fun t23 H =>
 aGuardJ t18 true H (fun K' => K' t5 H) fun t24 H =>
 aGuardJ t18 true H (fun K' => aIdxS t23 t24 (K' · H)) fun t25 H =>
 aGuardJ t18 true H (fun K' => aConv .i32 t25 (K' · H)) fun t26 H =>
 aGuardJ t18 true H (fun K' => ACalls Tryz.prog n_zq171 [(.str [40, 41, 44, 32, 91, 93]), t26] H K') fun t27 H =>
 aGuardJ t18 true H (fun K' => aUn .not t27 (K' · H)) fun t28 H =>
 aPick t18 t28 (.bool false) fun t29 =>
 aTest t29
 (aBin .add false t5 (.int .i64 1) fun t31 =>
 Kb2 (zq130_fr2 t0 t3 t4 t31) H)
 (aNil t0 fun t33 =>
 aFld 1 t33 fun t34 =>
 aLoad false 1 t34 H fun t35 =>
 aSlice 0 0 t35 none (some t5) fun t37 =>
 aNil t0 fun t40 =>
 aFld 1 t40 fun t41 =>
 aLoad false 1 t41 H fun t42 =>
 aSlice 0 0 t42 (some t5) none fun t44 =>
 aNil t0 fun t45 =>
 aFld 1 t45 fun t46 =>
 aStore 1 t46 t44 H fun H =>
 aPure H (fun K' => K' t0 H) fun t47 =>
 aPure H (fun K' => aNil t47 (K' · H)) fun t48 =>
 aPure H (fun K' => aFld 0 t48 (K' · H)) fun t49 =>
 aPure H (fun K' => aLoadC false 1 t49 H (K' · H)) fun t50 =>
 aPure H (fun K' => aFld 1 t3 (K' · H)) fun t51 =>
 aPure H (fun K' => aLoadC false 1 t51 H (K' · H)) fun t52 =>
 aPure H (fun K' => aIdxA 3 t50 t52 (K' · H)) fun t53 =>
 aPure H (fun K' => aFld 2 t53 (K' · H)) fun t54 =>
 aPure H (fun K' => aLoadC false 1 t54 H (K' · H)) fun t55 =>
 aPure H (fun K' => aLen 1 t55 (K' · H)) fun t56 =>
 aPure H (fun K' => K' (.int .i64 0) H) fun t57 =>
 zq130_l7 t0 t3 t4 t37 t55 t56 t57 H K)
def zq130 (t0 t1 : AV) (H : Heap) (K : Kt) : Prop :=
 aBox t1 H fun t3 H =>
 aNew [(.int .i64 0), (.int .i64 0), .snil] H fun t4 H =>
 zq130_l2 t0 t3 t4 (.int .i64 0) H K
theorem zq130_b7_eq (t0 t3 t4 t6 t55 t56 t57 : AV) (H : Heap) (K : Kt) (Kb7 : Lt) : awp Tryz.prog zq130_M zq130_c7 (roundQ zq130_m7 Kb7 (zq130_Q7 K)) (zq130_fr7 t0 t3 t4 t6 t55 t56 t57) H = zq130_b7 t0 t3 t4 t6 t55 t56 t57 H K Kb7 := by kernel_rfl
theorem zq130_loop7 {t0 t3 t4 t6 t55 t56 t57 : AV} {H : Heap} {K : Kt} (Inv : Nat → AV → Heap → Prop) (n : Nat) (h0 : HSc H → Inv n t57 H)
  (round : ∀ n t57 H', Inv n t57 H' → HSc H' → H.length ≤ H'.length → (zq130_fr7 t0 t3 t4 t6 t55 t56 t57).all (AV.sc H'.length) = true → ∀ Kb7 : Lt, (∀ F'' H'', (∃ n', n' < n ∧ Back H.length (fun F2 H2 => ∃ t57, F2 = zq130_fr7 t0 t3 t4 t6 t55 t56 t57 ∧ Inv n' t57 H2) F'' H'') → Kb7 F'' H'') → zq130_b7 t0 t3 t4 t6 t55 t56 t57 H' K Kb7) : zq130_l7 t0 t3 t4 t6 t55 t56 t57 H K :=
 aloop (M := zq130_M) zq130_m7 (fun n F H => ∃ t57, F = zq130_fr7 t0 t3 t4 t6 t55 t56 t57 ∧ Inv n t57 H) n (fun hs _ => ⟨t57, rfl, h0 hs⟩) (fun n F H' ⟨t57, hF, hI⟩ h1 h2 h3 => by subst hF; rw [zq130_b7_eq]; exact round n t57 H' hI h1 h2 h3 _ (fun _ _ h => h))
theorem zq130_b2_eq (t0 t3 t4 t5 : AV) (H : Heap) (K : Kt) (Kb2 : Lt) : awp Tryz.prog zq130_M zq130_c2 (roundQ zq130_m2 Kb2 (zq130_Q2 K)) (zq130_fr2 t0 t3 t4 t5) H = zq130_b2 t0 t3 t4 t5 H K Kb2 := by kernel_rfl
theorem zq130_loop2 {t0 t3 t4 t5 : AV} {H : Heap} {K : Kt} (Inv : Nat → AV → Heap → Prop) (n : Nat) (h0 : HSc H → Inv n t5 H)
  (round : ∀ n t5 H', Inv n t5 H' → HSc H' → H.length ≤ H'.length → (zq130_fr2 t0 t3 t4 t5).all (AV.sc H'.length) = true → ∀ Kb2 : Lt, (∀ F'' H'', (∃ n', n' < n ∧ Back H.length (fun F2 H2 => ∃ t5, F2 = zq130_fr2 t0 t3 t4 t5 ∧ Inv n' t5 H2) F'' H'') → Kb2 F'' H'') → zq130_b2 t0 t3 t4 t5 H' K Kb2) : zq130_l2 t0 t3 t4 t5 H K :=
 aloop (M := zq130_M) zq130_m2 (fun n F H => ∃ t5, F = zq130_fr2 t0 t3 t4 t5 ∧ Inv n t5 H) n (fun hs _ => ⟨t5, rfl, h0 hs⟩) (fun n F H' ⟨t5, hF, hI⟩ h1 h2 h3 => by subst hF; rw [zq130_b2_eq]; exact round n t5 H' hI h1 h2 h3 _ (fun _ _ h => h))
theorem zq130_eq (t0 t1 : AV) (H : Heap) (K : Kt) : awp Tryz.prog zq130_M zq130_c (retQ Tryz.prog zq130_r K) (t0 :: t1 :: List.replicate 90 .unk) H = zq130 t0 t1 H K := by kernel_rfl
theorem zq130_ok {t0 t1 : AV} {H : Heap} {K : Kt} (h : HSc H → zq130 t0 t1 H K) : ACalls Tryz.prog n_zq130 [t0, t1] H K :=
 acalls_body (M := zq130_M) Tryz.func132 (c := zq130_c) (by kernel_rfl) (fun hs => (zq130_eq t0 t1 H K).mpr (h hs))
def zq131_M : Nat → List Bool
 | 200005 => rl false [0,13]
 | 6 => rl false [0,1,2,3,27]
 | 200007 => rl false [0,13]
 | _ => []
noncomputable def zq131_c : Code := Tryz.f133.body.getD .skip
noncomputable def zq131_r : List ResultVar := Tryz.f133.results.toList
def zq131_fr6 (t0 t3 t4 t5 : AV) : List AV := t0 :: ux 2 (t3 :: t4 :: t5 :: ux 27 [])
def zq131_m6 : List Bool := zq131_M 6
noncomputable def zq131_c6 : Code := codeAt [1, 1, 1, 1, 1, 0, 0, 0] zq131_c
def zq131_Q6 (K : Kt) : AExit → List AV → Heap → Prop := contAt Tryz.prog zq131_M [1, 1, 1, 1, 1, 0, 0] zq131_c (retQ Tryz.prog zq131_r K)
def zq131_l6 (t0 t3 t4 t5 : AV) (H : Heap) (K : Kt) : Prop := ALoop Tryz.prog zq131_c6 (zq131_Q6 K) (zq131_fr6 t0 t3 t4 t5) H
def zq131_j2 (t0 t3 t4 t5 : AV) (H : Heap) (K : Kt) (Kb6 : Lt) : Prop :=
 Kb6 (zq131_fr6 t0 t3 t4 t5) H
def zq131_b6 (t0 t3 t4 t5 : AV) (H : Heap) (K : Kt) (Kb6 : Lt) : Prop :=
 ACalls Tryz.prog n_zq127 [t0, (.str [44, 32])] H fun t21 H =>
 aTest t21
 ((aFld 2 t5 fun t22 =>
 (aLoad false 1 t22 H fun t23 =>
 (aLoad true 3 t3 H fun t25 =>
 ACalls Tryz.prog n_zq71 [t0, t25] H fun t26 H =>
 aBuildS 3 [(.int .i64 0), (.int .i64 0), .snil] 1 [(0, t26)] fun t27 =>
 aAppend e_api_Value 3 40 t23 t27 H fun t28 H =>
 aFld 2 t5 fun t29 =>
 aStore 1 t29 t28 H fun H =>
 zq131_j2 t0 t3 t4 t5 H K Kb6) ∧ (aLoad true 3 t3 H fun t25 =>
 ACalls Tryz.prog n_zq71 [t0, t25] H fun t26 H =>
 aBuildS 3 [(.int .i64 0), (.int .i64 0), .snil] 1 [(0, t26)] fun t27 =>
 aAppend e_api_Value 3 40 t23 t27 H fun t28 H =>
 aFld 2 t5 fun t29 =>
 aStore 1 t29 t28 H fun H =>
 zq131_j2 t0 t3 t4 t5 H K Kb6)) ∧ ((aLoad false 1 t22 H fun t23 =>
 aLoad true 3 t3 H fun t25 =>
 ACalls Tryz.prog n_zq71 [t0, t25] H fun t26 H =>
 aBuildS 3 [(.int .i64 0), (.int .i64 0), .snil] 1 [(0, t26)] fun t27 =>
 aAppend e_api_Value 3 40 t23 t27 H fun t28 H =>
 aFld 2 t5 fun t29 =>
 aStore 1 t29 t28 H fun H =>
 zq131_j2 t0 t3 t4 t5 H K Kb6) ∧ (aLoad true 3 t3 H fun t25 =>
 (aLoad false 1 t22 H fun t23 =>
 ACalls Tryz.prog n_zq71 [t0, t25] H fun t26 H =>
 aBuildS 3 [(.int .i64 0), (.int .i64 0), .snil] 1 [(0, t26)] fun t27 =>
 aAppend e_api_Value 3 40 t23 t27 H fun t28 H =>
 aFld 2 t5 fun t29 =>
 aStore 1 t29 t28 H fun H =>
 zq131_j2 t0 t3 t4 t5 H K Kb6) ∧ (ACalls Tryz.prog n_zq71 [t0, t25] H fun t26 H =>
 (aLoad false 1 t22 H fun t23 =>
 aBuildS 3 [(.int .i64 0), (.int .i64 0), .snil] 1 [(0, t26)] fun t27 =>
 aAppend e_api_Value 3 40 t23 t27 H fun t28 H =>
 aFld 2 t5 fun t29 =>
 aStore 1 t29 t28 H fun H =>
 zq131_j2 t0 t3 t4 t5 H K Kb6) ∧ (aBuildS 3 [(.int .i64 0), (.int .i64 0), .snil] 1 [(0, t26)] fun t27 =>
 aLoad false 1 t22 H fun t23 =>
 aAppend e_api_Value 3 40 t23 t27 H fun t28 H =>
 aFld 2 t5 fun t29 =>
 aStore 1 t29 t28 H fun H =>
 zq131_j2 t0 t3 t4 t5 H K Kb6)))) ∧ (aLoad true 3 t3 H fun t25 =>
 (aLoad false 1 t22 H fun t23 =>
 ACalls Tryz.prog n_zq71 [t0, t25] H fun t26 H =>
 aBuildS 3 [(.int .i64 0), (.int .i64 0), .snil] 1 [(0, t26)] fun t27 =>
 aAppend e_api_Value 3 40 t23 t27 H fun t28 H =>
 aFld 2 t5 fun t29 =>
 aStore 1 t29 t28 H fun H =>
 zq131_j2 t0 t3 t4 t5 H K Kb6) ∧ ((aLoad false 1 t22 H fun t23 =>
 ACalls Tryz.prog n_zq71 [t0, t25] H fun t26 H =>
 aBuildS 3 [(.int .i64 0), (.int .i64 0), .snil] 1 [(0, t26)] fun t27 =>
 aAppend e_api_Value 3 40 t23 t27 H fun t28 H =>
 aFld 2 t5 fun t29 =>
 aStore 1 t29 t28 H fun H =>
 zq131_j2 t0 t3 t4 t5 H K Kb6) ∧ (ACalls Tryz.prog n_zq71 [t0, t25] H fun t26 H =>
 (aLoad false 1 t22 H fun t23 =>
 aBuildS 3 [(.int .i64 0), (.int .i64 0), .snil] 1 [(0, t26)] fun t27 =>
 aAppend e_api_Value 3 40 t23 t27 H fun t28 H =>
 aFld 2 t5 fun t29 =>
 aStore 1 t29 t28 H fun H =>
 zq131_j2 t0 t3 t4 t5 H K Kb6) ∧ (aBuildS 3 [(.int .i64 0), (.int .i64 0), .snil] 1 [(0, t26)] fun t27 =>
 aLoad false 1 t22 H fun t23 =>
 aAppend e_api_Value 3 40 t23 t27 H fun t28 H =>
 aFld 2 t5 fun t29 =>
 aStore 1 t29 t28 H fun H =>
 zq131_j2 t0 t3 t4 t5 H K Kb6))))) ∧ ((aFld 2 t5 fun t22 =>
 (aLoad false 1 t22 H fun t23 =>
 aLoad true 3 t3 H fun t25 =>
 ACalls Tryz.prog n_zq71 [t0, t25] H fun t26 H =>
 aBuildS 3 [(.int .i64 0), (.int .i64 0), .snil] 1 [(0, t26)] fun t27 =>
 aAppend e_api_Value 3 40 t23 t27 H fun t28 H =>
 aFld 2 t5 fun t29 =>
 aStore 1 t29 t28 H fun H =>
 zq131_j2 t0 t3 t4 t5 H K Kb6) ∧ (aLoad true 3 t3 H fun t25 =>
 (aLoad false 1 t22 H fun t23 =>
 ACalls Tryz.prog n_zq71 [t0, t25] H fun t26 H =>
 aBuildS 3 [(.int .i64 0), (.int .i64 0), .snil] 1 [(0, t26)] fun t27 =>
 aAppend e_api_Value 3 40 t23 t27 H fun t28 H =>
 aFld 2 t5 fun t29 =>
 aStore 1 t29 t28 H fun H =>
 zq131_j2 t0 t3 t4 t5 H K Kb6) ∧ (ACalls Tryz.prog n_zq71 [t0, t25] H fun t26 H =>
 (aLoad false 1 t22 H fun t23 =>
 aBuildS 3 [(.int .i64 0), (.int .i64 0), .snil] 1 [(0, t26)] fun t27 =>
 aAppend e_api_Value 3 40 t23 t27 H fun t28 H =>
 aFld 2 t5 fun t29 =>
 aStore 1 t29 t28 H fun H =>
 zq131_j2 t0 t3 t4 t5 H K Kb6) ∧ (aBuildS 3 [(.int .i64 0), (.int .i64 0), .snil] 1 [(0, t26)] fun t27 =>
 aLoad false 1 t22 H fun t23 =>
 aAppend e_api_Value 3 40 t23 t27 H fun t28 H =>
 aFld 2 t5 fun t29 =>
 aStore 1 t29 t28 H fun H =>
 zq131_j2 t0 t3 t4 t5 H K Kb6)))) ∧ (aLoad true 3 t3 H fun t25 =>
 (aFld 2 t5 fun t22 =>
 (aLoad false 1 t22 H fun t23 =>
 ACalls Tryz.prog n_zq71 [t0, t25] H fun t26 H =>
 aBuildS 3 [(.int .i64 0), (.int .i64 0), .snil] 1 [(0, t26)] fun t27 =>
 aAppend e_api_Value 3 40 t23 t27 H fun t28 H =>
 aFld 2 t5 fun t29 =>
 aStore 1 t29 t28 H fun H =>
 zq131_j2 t0 t3 t4 t5 H K Kb6) ∧ (ACalls Tryz.prog n_zq71 [t0, t25] H fun t26 H =>
 (aLoad false 1 t22 H fun t23 =>
 aBuildS 3 [(.int .i64 0), (.int .i64 0), .snil] 1 [(0, t26)] fun t27 =>
 aAppend e_api_Value 3 40 t23 t27 H fun t28 H =>
 aFld 2 t5 fun t29 =>
 aStore 1 t29 t28 H fun H =>
 zq131_j2 t0 t3 t4 t5 H K Kb6) ∧ (aBuildS 3 [(.int .i64 0), (.int .i64 0), .snil] 1 [(0, t26)] fun t27 =>
 aLoad false 1 t22 H fun t23 =>
 aAppend e_api_Value 3 40 t23 t27 H fun t28 H =>
 aFld 2 t5 fun t29 =>
 aStore 1 t29 t28 H fun H =>
 zq131_j2 t0 t3 t4 t5 H K Kb6))) ∧ (ACalls Tryz.prog n_zq71 [t0, t25] H fun t26 H =>
 (aFld 2 t5 fun t22 =>
 (aLoad false 1 t22 H fun t23 =>
 aBuildS 3 [(.int .i64 0), (.int .i64 0), .snil] 1 [(0, t26)] fun t27 =>
 aAppend e_api_Value 3 40 t23 t27 H fun t28 H =>
 aFld 2 t5 fun t29 =>
 aStore 1 t29 t28 H fun H =>
 zq131_j2 t0 t3 t4 t5 H K Kb6) ∧ (aBuildS 3 [(.int .i64 0), (.int .i64 0), .snil] 1 [(0, t26)] fun t27 =>
 aLoad false 1 t22 H fun t23 =>
 aAppend e_api_Value 3 40 t23 t27 H fun t28 H =>
 aFld 2 t5 fun t29 =>
 aStore 1 t29 t28 H fun H =>
 zq131_j2 t0 t3 t4 t5 H K Kb6)) ∧ (aBuildS 3 [(.int .i64 0), (.int .i64 0), .snil] 1 [(0, t26)] fun t27 =>
 aFld 2 t5 fun t22 =>
 aLoad false 1 t22 H fun t23 =>
 aAppend e_api_Value 3 40 t23 t27 H fun t28 H =>
 aFld 2 t5 fun t29 =>
 aStore 1 t29 t28 H fun H =>
 zq131_j2 t0 t3 t4 t5 H K Kb6)))) ∧ (aLoad true 3 t3 H fun t25 =>
 (aFld 2 t5 fun t22 =>
 (aLoad false 1 t22 H fun t23 =>
 ACalls Tryz.prog n_zq71 [t0, t25] H fun t26 H =>
 aBuildS 3 [(.int .i64 0), (.int .i64 0), .snil] 1 [(0, t26)] fun t27 =>
 aAppend e_api_Value 3 40 t23 t27 H fun t28 H =>
 aFld 2 t5 fun t29 =>
 aStore 1 t29 t28 H fun H =>
 zq131_j2 t0 t3 t4 t5 H K Kb6) ∧ ((aLoad false 1 t22 H fun t23 =>
 ACalls Tryz.prog n_zq71 [t0, t25] H fun t26 H =>
 aBuildS 3 [(.int .i64 0), (.int .i64 0), .snil] 1 [(0, t26)] fun t27 =>
 aAppend e_api_Value 3 40 t23 t27 H fun t28 H =>
 aFld 2 t5 fun t29 =>
 aStore 1 t29 t28 H fun H =>
 zq131_j2 t0 t3 t4 t5 H K Kb6) ∧ (ACalls Tryz.prog n_zq71 [t0, t25] H fun t26 H =>
 (aLoad false 1 t22 H fun t23 =>
 aBuildS 3 [(.int .i64 0), (.int .i64 0), .snil] 1 [(0, t26)] fun t27 =>
 aAppend e_api_Value 3 40 t23 t27 H fun t28 H =>
 aFld 2 t5 fun t29 =>
 aStore 1 t29 t28 H fun H =>
 zq131_j2 t0 t3 t4 t5 H K Kb6) ∧ (aBuildS 3 [(.int .i64 0), (.int .i64 0), .snil] 1 [(0, t26)] fun t27 =>
 aLoad false 1 t22 H fun t23 =>
 aAppend e_api_Value 3 40 t23 t27 H fun t28 H =>
 aFld 2 t5 fun t29 =>
 aStore 1 t29 t28 H fun H =>
 zq131_j2 t0 t3 t4 t5 H K Kb6)))) ∧ ((aFld 2 t5 fun t22 =>
 (aLoad false 1 t22 H fun t23 =>
 ACalls Tryz.prog n_zq71 [t0, t25] H fun t26 H =>
 aBuildS 3 [(.int .i64 0), (.int .i64 0), .snil] 1 [(0, t26)] fun t27 =>
 aAppend e_api_Value 3 40 t23 t27 H fun t28 H =>
 aFld 2 t5 fun t29 =>
 aStore 1 t29 t28 H fun H =>
 zq131_j2 t0 t3 t4 t5 H K Kb6) ∧ (ACalls Tryz.prog n_zq71 [t0, t25] H fun t26 H =>
 (aLoad false 1 t22 H fun t23 =>
 aBuildS 3 [(.int .i64 0), (.int .i64 0), .snil] 1 [(0, t26)] fun t27 =>
 aAppend e_api_Value 3 40 t23 t27 H fun t28 H =>
 aFld 2 t5 fun t29 =>
 aStore 1 t29 t28 H fun H =>
 zq131_j2 t0 t3 t4 t5 H K Kb6) ∧ (aBuildS 3 [(.int .i64 0), (.int .i64 0), .snil] 1 [(0, t26)] fun t27 =>
 aLoad false 1 t22 H fun t23 =>
 aAppend e_api_Value 3 40 t23 t27 H fun t28 H =>
 aFld 2 t5 fun t29 =>
 aStore 1 t29 t28 H fun H =>
 zq131_j2 t0 t3 t4 t5 H K Kb6))) ∧ (ACalls Tryz.prog n_zq71 [t0, t25] H fun t26 H =>
 (aFld 2 t5 fun t22 =>
 (aLoad false 1 t22 H fun t23 =>
 aBuildS 3 [(.int .i64 0), (.int .i64 0), .snil] 1 [(0, t26)] fun t27 =>
 aAppend e_api_Value 3 40 t23 t27 H fun t28 H =>
 aFld 2 t5 fun t29 =>
 aStore 1 t29 t28 H fun H =>
 zq131_j2 t0 t3 t4 t5 H K Kb6) ∧ (aBuildS 3 [(.int .i64 0), (.int .i64 0), .snil] 1 [(0, t26)] fun t27 =>
 aLoad false 1 t22 H fun t23 =>
 aAppend e_api_Value 3 40 t23 t27 H fun t28 H =>
 aFld 2 t5 fun t29 =>
 aStore 1 t29 t28 H fun H =>
 zq131_j2 t0 t3 t4 t5 H K Kb6)) ∧ (aBuildS 3 [(.int .i64 0), (.int .i64 0), .snil] 1 [(0, t26)] fun t27 =>
 aFld 2 t5 fun t22 =>
 aLoad false 1 t22 H fun t23 =>
 aAppend e_api_Value 3 40 t23 t27 H fun t28 H =>
 aFld 2 t5 fun t29 =>
 aStore 1 t29 t28 H fun H =>
 zq131_j2 t0 t3 t4 t5 H K Kb6)))))
 (ACalls Tryz.prog n_zq128 [t0, (.str [93])] H fun t31 H =>
 aLoad true 3 t5 H fun t32 =>
 aStore 3 t4 t32 H fun H =>
 aLoad true 3 t4 H fun r0 =>
 K r0 H)
def zq131_j1 (t0 t3 t4 t5 : AV) (H : Heap) (K : Kt) : Prop :=
 zq131_l6 t0 t3 t4 t5 H K
def zq131 (t0 t1 : AV) (H : Heap) (K : Kt) : Prop :=
 aBox t1 H fun t3 H =>
 aNew [(.int .i64 0), (.int .i64 0), .snil] H fun t4 H =>
 aBuild [(.int .i64 0), (.int .i64 0), .snil] [(0, 1), (1, 1), (2, 1)] [(0, (.int .i64 6))] fun t6 =>
 aNew [(.int .i64 0), (.int .i64 0), .snil] H fun t5 H =>
 aStore 3 t5 t6 H fun H =>
 ACalls Tryz.prog n_zq128 [t0, (.str [91])] H fun t8 H =>
 ACalls Tryz.prog n_zq127 [t0, (.str [93])] H fun t10 H =>
 aTest t10
 (aLoad true 3 t5 H fun t11 =>
 aStore 3 t4 t11 H fun H =>
 aLoad true 3 t4 H fun r0 =>
 K r0 H)
 ((aFld 2 t5 fun t12 =>
 (aLoad false 1 t12 H fun t13 =>
 (aLoad true 3 t3 H fun t15 =>
 ACalls Tryz.prog n_zq71 [t0, t15] H fun t16 H =>
 aBuildS 3 [(.int .i64 0), (.int .i64 0), .snil] 1 [(0, t16)] fun t17 =>
 aAppend e_api_Value 3 40 t13 t17 H fun t18 H =>
 aFld 2 t5 fun t19 =>
 aStore 1 t19 t18 H fun H =>
 zq131_j1 t0 t3 t4 t5 H K) ∧ (aLoad true 3 t3 H fun t15 =>
 ACalls Tryz.prog n_zq71 [t0, t15] H fun t16 H =>
 aBuildS 3 [(.int .i64 0), (.int .i64 0), .snil] 1 [(0, t16)] fun t17 =>
 aAppend e_api_Value 3 40 t13 t17 H fun t18 H =>
 aFld 2 t5 fun t19 =>
 aStore 1 t19 t18 H fun H =>
 zq131_j1 t0 t3 t4 t5 H K)) ∧ ((aLoad false 1 t12 H fun t13 =>
 aLoad true 3 t3 H fun t15 =>
 ACalls Tryz.prog n_zq71 [t0, t15] H fun t16 H =>
 aBuildS 3 [(.int .i64 0), (.int .i64 0), .snil] 1 [(0, t16)] fun t17 =>
 aAppend e_api_Value 3 40 t13 t17 H fun t18 H =>
 aFld 2 t5 fun t19 =>
 aStore 1 t19 t18 H fun H =>
 zq131_j1 t0 t3 t4 t5 H K) ∧ (aLoad true 3 t3 H fun t15 =>
 (aLoad false 1 t12 H fun t13 =>
 ACalls Tryz.prog n_zq71 [t0, t15] H fun t16 H =>
 aBuildS 3 [(.int .i64 0), (.int .i64 0), .snil] 1 [(0, t16)] fun t17 =>
 aAppend e_api_Value 3 40 t13 t17 H fun t18 H =>
 aFld 2 t5 fun t19 =>
 aStore 1 t19 t18 H fun H =>
 zq131_j1 t0 t3 t4 t5 H K) ∧ (ACalls Tryz.prog n_zq71 [t0, t15] H fun t16 H =>
 (aLoad false 1 t12 H fun t13 =>
 aBuildS 3 [(.int .i64 0), (.int .i64 0), .snil] 1 [(0, t16)] fun t17 =>
 aAppend e_api_Value 3 40 t13 t17 H fun t18 H =>
 aFld 2 t5 fun t19 =>
 aStore 1 t19 t18 H fun H =>
 zq131_j1 t0 t3 t4 t5 H K) ∧ (aBuildS 3 [(.int .i64 0), (.int .i64 0), .snil] 1 [(0, t16)] fun t17 =>
 aLoad false 1 t12 H fun t13 =>
 aAppend e_api_Value 3 40 t13 t17 H fun t18 H =>
 aFld 2 t5 fun t19 =>
 aStore 1 t19 t18 H fun H =>
 zq131_j1 t0 t3 t4 t5 H K)))) ∧ (aLoad true 3 t3 H fun t15 =>
 (aLoad false 1 t12 H fun t13 =>
 ACalls Tryz.prog n_zq71 [t0, t15] H fun t16 H =>
 aBuildS 3 [(.int .i64 0), (.int .i64 0), .snil] 1 [(0, t16)] fun t17 =>
 aAppend e_api_Value 3 40 t13 t17 H fun t18 H =>
 aFld 2 t5 fun t19 =>
 aStore 1 t19 t18 H fun H =>
 zq131_j1 t0 t3 t4 t5 H K) ∧ ((aLoad false 1 t12 H fun t13 =>
 ACalls Tryz.prog n_zq71 [t0, t15] H fun t16 H =>
 aBuildS 3 [(.int .i64 0), (.int .i64 0), .snil] 1 [(0, t16)] fun t17 =>
 aAppend e_api_Value 3 40 t13 t17 H fun t18 H =>
 aFld 2 t5 fun t19 =>
 aStore 1 t19 t18 H fun H =>
 zq131_j1 t0 t3 t4 t5 H K) ∧ (ACalls Tryz.prog n_zq71 [t0, t15] H fun t16 H =>
 (aLoad false 1 t12 H fun t13 =>
 aBuildS 3 [(.int .i64 0), (.int .i64 0), .snil] 1 [(0, t16)] fun t17 =>
 aAppend e_api_Value 3 40 t13 t17 H fun t18 H =>
 aFld 2 t5 fun t19 =>
 aStore 1 t19 t18 H fun H =>
 zq131_j1 t0 t3 t4 t5 H K) ∧ (aBuildS 3 [(.int .i64 0), (.int .i64 0), .snil] 1 [(0, t16)] fun t17 =>
 aLoad false 1 t12 H fun t13 =>
 aAppend e_api_Value 3 40 t13 t17 H fun t18 H =>
 aFld 2 t5 fun t19 =>
 aStore 1 t19 t18 H fun H =>
 zq131_j1 t0 t3 t4 t5 H K))))) ∧ ((aFld 2 t5 fun t12 =>
 (aLoad false 1 t12 H fun t13 =>
 aLoad true 3 t3 H fun t15 =>
 ACalls Tryz.prog n_zq71 [t0, t15] H fun t16 H =>
 aBuildS 3 [(.int .i64 0), (.int .i64 0), .snil] 1 [(0, t16)] fun t17 =>
 aAppend e_api_Value 3 40 t13 t17 H fun t18 H =>
 aFld 2 t5 fun t19 =>
 aStore 1 t19 t18 H fun H =>
 zq131_j1 t0 t3 t4 t5 H K) ∧ (aLoad true 3 t3 H fun t15 =>
 (aLoad false 1 t12 H fun t13 =>
 ACalls Tryz.prog n_zq71 [t0, t15] H fun t16 H =>
 aBuildS 3 [(.int .i64 0), (.int .i64 0), .snil] 1 [(0, t16)] fun t17 =>
 aAppend e_api_Value 3 40 t13 t17 H fun t18 H =>
 aFld 2 t5 fun t19 =>
 aStore 1 t19 t18 H fun H =>
 zq131_j1 t0 t3 t4 t5 H K) ∧ (ACalls Tryz.prog n_zq71 [t0, t15] H fun t16 H =>
 (aLoad false 1 t12 H fun t13 =>
 aBuildS 3 [(.int .i64 0), (.int .i64 0), .snil] 1 [(0, t16)] fun t17 =>
 aAppend e_api_Value 3 40 t13 t17 H fun t18 H =>
 aFld 2 t5 fun t19 =>
 aStore 1 t19 t18 H fun H =>
 zq131_j1 t0 t3 t4 t5 H K) ∧ (aBuildS 3 [(.int .i64 0), (.int .i64 0), .snil] 1 [(0, t16)] fun t17 =>
 aLoad false 1 t12 H fun t13 =>
 aAppend e_api_Value 3 40 t13 t17 H fun t18 H =>
 aFld 2 t5 fun t19 =>
 aStore 1 t19 t18 H fun H =>
 zq131_j1 t0 t3 t4 t5 H K)))) ∧ (aLoad true 3 t3 H fun t15 =>
 (aFld 2 t5 fun t12 =>
 (aLoad false 1 t12 H fun t13 =>
 ACalls Tryz.prog n_zq71 [t0, t15] H fun t16 H =>
 aBuildS 3 [(.int .i64 0), (.int .i64 0), .snil] 1 [(0, t16)] fun t17 =>
 aAppend e_api_Value 3 40 t13 t17 H fun t18 H =>
 aFld 2 t5 fun t19 =>
 aStore 1 t19 t18 H fun H =>
 zq131_j1 t0 t3 t4 t5 H K) ∧ (ACalls Tryz.prog n_zq71 [t0, t15] H fun t16 H =>
 (aLoad false 1 t12 H fun t13 =>
 aBuildS 3 [(.int .i64 0), (.int .i64 0), .snil] 1 [(0, t16)] fun t17 =>
 aAppend e_api_Value 3 40 t13 t17 H fun t18 H =>
 aFld 2 t5 fun t19 =>
 aStore 1 t19 t18 H fun H =>
 zq131_j1 t0 t3 t4 t5 H K) ∧ (aBuildS 3 [(.int .i64 0), (.int .i64 0), .snil] 1 [(0, t16)] fun t17 =>
 aLoad false 1 t12 H fun t13 =>
 aAppend e_api_Value 3 40 t13 t17 H fun t18 H =>
 aFld 2 t5 fun t19 =>
 aStore 1 t19 t18 H fun H =>
 zq131_j1 t0 t3 t4 t5 H K))) ∧ (ACalls Tryz.prog n_zq71 [t0, t15] H fun t16 H =>
 (aFld 2 t5 fun t12 =>
 (aLoad false 1 t12 H fun t13 =>
 aBuildS 3 [(.int .i64 0), (.int .i64 0), .snil] 1 [(0, t16)] fun t17 =>
 aAppend e_api_Value 3 40 t13 t17 H fun t18 H =>
 aFld 2 t5 fun t19 =>
 aStore 1 t19 t18 H fun H =>
 zq131_j1 t0 t3 t4 t5 H K) ∧ (aBuildS 3 [(.int .i64 0), (.int .i64 0), .snil] 1 [(0, t16)] fun t17 =>
 aLoad false 1 t12 H fun t13 =>
 aAppend e_api_Value 3 40 t13 t17 H fun t18 H =>
 aFld 2 t5 fun t19 =>
 aStore 1 t19 t18 H fun H =>
 zq131_j1 t0 t3 t4 t5 H K)) ∧ (aBuildS 3 [(.int .i64 0), (.int .i64 0), .snil] 1 [(0, t16)] fun t17 =>
 aFld 2 t5 fun t12 =>
 aLoad false 1 t12 H fun t13 =>
 aAppend e_api_Value 3 40 t13 t17 H fun t18 H =>
 aFld 2 t5 fun t19 =>
 aStore 1 t19 t18 H fun H =>
 zq131_j1 t0 t3 t4 t5 H K)))) ∧ (aLoad true 3 t3 H fun t15 =>
 (aFld 2 t5 fun t12 =>
 (aLoad false 1 t12 H fun t13 =>
 ACalls Tryz.prog n_zq71 [t0, t15] H fun t16 H =>
 aBuildS 3 [(.int .i64 0), (.int .i64 0), .snil] 1 [(0, t16)] fun t17 =>
 aAppend e_api_Value 3 40 t13 t17 H fun t18 H =>
 aFld 2 t5 fun t19 =>
 aStore 1 t19 t18 H fun H =>
 zq131_j1 t0 t3 t4 t5 H K) ∧ ((aLoad false 1 t12 H fun t13 =>
 ACalls Tryz.prog n_zq71 [t0, t15] H fun t16 H =>
 aBuildS 3 [(.int .i64 0), (.int .i64 0), .snil] 1 [(0, t16)] fun t17 =>
 aAppend e_api_Value 3 40 t13 t17 H fun t18 H =>
 aFld 2 t5 fun t19 =>
 aStore 1 t19 t18 H fun H =>
 zq131_j1 t0 t3 t4 t5 H K) ∧ (ACalls Tryz.prog n_zq71 [t0, t15] H fun t16 H =>
 (aLoad false 1 t12 H fun t13 =>
 aBuildS 3 [(.int .i64 0), (.int .i64 0), .snil] 1 [(0, t16)] fun t17 =>
 aAppend e_api_Value 3 40 t13 t17 H fun t18 H =>
 aFld 2 t5 fun t19 =>
 aStore 1 t19 t18 H fun H =>
 zq131_j1 t0 t3 t4 t5 H K) ∧ (aBuildS 3 [(.int .i64 0), (.int .i64 0), .snil] 1 [(0, t16)] fun t17 =>
 aLoad false 1 t12 H fun t13 =>
 aAppend e_api_Value 3 40 t13 t17 H fun t18 H =>
 aFld 2 t5 fun t19 =>
 aStore 1 t19 t18 H fun H =>
 zq131_j1 t0 t3 t4 t5 H K)))) ∧ ((aFld 2 t5 fun t12 =>
 (aLoad false 1 t12 H fun t13 =>
 ACalls Tryz.prog n_zq71 [t0, t15] H fun t16 H =>
 aBuildS 3 [(.int .i64 0), (.int .i64 0), .snil] 1 [(0, t16)] fun t17 =>
 aAppend e_api_Value 3 40 t13 t17 H fun t18 H =>
 aFld 2 t5 fun t19 =>
 aStore 1 t19 t18 H fun H =>
 zq131_j1 t0 t3 t4 t5 H K) ∧ (ACalls Tryz.prog n_zq71 [t0, t15] H fun t16 H =>
 (aLoad false 1 t12 H fun t13 =>
 aBuildS 3 [(.int .i64 0), (.int .i64 0), .snil] 1 [(0, t16)] fun t17 =>
 aAppend e_api_Value 3 40 t13 t17 H fun t18 H =>
 aFld 2 t5 fun t19 =>
 aStore 1 t19 t18 H fun H =>
 zq131_j1 t0 t3 t4 t5 H K) ∧ (aBuildS 3 [(.int .i64 0), (.int .i64 0), .snil] 1 [(0, t16)] fun t17 =>
 aLoad false 1 t12 H fun t13 =>
 aAppend e_api_Value 3 40 t13 t17 H fun t18 H =>
 aFld 2 t5 fun t19 =>
 aStore 1 t19 t18 H fun H =>
 zq131_j1 t0 t3 t4 t5 H K))) ∧ (ACalls Tryz.prog n_zq71 [t0, t15] H fun t16 H =>
 (aFld 2 t5 fun t12 =>
 (aLoad false 1 t12 H fun t13 =>
 aBuildS 3 [(.int .i64 0), (.int .i64 0), .snil] 1 [(0, t16)] fun t17 =>
 aAppend e_api_Value 3 40 t13 t17 H fun t18 H =>
 aFld 2 t5 fun t19 =>
 aStore 1 t19 t18 H fun H =>
 zq131_j1 t0 t3 t4 t5 H K) ∧ (aBuildS 3 [(.int .i64 0), (.int .i64 0), .snil] 1 [(0, t16)] fun t17 =>
 aLoad false 1 t12 H fun t13 =>
 aAppend e_api_Value 3 40 t13 t17 H fun t18 H =>
 aFld 2 t5 fun t19 =>
 aStore 1 t19 t18 H fun H =>
 zq131_j1 t0 t3 t4 t5 H K)) ∧ (aBuildS 3 [(.int .i64 0), (.int .i64 0), .snil] 1 [(0, t16)] fun t17 =>
 aFld 2 t5 fun t12 =>
 aLoad false 1 t12 H fun t13 =>
 aAppend e_api_Value 3 40 t13 t17 H fun t18 H =>
 aFld 2 t5 fun t19 =>
 aStore 1 t19 t18 H fun H =>
 zq131_j1 t0 t3 t4 t5 H K)))))
theorem zq131_b6_eq (t0 t3 t4 t5 : AV) (H : Heap) (K : Kt) (Kb6 : Lt) : awp Tryz.prog zq131_M zq131_c6 (roundQ zq131_m6 Kb6 (zq131_Q6 K)) (zq131_fr6 t0 t3 t4 t5) H = zq131_b6 t0 t3 t4 t5 H K Kb6 := by kernel_rfl
theorem zq131_loop6 {t0 t3 t4 t5 : AV} {H : Heap} {K : Kt} (Inv : Nat → Heap → Prop) (n : Nat) (h0 : HSc H → Inv n H)
  (round : ∀ n H', Inv n H' → HSc H' → H.length ≤ H'.length → (zq131_fr6 t0 t3 t4 t5).all (AV.sc H'.length) = true → ∀ Kb6 : Lt, (∀ F'' H'', (∃ n', n' < n ∧ Back H.length (fun F2 H2 => F2 = zq131_fr6 t0 t3 t4 t5 ∧ Inv n' H2) F'' H'') → Kb6 F'' H'') → zq131_b6 t0 t3 t4 t5 H' K Kb6) : zq131_l6 t0 t3 t4 t5 H K :=
 aloop (M := zq131_M) zq131_m6 (fun n F H => F = zq131_fr6 t0 t3 t4 t5 ∧ Inv n H) n (fun hs _ => ⟨rfl, h0 hs⟩) (fun n F H' ⟨hF, hI⟩ h1 h2 h3 => by subst hF; rw [zq131_b6_eq]; exact round n H' hI h1 h2 h3 _ (fun _ _ h => h))
theorem zq131_eq (t0 t1 : AV) (H : Heap) (K : Kt) : awp Tryz.prog zq131_M zq131_c (retQ Tryz.prog zq131_r K) (t0 :: t1 :: List.replicate 31 .unk) H = zq131 t0 t1 H K := by kernel_rfl
theorem zq131_ok {t0 t1 : AV} {H : Heap} {K : Kt} (h : HSc H → zq131 t0 t1 H K) : ACalls Tryz.prog n_zq131 [t0, t1] H K :=
 acalls_body (M := zq131_M) Tryz.func133 (c := zq131_c) (by kernel_rfl) (fun hs => (zq131_eq t0 t1 H K).mpr (h hs))
def zq100_M : Nat → List Bool
 | 1 => rl false [0,2,1,1,6,3,16]
 | 200005 => rl false [0,3]
 | _ => []
noncomputable def zq100_c : Code := Tryz.f102.body.getD .skip
noncomputable def zq100_r : List ResultVar := Tryz.f102.results.toList
def zq100_fr1 (t0 t1 t3 t10 t11 t12 : AV) : List AV := t0 :: t1 :: ux 1 (t3 :: ux 6 (t10 :: t11 :: t12 :: ux 16 []))
def zq100_m1 : List Bool := zq100_M 1
noncomputable def zq100_c1 : Code := codeAt [1, 0, 0] zq100_c
def zq100_Q1 (K : Kt) : AExit → List AV → Heap → Prop := contAt Tryz.prog zq100_M [1, 0] zq100_c (retQ Tryz.prog zq100_r K)
def zq100_l1 (t0 t1 t3 t10 t11 t12 : AV) (H : Heap) (K : Kt) : Prop := ALoop Tryz.prog zq100_c1 (zq100_Q1 K) (zq100_fr1 t0 t1 t3 t10 t11 t12) H
def zq100_j1 (t0 t1 t3 t8 t9 t10 t11 t12 : AV) (H : Heap) (K : Kt) (Kb1 : Lt) : Prop :=
 aPure H (fun K' => K' t0 H) fun t21 =>
 aPure H (fun K' => K' t1 H) fun t22 =>
 aPure H (fun K' => aLoadC true 3 t9 H (K' · H)) fun t23 =>
 aPure H (fun K' => K' t3 H) fun t24 =>
 aPure H (fun K' => K' t8 H) fun t25 =>
 aPureX H (fun H K' => aCallV Tryz.prog t24 [t25] H K') fun t26 =>
 aDet .c false H (fun K' => ACalls Tryz.prog n_zq55 [t21, t22, t23, t26] H K') fun t27 H =>
 aBin .add false t12 (.int .i64 1) fun t28 =>
 Kb1 (zq100_fr1 t0 t1 t3 t10 t11 t28) H
def zq100_b1 (t0 t1 t3 t10 t11 t12 : AV) (H : Heap) (K : Kt) (Kb1 : Lt) : Prop :=
 aBin .lss false t12 t11 fun t13 =>
 aTest t13
 (aIdxA 3 t10 t12 fun t15 =>
 aLoad true 3 t15 H fun t16 =>
 aNew [(.int .i64 0), (.int .i64 0), .snil] H fun t9 H =>
 aStore 3 t9 t16 H fun H =>
 aBin .gtr false t12 (.int .i64 0) fun t18 =>
 aTest t18
 (ACalls Tryz.prog n_zq97 [t0, (.str [44, 32])] H fun t20 H =>
 zq100_j1 t0 t1 t3 t12 t9 t10 t11 t12 H K Kb1)
 (zq100_j1 t0 t1 t3 t12 t9 t10 t11 t12 H K Kb1))
 (aRet [] (K · H))
def zq100 (t0 t1 t2 t3 : AV) (H : Heap) (K : Kt) : Prop :=
 aLen 1 t2 fun t11 =>
 zq100_l1 t0 t1 t3 t2 t11 (.int .i64 0) H K
theorem zq100_b1_eq (t0 t1 t3 t10 t11 t12 : AV) (H : Heap) (K : Kt) (Kb1 : Lt) : awp Tryz.prog zq100_M zq100_c1 (roundQ zq100_m1 Kb1 (zq100_Q1 K)) (zq100_fr1 t0 t1 t3 t10 t11 t12) H = zq100_b1 t0 t1 t3 t10 t11 t12 H K Kb1 := by kernel_rfl
theorem zq100_loop1 {t0 t1 t3 t10 t11 t12 : AV} {H : Heap} {K : Kt} (Inv : Nat → AV → Heap → Prop) (n : Nat) (h0 : HSc H → Inv n t12 H)
  (round : ∀ n t12 H', Inv n t12 H' → HSc H' → H.length ≤ H'.length → (zq100_fr1 t0 t1 t3 t10 t11 t12).all (AV.sc H'.length) = true → ∀ Kb1 : Lt, (∀ F'' H'', (∃ n', n' < n ∧ Back H.length (fun F2 H2 => ∃ t12, F2 = zq100_fr1 t0 t1 t3 t10 t11 t12 ∧ Inv n' t12 H2) F'' H'') → Kb1 F'' H'') → zq100_b1 t0 t1 t3 t10 t11 t12 H' K Kb1) : zq100_l1 t0 t1 t3 t10 t11 t12 H K :=
 aloop (M := zq100_M) zq100_m1 (fun n F H => ∃ t12, F = zq100_fr1 t0 t1 t3 t10 t11 t12 ∧ Inv n t12 H) n (fun hs _ => ⟨t12, rfl, h0 hs⟩) (fun n F H' ⟨t12, hF, hI⟩ h1 h2 h3 => by subst hF; rw [zq100_b1_eq]; exact round n t12 H' hI h1 h2 h3 _ (fun _ _ h => h))
theorem zq100_eq (t0 t1 t2 t3 : AV) (H : Heap) (K : Kt) : awp Tryz.prog zq100_M zq100_c (retQ Tryz.prog zq100_r K) (t0 :: t1 :: t2 :: t3 :: List.replicate 25 .unk) H = zq100 t0 t1 t2 t3 H K := by kernel_rfl
theorem zq100_ok {t0 t1 t2 t3 : AV} {H : Heap} {K : Kt} (h : HSc H → zq100 t0 t1 t2 t3 H K) : ACalls Tryz.prog n_zq100 [t0, t1, t2, t3] H K :=
 acalls_body (M := zq100_M) Tryz.func102 (c := zq100_c) (by kernel_rfl) (fun hs => (zq100_eq t0 t1 t2 t3 H K).mpr (h hs))
def zq101_M (_ : Nat) : List Bool := []
noncomputable def zq101_c : Code := Tryz.f103.body.getD .skip
noncomputable def zq101_r : List ResultVar := Tryz.f103.results.toList
def zq101 (t0 t1 : AV) (H : Heap) (K : Kt) : Prop :=
 aNew [(.int .i64 0), (.int .i64 0), .snil] H fun t3 H =>
 aFld 2 t1 fun t4 =>
 aLoad false 1 t4 H fun t5 =>
 aIdxA 3 t5 t0 fun t7 =>
 aLoad true 3 t7 H fun t8 =>
 aStore 3 t3 t8 H fun H =>
 aLoad true 3 t3 H fun r0 =>
 K r0 H
theorem zq101_eq (t0 t1 : AV) (H : Heap) (K : Kt) : awp Tryz.prog zq101_M zq101_c (retQ Tryz.prog zq101_r K) (t0 :: t1 :: List.replicate 7 .unk) H = zq101 t0 t1 H K := by kernel_rfl
theorem zq101_ok {t0 t1 : AV} {H : Heap} {K : Kt} (h : HSc H → zq101 t0 t1 H K) : ACalls Tryz.prog n_zq101 [t0, t1] H K :=
 acalls_body (M := zq101_M) Tryz.func103 (c := zq101_c) (by kernel_rfl) (fun hs => (zq101_eq t0 t1 H K).mpr (h hs))
def zq102_M (_ : Nat) : List Bool := []
noncomputable def zq102_c : Code := Tryz.f104.body.getD .skip
noncomputable def zq102_r : List ResultVar := Tryz.f104.results.toList
def zq102 (t0 t1 : AV) (H : Heap) (K : Kt) : Prop :=
 aNew [(.int .i64 0), (.int .i64 0), .snil] H fun t3 H =>
 aLoad false 1 t1 H fun t4 =>
 aIdxA 3 t4 t0 fun t6 =>
 aLoad true 3 t6 H fun t7 =>
 aStore 3 t3 t7 H fun H =>
 aLoad true 3 t3 H fun r0 =>
 K r0 H
theorem zq102_eq (t0 t1 : AV) (H : Heap) (K : Kt) : awp Tryz.prog zq102_M zq102_c (retQ Tryz.prog zq102_r K) (t0 :: t1 :: List.replicate 6 .unk) H = zq102 t0 t1 H K := by kernel_rfl
theorem zq102_ok {t0 t1 : AV} {H : Heap} {K : Kt} (h : HSc H → zq102 t0 t1 H K) : ACalls Tryz.prog n_zq102 [t0, t1] H K :=
 acalls_body (M := zq102_M) Tryz.func104 (c := zq102_c) (by kernel_rfl) (fun hs => (zq102_eq t0 t1 H K).mpr (h hs))
def zq103_M (_ : Nat) : List Bool := []
noncomputable def zq103_c : Code := Tryz.f105.body.getD .skip
noncomputable def zq103_r : List ResultVar := Tryz.f105.results.toList
def zq103 (t0 t1 : AV) (H : Heap) (K : Kt) : Prop :=
 aNew [(.int .i64 0), (.int .i64 0), .snil] H fun t3 H =>
 aFld 2 t1 fun t4 =>
 aLoad false 1 t4 H fun t5 =>
 aIdxA 3 t5 (.int .i64 0) fun t6 =>
 aLoad true 3 t6 H fun t7 =>
 aStore 3 t3 t7 H fun H =>
 aLoad true 3 t3 H fun r0 =>
 K r0 H
theorem zq103_eq (t0 t1 : AV) (H : Heap) (K : Kt) : awp Tryz.prog zq103_M zq103_c (retQ Tryz.prog zq103_r K) (t0 :: t1 :: List.replicate 6 .unk) H = zq103 t0 t1 H K := by kernel_rfl
theorem zq103_ok {t0 t1 : AV} {H : Heap} {K : Kt} (h : HSc H → zq103 t0 t1 H K) : ACalls Tryz.prog n_zq103 [t0, t1] H K :=
 acalls_body (M := zq103_M) Tryz.func105 (c := zq103_c) (by kernel_rfl) (fun hs => (zq103_eq t0 t1 H K).mpr (h hs))
end Go.Proofs.YtfpmdpldabopjaaGreatDoor
namespace Go.Proofs.YtfpmdpldabopjaaGreatDoor
open Go Go.Shelf Go.Abs
def zlayM_ren : Go.Shelf.Ren := ⟨fun | 173 => 100 | 246 => 165 | 283 => 207 | 284 => 208 | 285 => 209 | 286 => 210 | 129 => 185 | 317 => 236 | 318 => 237 | 319 => 238 | 320 => 239 | 337 => 255 | 338 => 256 | n => n, fun | 2 => 2 | 3 => 3 | 9 => 9 | 4 => 4 | 171 => 213 | 0 => 0 | 53 => 189 | 37 => 71 | 5 => 5 | 173 => 215 | 212 => 240 | 51 => 187 | 20 => 20 | 213 => 241 | 46 => 151 | 232 => 267 | 233 => 268 | n => n, fun | 17 => 0 | 18 => 4 | 19 => 5 | n => n⟩
theorem zlayM : Go.Proofs.LaysM.n173 Tryz.prog zlayM_ren := {
 mixed := by kernel_rfl
 f129 := Tryz.func185.trans (congrArg some (by kernel_rfl))
 f173 := Tryz.func100.trans (congrArg some (by kernel_rfl))
 f246 := Tryz.func165.trans (congrArg some (by kernel_rfl))
 f283 := Tryz.func207.trans (congrArg some (by kernel_rfl))
 f284 := Tryz.func208.trans (congrArg some (by kernel_rfl))
 f285 := Tryz.func209.trans (congrArg some (by kernel_rfl))
 f286 := Tryz.func210.trans (congrArg some (by kernel_rfl))
 f317 := Tryz.func236.trans (congrArg some (by kernel_rfl))
 f318 := Tryz.func237.trans (congrArg some (by kernel_rfl))
 f319 := Tryz.func238.trans (congrArg some (by kernel_rfl))
 f320 := Tryz.func239.trans (congrArg some (by kernel_rfl))
 f337 := Tryz.func255.trans (congrArg some (by kernel_rfl))
 f338 := Tryz.func256.trans (congrArg some (by kernel_rfl))
 t0 := Tryz.underlying0
 a0 := Tryz.isAgg0
 z0 := Tryz.sizeOf0
 v0 := Tryz.zeroValue0
 t2 := Tryz.underlying2
 a2 := Tryz.isAgg2
 z2 := Tryz.sizeOf2
 v2 := Tryz.zeroValue2
 t3 := Tryz.underlying3
 a3 := Tryz.isAgg3
 z3 := Tryz.sizeOf3
 v3 := Tryz.zeroValue3
 t4 := Tryz.underlying4
 a4 := Tryz.isAgg4
 z4 := Tryz.sizeOf4
 v4 := Tryz.zeroValue4
 t5 := Tryz.underlying5
 a5 := Tryz.isAgg5
 z5 := Tryz.sizeOf5
 v5 := Tryz.zeroValue5
 t9 := Tryz.underlying9
 a9 := Tryz.isAgg9
 z9 := Tryz.sizeOf9
 v9 := Tryz.zeroValue9
 t20 := Tryz.underlying20
 a20 := Tryz.isAgg20
 z20 := Tryz.sizeOf20
 v20 := Tryz.zeroValue20
 t37 := Tryz.underlying71
 a37 := Tryz.isAgg71
 z37 := Tryz.sizeOf71
 v37 := Tryz.zeroValue71
 t46 := Tryz.underlying151
 a46 := Tryz.isAgg151
 z46 := Tryz.sizeOf151
 v46 := Tryz.zeroValue151
 t51 := Tryz.underlying187
 a51 := Tryz.isAgg187
 z51 := Tryz.sizeOf187
 v51 := Tryz.zeroValue187
 t53 := Tryz.underlying189
 a53 := Tryz.isAgg189
 z53 := Tryz.sizeOf189
 v53 := Tryz.zeroValue189
 t171 := Tryz.underlying213
 a171 := Tryz.isAgg213
 z171 := Tryz.sizeOf213
 v171 := Tryz.zeroValue213
 t173 := Tryz.underlying215
 a173 := Tryz.isAgg215
 z173 := Tryz.sizeOf215
 v173 := Tryz.zeroValue215
 t212 := Tryz.underlying240
 a212 := Tryz.isAgg240
 z212 := Tryz.sizeOf240
 v212 := Tryz.zeroValue240
 t213 := Tryz.underlying241
 a213 := Tryz.isAgg241
 z213 := Tryz.sizeOf241
 t232 := Tryz.underlying267
 a232 := Tryz.isAgg267
 z232 := Tryz.sizeOf267
 v232 := Tryz.zeroValue267
 t233 := Tryz.underlying268
 a233 := Tryz.isAgg268
 z233 := Tryz.sizeOf268
 v233 := Tryz.zeroValue268
 g17 := by kernel_rfl
 g18 := by kernel_rfl
 g19 := by kernel_rfl
 i0 := by kernel_rfl
 i2 := by kernel_rfl
 i3 := by kernel_rfl
 i4 := by kernel_rfl
 i5 := by kernel_rfl
 i9 := by kernel_rfl
 i20 := by kernel_rfl
 i37 := by kernel_rfl
 i46 := by kernel_rfl
 i51 := by kernel_rfl
 i53 := by kernel_rfl
 i171 := by kernel_rfl
 i173 := by kernel_rfl
 i212 := by kernel_rfl
 i232 := by kernel_rfl
 i233 := by kernel_rfl
 m17 := by kernel_rfl
 m18 := by kernel_rfl
 m19 := by kernel_rfl }
theorem FormatInt_10 (n : Int) (h0 : -9223372036854775808 ≤ n) (h1 : n ≤ 9223372036854775807) (w : World) (htab : Lib.TabIs Tryz.prog w "internal/strconv.uint64pow10" .u64 Lib.pow10Tab) :
  Calls Tryz.prog 100 #[.int .i64 n, .int .i64 10] w fun e w' => e = .returned (.string ⟨(Lib.itoa n).toArray⟩) ∧ ∃ k os, w' = Go.Sort.grow (w.drewN k) os := Any.strconv_FormatInt_10 zlayM n h0 h1 w htab
def LF : World → Prop := fun w => Lib.TabIs Tryz.prog w "internal/strconv.uint64pow10" .u64 Lib.pow10Tab
theorem FormatInt_all (n : Int) (h0 : -9223372036854775808 ≤ n) (h1 : n ≤ 9223372036854775807) {H : Heap} {k : Nat} (hk : H[k]? = some (.fact LF)) {K : AV → Heap → Prop} (hK : K (.str (Lib.itoa n)) H) :
  ACalls Tryz.prog n_zq98 [.int .i64 n, .int .i64 10] H K := by
 intro B w G ⟨vs⟩ hH hv
 match vs, hv with
 | [v0, v1], ⟨e0, e1, _⟩ =>
  have e0 : v0 = .int .i64 n := e0
  have e1 : v1 = .int .i64 10 := e1
  subst e0 e1
  refine (FormatInt_10 n h0 h1 w (fact_use hH hk)).mono ?_
  rintro e w' ⟨rfl, k, os, rfl⟩
  obtain ⟨h1, h2⟩ := grown_step hH k os
  exact ⟨_, .str (Lib.itoa n), H, G, rfl, h1, h2, rfl, hK⟩
end Go.Proofs.YtfpmdpldabopjaaGreatDoor
