/- HasType: the program's function has. -/
import Derived.Test.YtfpmdpldabopjaaGreatDoorKVa
namespace Go.Proofs.YtfpmdpldabopjaaGreatDoor
open Go Go.Abs
set_option linter.unusedSimpArgs false
set_option linter.unusedVariables false
set_option maxRecDepth 8000
theorem hasL_eqBy (data : List Dat) : ∀ vs ts : List VT, hasL data vs ts = eqBy (hasV data) vs ts
  | [], [] => by simp [hasL, eqBy]
  | [], _ :: _ => by simp [hasL, eqBy]
  | _ :: _, [] => by simp [hasL, eqBy]
  | v :: vs, t :: ts => by simp [hasL, eqBy, hasL_eqBy data vs ts]
theorem callHaveAll1 : callable Tryz.prog n_zq156 = true := by kernel_rfl
theorem callHas1 : callable Tryz.prog n_zq90 = true := by kernel_rfl
theorem ty_kinds {data : List Dat} {k n : Int} {ks : List VT} (h : tyOk data 0 (.mk k n ks) = true) : (k = 1 ∧ ks = []) ∨ (k = 2 ∧ ks = []) ∨ (k = 3 ∧ ks = []) ∨ k = 5 ∨ (k = 6 ∧ 2 ≤ ks.length) ∨ (k = 7 ∧ ks.length = 1) ∨ (k = 8 ∧ ks.length = 1) ∨ (k = 9 ∧ 1 ≤ ks.length) := by
  rw [tyOk, Bool.and_eq_true] at h
  have h := h.1
  unfold shapeOk at h
  by_cases h1 : k = 1
  · subst h1; simp at h; simp [h.2]
  by_cases h2 : k = 2
  · subst h2; simp at h; simp [h.2]
  by_cases h3 : k = 3
  · subst h3; simp at h; simp [h.2]
  by_cases h4 : k = 4
  · subst h4; simp at h; omega
  by_cases h5 : k = 5
  · subst h5; simp
  by_cases h6 : k = 6
  · subst h6; simp at h; simp; omega
  by_cases h7 : k = 7
  · subst h7; simp at h; simp; omega
  by_cases h8 : k = 8
  · subst h8; simp at h; simp; omega
  by_cases h9 : k = 9
  · subst h9; simp at h; simp; omega
  simp [h1, h2, h3, h4, h5, h6, h7, h8, h9] at h
structure DOk (data : List Dat) : Prop where
  ok : dataOk data = true
  k : KData data
theorem DOk.small {data : List Dat} (h : DOk data) : Small data := fun D hD => by
  obtain ⟨_, h2⟩ := h.k
  obtain ⟨_, h3, h4⟩ := h2 D hD
  refine ⟨by omega, fun c hc => ?_⟩
  obtain ⟨_, h5, h6⟩ := h4 c hc
  exact ⟨by omega, fun x hx => by have := h6 x hx; omega⟩
theorem kd_fields {data : List Dat} (h : KData data) : data.length ≤ 1000000 ∧ (∀ d ∈ data, ∀ c ∈ d.cons, c.args.length ≤ 1000 ∧ ∀ x ∈ c.args, x.nodes ≤ 1000) ∧ ∀ d ∈ data, d.cons.length ≤ 1000000 := by
  obtain ⟨h1, h2⟩ := h
  refine ⟨by omega, fun D hD c hc => ?_, fun D hD => ?_⟩
  · obtain ⟨_, h3, h4⟩ := h2 D hD
    obtain ⟨_, h5, h6⟩ := h4 c hc
    exact ⟨by omega, fun x hx => by have := h6 x hx; omega⟩
  · obtain ⟨_, h3, h4⟩ := h2 D hD
    omega
section
variable {data : List Dat} (hD : DOk data)
def HasS (data : List Dat) (v : VT) : Prop := ∀ (t : VT), tyValid data 0 t = true → ∀ (H : Heap) (K : AV → Heap → Prop), K (.bool (hasV data v t)) H → ACalls Tryz.prog n_zq50 [.sl (data.map Dat.cs) .none, .agg v.cs, .agg t.cs] H K
theorem zq88_spec (vs ts : List VT) (hl : vs.length ≤ 1000000) (hv : ∀ v ∈ vs, HasS data v) (ht : ∀ t ∈ ts, tyValid data 0 t = true) (H : Heap) (K : AV → Heap → Prop) (hK : K (.bool (hasL data vs ts)) H) :
    ACalls Tryz.prog n_zq88 [.sl (data.map Dat.cs) .none, .sl (VT.css vs) .none, .sl (VT.css ts) .none] H K := by
  refine ACalls.out (zq88_ok fun hs => ?_)
  simp [zq88]
  refine ⟨rfl, equalFuncV_spec (hasV data) _ vs ts _ (by simp [AV.sc, AV.scV, AV.scA, AV.scB]) ?_ (by omega) _ ?_⟩
  · intro i h1 h2 hle J K' hK'
    simp [aCallV, callHaveAll1]
    refine ACalls.out (zq156_ok fun hs1 => ?_)
    obtain ⟨x, y, z, hvx, hx, hy, hz⟩ := vt3' vs[i]
    obtain ⟨x2, y2, z2, hvx2, hx2, hy2, hz2⟩ := vt3' ts[i]
    simp [zq156, hvx, hvx2]
    rw [← hvx, ← hvx2]
    refine hv _ (List.getElem_mem h1) _ (ht _ (List.getElem_mem h2)) _ _ ?_
    refine Out.bool (H2 := H ++ [.cells [.sl (data.map Dat.cs) .none]] ++ J) (J := [.cells (vs[i]).cs, .cells (ts[i]).cs]) (by simp) (by simp) (by simpa using hs1) (by simpa using hK')
  · rw [← hasL_eqBy]
    exact Out.bool rfl (Nat.le_refl _) hs hK
theorem i0 (n : Nat) : ((n : Int) == 0) = (n == 0) := by
  rw [Bool.eq_iff_iff]; simp
theorem getD_at {ks : List VT} (h : 0 < ks.length) : ks.getD 0 (.mk 0 0 []) = ks[0] := by simp [List.getD_eq_getElem?_getD, h]
theorem hasA_drop {data : List Dat} {t : VT} {vs : List VT} {i : Nat} (h : i < vs.length) : hasA data (vs.drop i) t = (hasV data vs[i] t && hasA data (vs.drop (i + 1)) t) := by rw [List.drop_eq_getElem_cons h, hasA]
include hD in
theorem zq50_spec : ∀ (m : Nat) (v : VT), v.nodes ≤ m → v.nodes ≤ 1000000 → HasS data v := by
  intro m
  induction m with
  | zero => intro v h; have := v.nodes_pos; omega
  | succ m ih =>
    intro v hm hb t ht H K hK
    obtain ⟨vk, vn, vks⟩ := v
    obtain ⟨k, n, ks⟩ := t
    refine ACalls.out (zq50_ok fun hs => ?_)
    have hO : ∀ b J, hasV data (.mk vk vn vks) (.mk k n ks) = b → Out H.length K (.bool b) (H ++ J) := fun b J h => Out.bool rfl (Nat.le_refl _) hs (h ▸ hK)
    have hll := VT.len_le vks
    have hnn : (VT.mk vk vn vks).nodes = VT.nodesL vks + 1 := by simp [VT.nodes]
    have hkids : ∀ x ∈ vks, HasS data x := fun x hx => ih x (by have := kids_lt (k := vk) (n := vn) x hx; omega) (by have := kids_le (k := vk) (n := vn) x hx; omega)
    have htk := tyValid_kids ht
    have hto : tyOk data 0 (.mk k n ks) = true := by rw [tyValid, Bool.and_eq_true] at ht; exact ht.2
    have htn : (VT.mk k n ks).nodes ≤ 200 := by rw [tyValid, Bool.and_eq_true] at ht; exact of_decide_eq_true ht.1
    obtain ⟨f1, f2, f3⟩ := kd_fields hD.k
    rcases ty_kinds hto with ⟨rfl, rfl⟩ | ⟨rfl, rfl⟩ | ⟨rfl, rfl⟩ | rfl | ⟨rfl, hk⟩ | ⟨rfl, hk⟩ | ⟨rfl, hk⟩ | ⟨rfl, hk⟩
    · simp [zq50, VT.cs, Nat.add_assoc]
      cases h1 : (vk == 3) <;> simp
      · exact hO _ _ (by simp [hasV, h1])
      by_cases h2 : -1099511627776 ≤ vn <;> simp [h2]
      · by_cases h3 : vn ≤ 1099511627776 <;> simp [h3]
        · exact hO _ _ (by simp [hasV, h1, h2, h3, i0])
        · exact hO _ _ (by simp [hasV, h1, h2, h3])
      · exact hO _ _ (by simp [hasV, h1, h2])
    · simp [zq50, VT.cs, Nat.add_assoc]
      cases h1 : (vk == 2) <;> simp
      · exact hO _ _ (by simp [hasV, h1])
      cases h2 : (vn == 0) <;> simp [Nat.add_assoc]
      · cases h3 : (vn == 1) <;> simp
        · exact hO _ _ (by simp [hasV, h1, h2, h3])
        · exact hO _ _ (by simp [hasV, h1, h2, h3, i0])
      · exact hO _ _ (by simp [hasV, h1, h2, i0])
    · simp [zq50, VT.cs, Nat.add_assoc]
      cases h1 : (vk == 1) <;> simp
      · exact hO _ _ (by simp [hasV, h1])
      cases h2 : (vn == 0) <;> simp [Nat.add_assoc]
      · exact hO _ _ (by simp [hasV, h1, h2])
      · exact hO _ _ (by simp [hasV, h1, h2, i0])
    · -- a data type
      simp [zq50, VT.cs, Nat.add_assoc]
      cases h1 : (vk == 5) with
      | false =>
        have : (vk != 5) = true := by simp [bne, h1]
        simp [this]
        exact hO _ _ (by simp [hasV, h1])
      | true =>
      have h1' : (vk != 5) = false := by simp [bne, h1]
      by_cases h2 : vn < 0
      · simp [h1', h2]
        exact hO _ _ (by simp [hasV, h1]; omega)
      by_cases h3 : 8 ≤ vn
      · simp [h1', h2, h3]
        exact hO _ _ (by simp [hasV, h1]; omega)
      simp [h1', h2, h3, Nat.add_assoc]
      have e : ∀ o, fields data (.mk 5 n ks) vn = o → hasV data (.mk vk vn vks) (.mk 5 n ks) = hasL? data vks o := fun o ho => by
        have q1 : 0 ≤ vn := by omega
        have q2 : vn < 8 := by omega
        simp [hasV, h1, q1, q2, ho]
      have hcs : (VT.mk 5 n ks).cs = [.int .i64 5, .int .i64 n, .sl (VT.css ks) .none] := rfl
      rw [← hcs]
      refine zq89_spec data f1 f2 f3 (.mk 5 n ks) (by omega) vn _ _ ?_
      cases hf : fields data (.mk 5 n ks) vn with
      | none =>
        simp [fieldsR]
        exact hO _ _ (by rw [e _ hf, hasL?_none])
      | some l =>
        simp [fieldsR, hcs]
        refine zq88_spec vks l (by omega) hkids (fields_valid hD.ok hto hf) _ _ ?_
        exact hO _ _ (by rw [e _ hf, hasL?_some])
    · simp [zq50, VT.cs, Nat.add_assoc]
      cases h1 : (vk == 4) <;> simp
      · exact hO _ _ (by simp [hasV, h1])
      cases h2 : (vn == 0) <;> simp [Nat.add_assoc]
      · exact hO _ _ (by simp [hasV, h1, h2])
      refine zq88_spec vks ks (by omega) hkids htk _ _ ?_
      exact hO _ _ (by simp [hasV, h1, h2])
    · -- an array
      simp [zq50, VT.cs, Nat.add_assoc]
      cases h1 : (vk == 6) <;> simp
      · exact hO _ _ (by simp [hasV, h1])
      cases h2 : (vn == 0) <;> simp [Nat.add_assoc]
      · exact hO _ _ (by simp [hasV, h1, h2])
      by_cases h3 : vks.length ≤ 4096
      case neg =>
        have h3' : ¬ (vks.length : Int) ≤ 4096 := by omega
        simp [h3, h3']
        exact hO _ _ (by simp [hasV, h1, h2, h3])
      have h3' : (vks.length : Int) ≤ 4096 := by omega
      simp [h3, h3']
      refine ⟨⟨rfl, rfl⟩, ?_⟩
      have hk0 : 0 < ks.length := by omega
      have e : hasV data (.mk vk vn vks) (.mk 7 n ks) = hasA data vks ks[0] := by
        have := getD_at hk0
        simp [hasV, h1, h2, h3, this, hk0]
      refine containsFuncV_spec vks (by omega) _ _ _ (by simp [AV.sc, AV.scV, AV.scA, AV.scB]) (fun i H' => H' = H ++ [.cells [.sl (data.map Dat.cs) .none], .cells [.int .i64 vk, .int .i64 vn, .sl (VT.css vks) .none], .cells [.int .i64 7, .int .i64 n, .sl (VT.css ks) .none]] ∧ hasA data (vks.drop i) ks[0] = hasA data vks ks[0]) ⟨rfl, by simp⟩ ?_ ?_
      · rintro i hi H' hle ⟨rfl, ho⟩
        rw [hasA_drop hi] at ho
        simp [aCallV, callHas1]
        refine ACalls.out (zq90_ok fun hs1 => ?_)
        obtain ⟨x, y, z, hvx, hx, hy, hz⟩ := vt3' vks[i]
        obtain ⟨x2, y2, z2, hvx2, hx2, hy2, hz2⟩ := vt3' ks[0]
        simp [zq90, hvx, hk0, hvx2, Nat.add_assoc]
        rw [← hvx, ← hvx2]
        refine aPureX_call (.bool (hasV data vks[i] ks[0])) (fun J => hkids _ (List.getElem_mem hi) ks[0] (htk _ (List.getElem_mem hk0)) _ _ ⟨rfl, rfl⟩) ?_
        simp
        cases hb : hasV data vks[i] ks[0] with
        | true =>
          rw [hb, Bool.true_and] at ho
          exact Out.bool (H2 := H ++ [.cells [.sl (data.map Dat.cs) .none], .cells [.int .i64 vk, .int .i64 vn, .sl (VT.css vks) .none], .cells [.int .i64 7, .int .i64 n, .sl (VT.css ks) .none]]) (J := [_]) (by simp; rfl) (by simp) hs1 (.inl ⟨rfl, rfl, ho⟩)
        | false =>
          rw [hb, Bool.false_and] at ho
          refine Out.bool (H2 := H ++ [.cells [.sl (data.map Dat.cs) .none], .cells [.int .i64 vk, .int .i64 vn, .sl (VT.css vks) .none], .cells [.int .i64 7, .int .i64 n, .sl (VT.css ks) .none]]) (J := [_]) (by simp; rfl) (by simp) hs1 (.inr ⟨rfl, ?_⟩)
          exact hO _ _ (by rw [e, ← ho])
      · rintro H' ⟨rfl, ho⟩
        rw [List.drop_length, hasA] at ho
        simp
        exact hO _ _ (by rw [e, ← ho])
    · simp [zq50, VT.cs, Nat.add_assoc]
      cases h1 : (vk == 7) <;> simp
      · exact hO _ _ (by simp [hasV, h1])
      cases h2 : (vn == 0) <;> simp [Nat.add_assoc]
      · exact hO _ _ (by simp [hasV, h1, h2])
      refine zq88_spec vks ks (by omega) hkids htk _ _ ?_
      exact hO _ _ (by simp [hasV, h1, h2])
    · simp [zq50, VT.cs, Nat.add_assoc]
      cases h1 : (vk == 8) <;> simp
      · exact hO _ _ (by simp [hasV, h1])
      by_cases h2 : 0 ≤ vn <;> simp [h2]
      · by_cases h3 : vn < 64 <;> simp [h3]
        · exact hO _ _ (by simp [hasV, h1, h2, h3, i0])
        · exact hO _ _ (by simp [hasV, h1, h2, h3])
      · exact hO _ _ (by simp [hasV, h1, h2])
end
end Go.Proofs.YtfpmdpldabopjaaGreatDoor
namespace Go.Proofs.YtfpmdpldabopjaaGreatDoor
open Go Go.Abs
set_option linter.unusedSimpArgs false
set_option linter.unusedVariables false
set_option maxRecDepth 8000
section
variable {data : List Dat} (hD : DOk data)
def HasR (data : List Dat) (v : VT) : Prop := ∀ (t : VT), tyValid data 0 t = true → ∀ (H : Heap) (K : AV → Heap → Prop), K (.bool (hasV data v t)) H → ACalls Tryz.prog n_zq54 [.sl (data.map Dat.cs) .none, .agg v.cs, .agg t.cs] H K
theorem eqBy_drop {f : VT → VT → Bool} {x y : List VT} {i : Nat} (h : i < x.length) (h' : i < y.length) : eqBy f (x.drop i) (y.drop i) = (f x[i] y[i] && eqBy f (x.drop (i + 1)) (y.drop (i + 1))) := by
  rw [List.drop_eq_getElem_cons h, List.drop_eq_getElem_cons h', eqBy]
theorem zq95_spec (vs ts : List VT) (hl : vs.length ≤ 1000000) (hv : ∀ v ∈ vs, HasR data v) (ht : ∀ t ∈ ts, tyValid data 0 t = true) (H : Heap) (K : AV → Heap → Prop) (hK : K (.bool (hasL data vs ts)) H) :
    ACalls Tryz.prog n_zq95 [.sl (data.map Dat.cs) .none, .sl (VT.css vs) .none, .sl (VT.css ts) .none] H K := by
  refine ACalls.out (zq95_ok fun hs => ?_)
  rw [hasL_eqBy] at hK
  have hO : ∀ b, eqBy (hasV data) vs ts = b → Out H.length K (.bool b) H := fun b h => by
    have := Out.bool (J := []) rfl (Nat.le_refl _) hs (h ▸ hK)
    simpa using this
  by_cases hlen : vs.length = ts.length
  case neg =>
    have hl' : ((vs.length : Int) != ts.length) = true := by simp; omega
    simp [zq95, hl']
    exact hO _ (eqBy_len hlen)
  simp [zq95, hlen]
  refine zq95_loop4 (Inv := fun q t H' => ∃ i : Nat, i ≤ vs.length ∧ q = vs.length - i ∧ t = .int .i64 i ∧ eqBy (hasV data) (vs.drop i) (ts.drop i) = eqBy (hasV data) vs ts ∧ H = H') vs.length ?_ ?_
  · intro _; exact ⟨0, by omega, by omega, rfl, by simp, rfl⟩
  rintro q t H' ⟨i, hi, rfl, rfl, ho, rfl⟩ hsc hle hsF Kb hKb
  by_cases hlt : i < vs.length
  · have hlt' : i < ts.length := by omega
    have hlt2 : (i : Int) < ts.length := by omega
    rw [eqBy_drop hlt hlt'] at ho
    obtain ⟨x, y, z, hvx, hx, hy, hz⟩ := vt3' vs[i]
    obtain ⟨x2, y2, z2, hvx2, hx2, hy2, hz2⟩ := vt3' ts[i]
    simp [zq95_b4, hlt, hlt', hlt2, hvx, hvx2]
    rw [← hvx, ← hvx2]
    refine aPureX_call (.bool (hasV data vs[i] ts[i])) (fun J => hv _ (List.getElem_mem hlt) _ (ht _ (List.getElem_mem hlt')) _ _ ⟨rfl, rfl⟩) ?_
    cases hb : hasV data vs[i] ts[i] with
    | false =>
      rw [hb, Bool.false_and] at ho
      simp
      exact hO _ ho.symm
    | true =>
      rw [hb, Bool.true_and] at ho
      simp
      rw [wrap_in (by omega) (by omega)]
      refine hKb _ _ ⟨vs.length - (i + 1), by omega, Back.here (Nat.le_refl _) hs ?_ ⟨_, rfl, i + 1, by omega, rfl, by simp, ho, rfl⟩⟩
      simp [zq95_fr4, AV.sc, AV.scV, AV.scA, AV.scB]
  · obtain rfl : i = vs.length := by omega
    rw [List.drop_length, hlen, List.drop_length, eqBy] at ho
    simp [zq95_b4, hlen]
    exact hO _ ho.symm
theorem hasA_one {data : List Dat} {vks ks : List VT} (h1 : vks.length = 1) (h2 : ks.length = 1) : hasL data vks ks = hasA data vks (ks[0]'(by omega)) := by
  match vks, ks, h1, h2 with
  | [v], [k], _, _ => simp [hasL, hasA]
include hD in
theorem zq54_spec : ∀ (m : Nat) (v : VT), v.nodes ≤ m → v.nodes ≤ 1000000 → HasR data v := by
  intro m
  induction m with
  | zero => intro v h; have := v.nodes_pos; omega
  | succ m ih =>
    intro v hm hb t ht H K hK
    obtain ⟨vk, vn, vks⟩ := v
    obtain ⟨k, n, ks⟩ := t
    refine ACalls.out (zq54_ok fun hs => ?_)
    have hO : ∀ b J, hasV data (.mk vk vn vks) (.mk k n ks) = b → Out H.length K (.bool b) (H ++ J) := fun b J h => Out.bool rfl (Nat.le_refl _) hs (h ▸ hK)
    have hll := VT.len_le vks
    have hnn : (VT.mk vk vn vks).nodes = VT.nodesL vks + 1 := by simp [VT.nodes]
    have hkids : ∀ x ∈ vks, HasR data x := fun x hx => ih x (by have := kids_lt (k := vk) (n := vn) x hx; omega) (by have := kids_le (k := vk) (n := vn) x hx; omega)
    have htk := tyValid_kids ht
    have hto : tyOk data 0 (.mk k n ks) = true := by rw [tyValid, Bool.and_eq_true] at ht; exact ht.2
    have htn : (VT.mk k n ks).nodes ≤ 200 := by rw [tyValid, Bool.and_eq_true] at ht; exact of_decide_eq_true ht.1
    obtain ⟨f1, f2, f3⟩ := kd_fields hD.k
    have loop : ∀ (hk : ks.length = 1) , hasV data (.mk vk vn vks) (.mk k n ks) = hasA data vks (ks[0]'(by omega)) →
        zq54_l21 (.sl (data.map Dat.cs) .none) (.ptr H.length 0) (.ptr (H.length + 1) 0) (.int .i64 vks.length) (.int .i64 0) (H ++ [.cells [.int .i64 vk, .int .i64 vn, .sl (VT.css vks) .none], .cells [.int .i64 k, .int .i64 n, .sl (VT.css ks) .none]]) (Out H.length K) := by
      intro hk e
      have hk0 : 0 < ks.length := by omega
      refine zq54_loop21 (Inv := fun q t10 H' => ∃ i : Nat, i ≤ vks.length ∧ q = vks.length - i ∧ t10 = .int .i64 i ∧ hasA data (vks.drop i) ks[0] = hasA data vks ks[0] ∧ H' = H ++ [.cells [.int .i64 vk, .int .i64 vn, .sl (VT.css vks) .none], .cells [.int .i64 k, .int .i64 n, .sl (VT.css ks) .none]]) vks.length ?_ ?_
      · intro _; exact ⟨0, by omega, by omega, rfl, by simp, rfl⟩
      rintro q t10 H' ⟨i, hi, rfl, rfl, ho, rfl⟩ hsc hle hsF Kb hKb
      by_cases hlt : i < vks.length
      · rw [hasA_drop hlt] at ho
        obtain ⟨x, y, z, hvx, hx, hy, hz⟩ := vt3' vks[i]
        obtain ⟨x2, y2, z2, hvx2, hx2, hy2, hz2⟩ := vt3' ks[0]
        simp [zq54_b21, hlt, hvx, hk0, hvx2]
        rw [← hvx, ← hvx2]
        refine aPureX_call (.bool (hasV data vks[i] ks[0])) (fun J => hkids _ (List.getElem_mem hlt) ks[0] (htk _ (List.getElem_mem hk0)) _ _ ⟨rfl, rfl⟩) ?_
        cases hb2 : hasV data vks[i] ks[0] with
        | false =>
          rw [hb2, Bool.false_and] at ho
          simp
          exact hO _ _ (e.trans ho.symm)
        | true =>
          rw [hb2, Bool.true_and] at ho
          simp
          rw [wrap_in (by omega) (by omega)]
          refine hKb _ _ ⟨vks.length - (i + 1), by omega, Back.here (by simp) hsc ?_ ⟨_, rfl, i + 1, by omega, rfl, by simp, ho, rfl⟩⟩
          simp [zq54_fr21, AV.sc, AV.scV, AV.scA, AV.scB]
      · obtain rfl : i = vks.length := by omega
        rw [List.drop_length, hasA] at ho
        simp [zq54_b21]
        exact hO _ _ (e.trans ho.symm)
    rcases ty_kinds hto with ⟨rfl, rfl⟩ | ⟨rfl, rfl⟩ | ⟨rfl, rfl⟩ | rfl | ⟨rfl, hk⟩ | ⟨rfl, hk⟩ | ⟨rfl, hk⟩ | ⟨rfl, hk⟩
    · simp [zq54, VT.cs, Nat.add_assoc]
      cases h1 : (vk == 3) <;> simp
      · exact hO _ _ (by simp [hasV, h1])
      by_cases h2 : -1099511627776 ≤ vn <;> simp [h2]
      · by_cases h3 : vn ≤ 1099511627776 <;> simp [h3]
        · exact hO _ _ (by simp [hasV, h1, h2, h3, i0])
        · exact hO _ _ (by simp [hasV, h1, h2, h3])
      · exact hO _ _ (by simp [hasV, h1, h2])
    · simp [zq54, VT.cs, Nat.add_assoc]
      cases h1 : (vk == 2) <;> simp
      · exact hO _ _ (by simp [hasV, h1])
      cases h2 : (vn == 0) <;> simp
      · cases h3 : (vn == 1) <;> simp
        · exact hO _ _ (by simp [hasV, h1, h2, h3])
        · exact hO _ _ (by simp [hasV, h1, h2, h3, i0])
      · exact hO _ _ (by simp [hasV, h1, h2, i0])
    · simp [zq54, VT.cs, Nat.add_assoc]
      cases h1 : (vk == 1) <;> simp
      · exact hO _ _ (by simp [hasV, h1])
      cases h2 : (vn == 0) <;> simp
      · exact hO _ _ (by simp [hasV, h1, h2])
      · exact hO _ _ (by simp [hasV, h1, h2, i0])
    · -- a data type
      simp [zq54, VT.cs, Nat.add_assoc]
      cases h1 : (vk == 5) with
      | false =>
        have : (vk != 5) = true := by simp [bne, h1]
        simp [this]
        exact hO _ _ (by simp [hasV, h1])
      | true =>
      have h1' : (vk != 5) = false := by simp [bne, h1]
      by_cases h2 : vn < 0
      · simp [h1', h2]
        exact hO _ _ (by simp [hasV, h1]; omega)
      by_cases h3 : 8 ≤ vn
      · simp [h1', h2, h3]
        exact hO _ _ (by simp [hasV, h1]; omega)
      simp [h1', h2, h3, Nat.add_assoc]
      have e : ∀ o, fields data (.mk 5 n ks) vn = o → hasV data (.mk vk vn vks) (.mk 5 n ks) = hasL? data vks o := fun o ho => by
        have q1 : 0 ≤ vn := by omega
        have q2 : vn < 8 := by omega
        simp [hasV, h1, q1, q2, ho]
      have hcs : (VT.mk 5 n ks).cs = [.int .i64 5, .int .i64 n, .sl (VT.css ks) .none] := rfl
      rw [← hcs]
      refine zq96_spec data f1 f2 f3 (.mk 5 n ks) (by omega) vn _ _ ?_
      cases hf : fields data (.mk 5 n ks) vn with
      | none =>
        simp [fieldsR]
        exact hO _ _ (by rw [e _ hf, hasL?_none])
      | some l =>
        simp [fieldsR, hcs]
        refine zq95_spec vks l (by omega) hkids (fields_valid hD.ok hto hf) _ _ ?_
        exact hO _ _ (by rw [e _ hf, hasL?_some])
    · simp [zq54, VT.cs, Nat.add_assoc]
      cases h1 : (vk == 4) <;> simp
      · exact hO _ _ (by simp [hasV, h1])
      cases h2 : (vn == 0) <;> simp
      · exact hO _ _ (by simp [hasV, h1, h2])
      refine zq95_spec vks ks (by omega) hkids htk _ _ ?_
      exact hO _ _ (by simp [hasV, h1, h2])
    · -- an array
      simp [zq54, zq54_j1, VT.cs, Nat.add_assoc]
      have hk0 : 0 < ks.length := by omega
      cases h1 : (vk == 6) with
      | false =>
        have : (vk != 6) = true := by simp [bne, h1]
        simp [this]
        exact hO _ _ (by simp [hasV, h1])
      | true =>
      have h1' : (vk != 6) = false := by simp [bne, h1]
      by_cases h3 : vks.length ≤ 4096
      case neg =>
        have h3' : (4096 : Int) < vks.length := by omega
        simp [h1', h3']
        exact hO _ _ (by simp [hasV, h1, h3])
      have h3' : ¬ (4096 : Int) < vks.length := by omega
      cases h2 : (vn == 0) with
      | false =>
        have : (vn != 0) = true := by simp [bne, h2]
        simp [h1', h3', this]
        exact hO _ _ (by simp [hasV, h1, h2])
      | true =>
      have h2' : (vn != 0) = false := by simp [bne, h2]
      simp [h1', h3', h2']
      exact loop hk (by have := getD_at hk0; simp [hasV, h1, h2, h3, this, hk0])
    · simp [zq54, zq54_j1, VT.cs, Nat.add_assoc]
      have hk0 : 0 < ks.length := by omega
      cases h1 : (vk == 7) with
      | false =>
        have : (vk != 7) = true := by simp [bne, h1]
        simp [this]
        exact hO _ _ (by simp [hasV, h1])
      | true =>
      have h1' : (vk != 7) = false := by simp [bne, h1]
      by_cases h3 : vks.length = 1
      case neg =>
        have h3' : ((vks.length : Int) != 1) = true := by simp; omega
        simp [h1', h3']
        refine hO _ _ ?_
        have : hasL data vks ks = false := by rw [hasL_eqBy]; exact eqBy_len (by omega)
        simp [hasV, h1, this]
      have h3' : ((vks.length : Int) != 1) = false := by simp; omega
      cases h2 : (vn == 0) with
      | false =>
        have : (vn != 0) = true := by simp [bne, h2]
        simp [h1', h3', this]
        exact hO _ _ (by simp [hasV, h1, h2])
      | true =>
      have h2' : (vn != 0) = false := by simp [bne, h2]
      simp [h1', h3', h2']
      exact loop hk (by rw [← hasA_one h3 hk]; simp [hasV, h1, h2])
    · simp [zq54, zq54_j1, VT.cs, Nat.add_assoc]
      cases h1 : (vk == 8) <;> simp
      · exact hO _ _ (by simp [hasV, h1])
      by_cases h2 : 0 ≤ vn <;> simp [h2]
      · by_cases h3 : vn < 64 <;> simp [h3]
        · exact hO _ _ (by simp [hasV, h1, h2, h3, i0])
        · exact hO _ _ (by simp [hasV, h1, h2, h3])
      · exact hO _ _ (by simp [hasV, h1, h2])
end
theorem kdata_small {data : List Dat} (h : KData data) : Small data := fun D hD => by
  obtain ⟨_, h2⟩ := h
  obtain ⟨_, h3, h4⟩ := h2 D hD
  refine ⟨by omega, fun c hc => ?_⟩
  obtain ⟨_, h5, h6⟩ := h4 c hc
  exact ⟨by omega, fun x hx => by have := h6 x hx; omega⟩
end Go.Proofs.YtfpmdpldabopjaaGreatDoor
namespace Go.Proofs.YtfpmdpldabopjaaGreatDoor
open Go Go.Abs
set_option linter.unusedSimpArgs false
set_option linter.unusedVariables false
set_option maxRecDepth 8000
end Go.Proofs.YtfpmdpldabopjaaGreatDoor
