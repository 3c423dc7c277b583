/- Values of types and their nodes in order, in plain Lean. -/
import Derived.Test.YtfpmdpldabopjaaGreatDoorKCa
import Derived.Test.YtfpmdpldabopjaaGreatDoorKGA
import Derived.Test.YtfpmdpldabopjaaGreatDoorKGN
namespace Go.Proofs.YtfpmdpldabopjaaGreatDoor
open Go Go.Abs
set_option linter.unusedSimpArgs false
set_option linter.unusedVariables false
set_option maxRecDepth 8000
mutual
def hasV (data : List Dat) : VT → VT → Bool
  | .mk vk vn vks, .mk k n al =>
    if k = 1 then vk == 3 && decide (-1099511627776 ≤ vn) && decide (vn ≤ 1099511627776) && vks.length == 0
    else if k = 2 then vk == 2 && (vn == 0 || vn == 1) && vks.length == 0
    else if k = 3 then vk == 1 && vn == 0 && vks.length == 0
    else if k = 6 then vk == 4 && vn == 0 && hasL data vks al
    else if k = 5 then vk == 5 && decide (0 ≤ vn) && decide (vn < 8) && hasL? data vks (fields data (.mk k n al) vn)
    else if k = 7 then vk == 6 && vn == 0 && decide (vks.length ≤ 4096) && hasA data vks (al.getD 0 (.mk 0 0 []))
    else if k = 8 then vk == 7 && vn == 0 && hasL data vks al
    else vk == 8 && decide (0 ≤ vn) && decide (vn < 64) && vks.length == 0
def hasL? (data : List Dat) : List VT → Option (List VT) → Bool
  | _, none => false
  | [], some ts => ts.isEmpty
  | v :: vs, some ts => match ts with
    | [] => false
    | t :: ts => hasV data v t && hasL data vs ts
def hasL (data : List Dat) : List VT → List VT → Bool
  | [], ts => ts.isEmpty
  | v :: vs, ts => match ts with
    | [] => false
    | t :: ts => hasV data v t && hasL data vs ts
def hasA (data : List Dat) : List VT → VT → Bool
  | [], _ => true
  | v :: vs, t => hasV data v t && hasA data vs t
end
theorem hasL?_some (data : List Dat) (vs ts : List VT) : hasL? data vs (some ts) = hasL data vs ts := by
  cases vs with
  | nil => cases ts <;> rw [hasL?, hasL]
  | cons v vs => cases ts <;> simp only [hasL?, hasL]
theorem hasL?_none (data : List Dat) (vs : List VT) : hasL? data vs none = false := by cases vs <;> rw [hasL?]
theorem shape_sub {data : List Dat} {m : Nat} {vars k n : Int} {len : Nat} (h : shapeOk (data.take m) vars k n len = true) (h4 : k ≠ 4) : shapeOk data 0 k n len = true := by
  unfold shapeOk at h ⊢
  have h4' : (k == 4) = false := by simpa using h4
  rw [h4'] at h ⊢
  by_cases h5 : k = 5
  · subst h5
    simp only [take_get] at h
    by_cases hm : n.toNat < m
    · simpa [hm] using h
    · simp [hm] at h
  · have : (k == 5) = false := by simpa using h5
    simpa [this] using h
theorem substL_len (ks : List VT) : ∀ l : List VT, (substL ks l).length = l.length
  | [] => rfl
  | t :: ts => by simp [substL, substL_len ks ts]
mutual
theorem tyOk_subst {data : List Dat} {m : Nat} {vars : Int} {ks : List VT} (hk : ∀ x ∈ ks, tyOk data 0 x = true) (hl : (ks.length : Int) = vars) : ∀ a : VT, tyOk (data.take m) vars a = true → tyOk data 0 (subst ks a) = true
  | .mk k n al => by
    intro h
    rw [tyOk, Bool.and_eq_true] at h
    unfold subst
    by_cases h4 : k = 4
    · have h1 := h.1
      subst h4
      simp [shapeOk] at h1
      rw [if_pos ⟨rfl, by omega, by omega⟩]
      have hn : n.toNat < ks.length := by omega
      rw [List.getElem?_eq_getElem hn]
      exact hk _ (List.getElem_mem hn)
    · rw [if_neg (fun h => h4 h.1), tyOk, Bool.and_eq_true, substL_len]
      exact ⟨shape_sub h.1 h4, tyOkL_subst hk hl al h.2⟩
theorem tyOkL_subst {data : List Dat} {m : Nat} {vars : Int} {ks : List VT} (hk : ∀ x ∈ ks, tyOk data 0 x = true) (hl : (ks.length : Int) = vars) : ∀ l : List VT, tyOkL (data.take m) vars l = true → tyOkL data 0 (substL ks l) = true
  | [] => by intro _; simp [substL, tyOkL]
  | t :: ts => by
    intro h
    rw [tyOkL, Bool.and_eq_true] at h
    rw [substL, tyOkL, Bool.and_eq_true]
    exact ⟨tyOk_subst hk hl t h.1, tyOkL_subst hk hl ts h.2⟩
end
theorem tyOkL_mem {data : List Dat} {vars : Int} : ∀ {l : List VT}, tyOkL data vars l = true → ∀ x ∈ l, tyOk data vars x = true
  | [], _ => by simp
  | t :: ts, h => by
    rw [tyOkL, Bool.and_eq_true] at h
    intro x hx
    rcases List.mem_cons.1 hx with rfl | hx
    · exact h.1
    · exact tyOkL_mem h.2 x hx
theorem tyOk_kids {data : List Dat} {vars : Int} {k n : Int} {ks : List VT} (h : tyOk data vars (.mk k n ks) = true) : ∀ x ∈ ks, tyOk data vars x = true := by
  rw [tyOk, Bool.and_eq_true] at h
  exact tyOkL_mem h.2
theorem tyValid_kids {data : List Dat} {vars : Int} {k n : Int} {ks : List VT} (h : tyValid data vars (.mk k n ks) = true) : ∀ x ∈ ks, tyValid data vars x = true := by
  rw [tyValid, Bool.and_eq_true, decide_eq_true_eq] at h
  intro x hx
  rw [tyValid, Bool.and_eq_true, decide_eq_true_eq]
  exact ⟨Nat.le_trans (kids_le x hx) h.1, tyOk_kids h.2 x hx⟩
theorem con_args {data : List Dat} (hD : dataOk data = true) {d c : Nat} (hd : d < data.length) (hc : c < data[d].cons.length) : ∀ x ∈ (data[d].cons[c]).args, tyOk (data.take (d + 1)) data[d].vars x = true := by
  simp only [dataOk, Bool.and_eq_true, datsOk_iff, Nat.zero_add] at hD
  have h1 := hD.1.1.2 d hd
  simp only [datOk, Bool.and_eq_true] at h1
  have h2 := List.all_eq_true.1 h1.2 _ (List.getElem_mem hc)
  simp only [conOk, Bool.and_eq_true] at h2
  intro x hx
  have h3 := List.all_eq_true.1 h2.2.2 x hx
  simp only [argOk, tyValid, Bool.and_eq_true] at h3
  exact h3.1.2
theorem fields_some {data : List Dat} {k n : Int} {ks : List VT} {c : Int} {l : List VT} (h : fields data (.mk k n ks) c = some l) :
    k = 5 ∧ 0 ≤ n ∧ 0 ≤ c ∧ ∃ (hn : n.toNat < data.length) (hc : c.toNat < (data[n.toNat]).cons.length), (ks.length : Int) = (data[n.toNat]).vars ∧ l = ((data[n.toNat]).cons[c.toNat]).args.map (subst ks) ∧ ∀ x ∈ l, x.nodes ≤ 200 := by
  rw [fields_mk] at h
  split at h
  · rename_i h5
    split at h
    · rename_i D hD
      obtain ⟨hn, rfl⟩ := List.getElem?_eq_some_iff.1 hD
      split at h
      · rename_i hv
        split at h
        · rename_i C hC
          obtain ⟨hc, rfl⟩ := List.getElem?_eq_some_iff.1 hC
          split at h
          · rename_i ha
            simp only [Option.some.injEq] at h
            subst h
            exact ⟨h5.1, h5.2.1, h5.2.2, hn, hc, hv, rfl, fun x hx => of_decide_eq_true (List.all_eq_true.1 ha x hx)⟩
          · cases h
        · cases h
      · cases h
    · cases h
  · cases h
theorem fields_valid {data : List Dat} (hD : dataOk data = true) {t : VT} (ht : tyOk data 0 t = true) {c : Int} {l : List VT} (h : fields data t c = some l) : ∀ x ∈ l, tyValid data 0 x = true := by
  obtain ⟨k, n, ks⟩ := t
  obtain ⟨rfl, h0, hc0, hn, hc, hv, rfl, hsz⟩ := fields_some h
  intro x hx
  rw [tyValid, Bool.and_eq_true, decide_eq_true_eq]
  refine ⟨hsz x hx, ?_⟩
  obtain ⟨a, ha, rfl⟩ := List.mem_map.1 hx
  exact tyOk_subst (tyOk_kids ht) hv a (con_args hD hn hc a ha)
def recsC (d : Nat) (D : Dat) (C : Con) : List Bool := C.args.map (isSelf d D.vars)
def recs (data : List Dat) (d : Nat) : List (List Bool) := match data[d]? with
  | some D => D.cons.map (recsC d D)
  | none => []
mutual
def preV (rs : List (List Bool)) : VT → List VT
  | .mk k n ks => .mk k n ks :: preK rs ks (rs.getD n.toNat [])
def preK (rs : List (List Bool)) : List VT → List Bool → List VT
  | [], _ => []
  | v :: vs, bs => match bs with
    | [] => []
    | b :: bs => (if b = true then preV rs v else []) ++ preK rs vs bs
end
mutual
theorem preV_len (rs : List (List Bool)) : ∀ v : VT, (preV rs v).length ≤ v.nodes
  | .mk k n ks => by
    have := preK_len rs ks (rs.getD n.toNat [])
    simp only [preV, VT.nodes, List.length_cons]
    omega
theorem preK_len (rs : List (List Bool)) : ∀ (vs : List VT) (bs : List Bool), (preK rs vs bs).length ≤ VT.nodesL vs
  | [], _ => by simp [preK, VT.nodesL]
  | v :: vs, [] => by simp [preK]
  | v :: vs, b :: bs => by
    have h1 := preV_len rs v
    have h2 := preK_len rs vs bs
    simp only [preK, VT.nodesL, List.length_append]
    split
    · omega
    · simp; omega
end
end Go.Proofs.YtfpmdpldabopjaaGreatDoor
namespace Go.Proofs.YtfpmdpldabopjaaGreatDoor
open Go Go.Abs
set_option linter.unusedSimpArgs false
set_option linter.unusedVariables false
set_option maxRecDepth 8000
def d4 (data : List Dat) : AV := .agg [.sl (data.map Dat.cs) .none, .snil, .snil, .snil]
section
variable {H : Heap} {K : Kt} (data : List Dat)
theorem vars0 (hK : K (.bool true) H) : ACalls Tryz.prog n_zq147 [d4 data] H K := by
  refine ACalls.out (zq147_ok fun hs => ?_)
  simp [zq147, d4]
  refine ⟨rfl, ACalls.wk (args' := [.sl (VT.css []) .none, .fn n_zq189 [.ptr H.length 0]]) ?_ ⟨.atom .snil, .atom (.refl _), trivial⟩⟩
  refine containsFunc_spec [] (by simp) _ _ _ (by simp [AV.sc, AV.scV, AV.scA, AV.scB]) (fun _ H' => H' = H ++ [.cells [.sl (data.map Dat.cs) .none, .snil, .snil, .snil]]) rfl (fun i h => by simp at h) ?_
  rintro H' rfl
  simp
  exact Out.bool rfl (Nat.le_refl _) hs hK
theorem codes0 (hK : K (.bool true) H) : ACalls Tryz.prog n_zq148 [d4 data] H K := by
  refine ACalls.out (zq148_ok fun hs => ?_)
  simp [zq148, d4]
  refine zq148_loop6 (Inv := fun _ _ t H' => t = .int .i64 0 ∧ H' = _) 0 (fun _ => ⟨rfl, rfl⟩) ?_
  rintro q t4 t H' ⟨rfl, rfl⟩ _ _ _ Kb hKb
  simp [zq148_b6]
  exact Out.bool rfl (Nat.le_refl _) hs hK
theorem tree0 (hK : K (.bool true) H) : ACalls Tryz.prog n_zq149 [d4 data] H K := by
  refine ACalls.out (zq149_ok fun hs => ?_)
  simp [zq149, d4, aMake]
  refine ⟨⟨rfl, rfl⟩, zq149_loop5 (Inv := fun _ t H' => t = .int .i64 0 ∧ H' = _) 0 (fun _ => ⟨rfl, rfl⟩) ?_⟩
  rintro q t H' ⟨rfl, rfl⟩ _ _ _ Kb hKb
  simp [zq149_b5]
  refine zq149_loop11 (Inv := fun _ t H' => t = .int .i64 0 ∧ H' = _) 0 (fun _ => ⟨rfl, rfl⟩) ?_
  rintro q t H' ⟨rfl, rfl⟩ _ _ _ Kb2 hKb2
  simp [zq149_b11, Nat.add_assoc]
  exact Out.bool rfl (Nat.le_refl _) hs hK
theorem bind0 (hK : K (.bool true) H) : ACalls Tryz.prog n_zq150 [d4 data] H K := by
  refine ACalls.out (zq150_ok fun hs => ?_)
  simp [zq150, d4, aMake]
  refine ⟨⟨rfl, rfl⟩, zq150_loop5 (Inv := fun _ t H' => t = .int .i64 0 ∧ H' = _) 0 (fun _ => ⟨rfl, rfl⟩) ?_⟩
  rintro q t H' ⟨rfl, rfl⟩ _ _ _ Kb hKb
  simp [zq150_b5]
  refine zq150_loop11 (Inv := fun _ t H' => t = .int .i64 0 ∧ H' = _) 0 (fun _ => ⟨rfl, rfl⟩) ?_
  rintro q t H' ⟨rfl, rfl⟩ _ _ _ Kb2 hKb2
  simp [zq150_b11, Nat.add_assoc]
  exact Out.bool rfl (Nat.le_refl _) hs hK
theorem scopes0 (hK : K (.bool true) H) : ACalls Tryz.prog n_zq151 [d4 data] H K := by
  refine ACalls.out (zq151_ok fun hs => ?_)
  simp [zq151, d4, aMake]
  refine ⟨rfl, ⟨rfl, rfl, rfl, rfl⟩, zq151_loop6 (Inv := fun _ t H' => t = .int .i64 0 ∧ H' = _) 0 (fun _ => ⟨rfl, rfl⟩) ?_⟩
  rintro q t H' ⟨rfl, rfl⟩ _ _ _ Kb hKb
  simp [zq151_b6]
  exact Out.bool rfl (Nat.le_refl _) hs hK
theorem exprs0 (hK : K (.bool true) H) : ACalls Tryz.prog n_zq152 [d4 data] H K := by
  refine ACalls.out (zq152_ok fun hs => ?_)
  simp [zq152, d4, aMake, aBuild, fillA]
  refine zq152_loop3 (Inv := fun _ t H' => t = .int .i64 0 ∧ H' = _) 0 (fun _ => ⟨rfl, rfl⟩) ?_
  rintro q t H' ⟨rfl, rfl⟩ _ _ _ Kb hKb
  simp [zq152_b3]
  refine zq152_loop9 (Inv := fun _ t H' => t = .int .i64 0 ∧ H' = _) 0 (fun _ => ⟨rfl, rfl⟩) ?_
  rintro q t H' ⟨rfl, rfl⟩ _ _ _ Kb2 hKb2
  simp [zq152_b9]
  exact Out.bool rfl (Nat.le_refl _) hs hK
theorem zq84_d4 (hB : Small data) (hl : data.length ≤ 1000000) (hK : K (.bool (dataOk data)) H) : ACalls Tryz.prog n_zq84 [d4 data] H K := by
  refine ACalls.out (zq84_ok fun hs => ?_)
  simp [zq84, d4]
  refine zq146_spec data hB hl _ _ ?_
  cases hd : dataOk data with
  | false =>
    rw [hd] at hK
    simp
    exact Out.bool rfl (Nat.le_refl _) hs hK
  | true =>
    rw [hd] at hK
    simp
    refine vars0 data ?_
    simp
    refine codes0 data ?_
    simp
    refine tree0 data ?_
    simp
    refine bind0 data ?_
    simp
    refine scopes0 data ?_
    simp
    refine exprs0 data ?_
    exact Out.bool rfl (Nat.le_refl _) hs hK
def fineV (data : List Dat) (t : VT) : Bool := dataOk data && tyValid data 0 t
end
end Go.Proofs.YtfpmdpldabopjaaGreatDoor
namespace Go.Proofs.YtfpmdpldabopjaaGreatDoor
open Go Go.Abs
set_option linter.unusedSimpArgs false
set_option linter.unusedVariables false
set_option maxRecDepth 8000
theorem indexFuncV_spec (x : List VT) (hl : x.length ≤ 1000000000) (fv : AV) (H : Heap) (K : AV → Heap → Prop) (hfv : fv.sc H.length = true) (Inv : Nat → Heap → Prop) (h0 : Inv 0 H)
    (step : ∀ (i : Nat) (h : i < x.length) (H' : Heap), H.length ≤ H'.length → Inv i H' → aCallV Tryz.prog fv [.agg (x[i]).cs] H' fun r H'' => (r = .bool false ∧ Inv (i + 1) H'') ∨ (r = .bool true ∧ K (.int .i64 i) H''))
    (fin : ∀ H', Inv x.length H' → K (.int .i64 (-1)) H') : ACalls Tryz.prog n_zq154 [.sl (VT.css x) .none, fv] H K := by
  refine zq154_ok fun hs => ?_
  simp [zq154]
  refine zq154_loop2 (Inv := fun q t8 H' => ∃ i : Nat, i ≤ x.length ∧ q = x.length - i ∧ t8 = .int .i64 i ∧ H.length ≤ H'.length ∧ Inv i H') x.length ?_ ?_
  · intro _; exact ⟨0, by omega, by omega, rfl, Nat.le_refl _, h0⟩
  · rintro q t8 H' ⟨i, hi, rfl, rfl, hle, hI⟩ hsc hlen hsF Kb hKb
    by_cases hlt : i < x.length
    · simp [zq154_b2, hlt]
      refine (step i hlt H' hle hI).mono' fun r H'' hsc' hle' hr => ?_
      rcases hr with ⟨rfl, hI'⟩ | ⟨rfl, hk⟩
      · simp
        rw [wrap_in (by omega) (by omega)]
        refine hKb _ _ ⟨x.length - (i + 1), by omega, Back.here (by omega) hsc' ?_ ⟨_, rfl, i + 1, by omega, rfl, by simp, by omega, hI'⟩⟩
        simp [zq154_fr2, AV.sc, AV.scV, AV.scA, AV.scB]
        exact sc_mono (by omega) hfv
      · simpa using hk
    · obtain rfl : i = x.length := by omega
      simp [zq154_b2]
      exact fin H' hI
theorem containsFuncV_spec (x : List VT) (hl : x.length ≤ 1000000000) (fv : AV) (H : Heap) (K : AV → Heap → Prop) (hfv : fv.sc H.length = true) (Inv : Nat → Heap → Prop) (h0 : Inv 0 H)
    (step : ∀ (i : Nat) (h : i < x.length) (H' : Heap), H.length ≤ H'.length → Inv i H' → aCallV Tryz.prog fv [.agg (x[i]).cs] H' fun r H'' => (r = .bool false ∧ Inv (i + 1) H'') ∨ (r = .bool true ∧ K (.bool true) H''))
    (fin : ∀ H', Inv x.length H' → K (.bool false) H') : ACalls Tryz.prog n_zq86 [.sl (VT.css x) .none, fv] H K := by
  refine zq86_ok fun hs => ?_
  unfold zq86
  refine indexFuncV_spec x hl fv H _ hfv Inv h0 (fun i h H' hle hI => (step i h H' hle hI).mono' fun r H'' _ _ hr => ?_) (fun H' hI => ?_)
  · rcases hr with hr | ⟨h1, h2⟩
    · exact .inl hr
    · refine .inr ⟨h1, ?_⟩
      have : decide ((0 : Int) ≤ i) = true := by simp
      simpa using h2
  · simpa using fin H' hI
theorem equalFuncV_spec (f : VT → VT → Bool) (fv : AV) (x y : List VT) (H : Heap) (hsc : fv.sc H.length = true) (hf : ∀ (i : Nat) (h1 : i < x.length) (h2 : i < y.length), x.length = y.length → ∀ (J : Heap) (K : AV → Heap → Prop), K (.bool (f x[i] y[i])) (H ++ J) → aCallV Tryz.prog fv [.agg (x[i]).cs, .agg (y[i]).cs] (H ++ J) K)
    (hl : x.length ≤ 1000000000) (K : AV → Heap → Prop) (hK : K (.bool (eqBy f x y)) H) : ACalls Tryz.prog n_zq155 [.sl (VT.css x) .none, .sl (VT.css y) .none, fv] H K := by
  refine ACalls.out (zq155_ok fun hs => ?_)
  have hO : ∀ J, Out H.length K (.bool (eqBy f x y)) (H ++ J) := fun J => Out.bool rfl (Nat.le_refl _) hs hK
  by_cases hlen : x.length = y.length
  · simp [zq155, hlen]
    refine zq155_loop4 (Inv := fun q t17 H' => ∃ i : Nat, i ≤ x.length ∧ q = x.length - i ∧ t17 = .int .i64 i ∧ eqBy f (x.drop i) (y.drop i) = eqBy f x y ∧ H = H') x.length ?_ ?_
    · intro _; exact ⟨0, by omega, by omega, rfl, by simp, rfl⟩
    · rintro q t17 H' ⟨i, hi, rfl, rfl, ho, rfl⟩ hsc4 hlen2 hsF Kb hKb
      by_cases hlt : i < x.length
      · have hlt' : i < y.length := by omega
        have hltI : (i : Int) < y.length := by omega
        rw [List.drop_eq_getElem_cons hlt, List.drop_eq_getElem_cons hlt', eqBy] at ho
        obtain ⟨x1, x2, x3, hvx, hx1, hx2, hx3⟩ := vt3' x[i]
        obtain ⟨y1, y2, y3, hvy, hy1, hy2, hy3⟩ := vt3' y[i]
        simp [zq155_b4, hlt, hlt', hvx, hx1, hx2, hx3, hvy, hy1, hy2, hy3]
        rw [← hvx, ← hvy]
        refine hf i hlt hlt' hlen _ _ ?_
        cases hb : f x[i] y[i] with
        | false =>
          rw [hb, Bool.false_and] at ho
          rw [← ho] at hO
          simp
          exact hO _
        | true =>
          rw [hb, Bool.true_and] at ho
          simp
          rw [wrap_in (by omega) (by omega)]
          refine hKb _ _ ⟨x.length - (i + 1), by omega, Back.same (by simp) hs ?_ ⟨_, rfl, i + 1, by omega, rfl, by simp, ho, rfl⟩⟩
          simp [zq155_fr4, AV.sc, AV.scV, AV.scA, AV.scB]
          exact hsc
      · have hlt' : ¬ i < y.length := by omega
        obtain rfl : i = x.length := by omega
        rw [List.drop_length, hlen, List.drop_length, eqBy] at ho
        rw [← ho] at hO
        simp [zq155_b4, hlt']
        simpa using hO []
  · have hl' : ((x.length : Int) != y.length) = true := by simp; omega
    rw [eqBy_len hlen] at hO
    simp [zq155, hl']
    simpa using hO []
end Go.Proofs.YtfpmdpldabopjaaGreatDoor
