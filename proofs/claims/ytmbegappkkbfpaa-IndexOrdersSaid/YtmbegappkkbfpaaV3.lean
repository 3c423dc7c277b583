/- ValueOrders: the walks of the functions, in the abstract layer. -/
import Derived.Test.YtmbegappkkbfpaaVO
import Derived.Test.YtmbegappkkbfpaaV1
import Derived.Test.YtmbegappkkbfpaaGenB
namespace Go.Proofs.Ytmbegappkkbfpaa
open Go Go.Abs
theorem Out.here {H : Heap} {K : AV → Heap → Prop} {r : AV} (hsc : HSc H) (hv : r.isV = true) (hr : r.scV H.length = true) (h : K r H) : Out H.length K r H := by
  have := Out.same (J := []) rfl hsc hv hr h
  simpa using this
theorem nan48 (a : Int) (H : Heap) (K : AV → Heap → Prop) (hK : K (.bool false) H) : ACalls Try.prog 48 [.int .i64 a] H K := by
  refine ACalls.out (f48_ok fun hs => ?_)
  simp [f48]
  exact Out.here hs rfl rfl hK
theorem nan49 (a : Int) (H : Heap) (K : AV → Heap → Prop) (hK : K (.bool false) H) : ACalls Try.prog 49 [.int .i64 a] H K := by
  refine ACalls.out (f49_ok fun hs => ?_)
  simp [f49]
  exact Out.here hs rfl rfl hK
theorem cmp31 (a b : Int) (H : Heap) (K : AV → Heap → Prop) (hK : K (.int .i64 (icmp a b)) H) : ACalls Try.prog 31 [.int .i64 a, .int .i64 b] H K := by
  refine ACalls.out (f31_ok fun hs => ?_)
  unfold f31
  refine nan48 _ _ _ (nan48 _ _ _ ?_)
  have hO := Out.here (K := K) (H := H) (r := .int .i64 (icmp a b)) hs rfl rfl hK
  by_cases h1 : a < b
  · simp [h1]; simpa [icmp, h1] using hO
  · by_cases h2 : b < a
    · simp [h1, h2]; simpa [icmp, h1, h2] using hO
    · simp [h1, h2]; simpa [icmp, h1, h2] using hO
theorem cmp32 (a b : Int) (H : Heap) (K : AV → Heap → Prop) (hK : K (.int .i64 (icmp a b)) H) : ACalls Try.prog 32 [.int .i64 a, .int .i64 b] H K := by
  refine ACalls.out (f32_ok fun hs => ?_)
  unfold f32
  refine nan49 _ _ _ (nan49 _ _ _ ?_)
  have hO := Out.here (K := K) (H := H) (r := .int .i64 (icmp a b)) hs rfl rfl hK
  by_cases h1 : a < b
  · simp [h1]; simpa [icmp, h1] using hO
  · by_cases h2 : b < a
    · simp [h1, h2]; simpa [icmp, h1, h2] using hO
    · simp [h1, h2]; simpa [icmp, h1, h2] using hO
def orL : List Int → Int
  | [] => 0
  | a :: l => cor a (orL l)
theorem or30 (l : List Int) (tok : Tok) (hl : l.length ≤ 1000000) (H : Heap) (K : AV → Heap → Prop) (hK : K (.int .i64 (orL l)) H) : ACalls Try.prog 30 [.sl (l.map fun x => [.int .i64 x]) tok] H K := by
  refine ACalls.out (f30_ok fun hs => ?_)
  simp [f30]
  refine f30_loop3 (Inv := fun q t8 H' => ∃ i : Nat, i ≤ l.length ∧ q = l.length - i ∧ t8 = .int .i64 i ∧ orL (l.drop i) = orL l ∧ H' = H) l.length ?_ ?_
  · intro _; exact ⟨0, by omega, by omega, rfl, by simp, rfl⟩
  · rintro q t8 H' ⟨i, hi, rfl, rfl, ho, rfl⟩ hsc hlen hsF Kb hKb
    by_cases hlt : i < l.length
    · rw [List.drop_eq_getElem_cons hlt, orL] at ho
      by_cases hz : l[i] = 0
      · rw [cor_z hz] at ho
        simp [f30_b3, hlt, hz]
        rw [wrap_in (by omega) (by omega)]
        refine hKb _ _ ⟨l.length - (i + 1), by omega, Back.here (Nat.le_refl _) hs ?_ ⟨_, rfl, i + 1, by omega, rfl, by simp, ho, rfl⟩⟩
        simpa [f30_fr3, AV.sc, AV.scV, AV.scA, AV.scB] using hsF
      · rw [cor_nz hz] at ho
        have hz : (l[i] != 0) = true := by simpa using hz
        simp [f30_b3, hlt, hz]
        rw [← ho] at hK
        exact Out.here hs rfl rfl hK
    · simp [f30_b3, hlt]
      obtain rfl : i = l.length := by omega
      rw [List.drop_length] at ho
      rw [← ho] at hK
      exact Out.here hs rfl rfl hK
theorem less34 (b : Bool) (H : Heap) (K : AV → Heap → Prop) (hK : K (.int .i64 (if b then -1 else 1)) H) : ACalls Try.prog 34 [.bool b] H K := by
  refine ACalls.out (f34_ok fun hs => ?_)
  have hO := Out.here (K := K) (H := H) (r := .int .i64 (if b then -1 else 1)) hs rfl rfl hK
  cases b <;> simp [f34] <;> simpa using hO

theorem cmpf33 (ks ks' : List VT) (he : ks.length = ks'.length) (hb : ks.length ≤ 1000000)
    (hc : ∀ (i : Nat) (h : i < ks.length) (h' : i < ks'.length) (H : Heap) (K : AV → Heap → Prop), K (.int .i64 (VT.cmp ks[i] ks'[i])) H → ACalls Try.prog 18 [.agg ks[i].cs, .agg ks'[i].cs] H K)
    (H : Heap) (K : AV → Heap → Prop) (hK : K (.int .i64 (VT.cmpL ks ks')) H) : ACalls Try.prog 33 [.sl (VT.css ks) .none, .sl (VT.css ks') .none, .fn 18 []] H K := by
  refine ACalls.out (f33_ok fun hs => ?_)
  simp [f33]
  refine f33_loop2 (Inv := fun q t13 H' => ∃ i : Nat, i ≤ ks.length ∧ q = ks.length - i ∧ t13 = .int .i64 i ∧ VT.cmpL (ks.drop i) (ks'.drop i) = VT.cmpL ks ks' ∧ H' = H) ks.length ?_ ?_
  · intro _; exact ⟨0, by omega, by omega, rfl, by simp, rfl⟩
  · rintro q t8 H' ⟨i, hi, rfl, rfl, ho, rfl⟩ hsc hlen hsF Kb hKb
    by_cases hlt : i < ks.length
    · have hlt' : i < ks'.length := by omega
      have hle : ¬ ks'.length ≤ i := by omega
      rw [VT.cmpL_drop hlt hlt'] at ho
      simp [f33_b2, hlt, hlt', hle]
      refine hc i hlt hlt' _ _ ?_
      by_cases hz : VT.cmp ks[i] ks'[i] = 0
      · rw [cor_z hz] at ho
        simp [hz]
        rw [wrap_in (by omega) (by omega)]
        refine hKb _ _ ⟨ks.length - (i + 1), by omega, Back.same (Nat.le_refl _) hs ?_ ⟨_, rfl, i + 1, by omega, rfl, by simp, ho, rfl⟩⟩
        simp [f33_fr2, AV.sc, AV.scV, AV.scA, AV.scB]
      · rw [cor_nz hz] at ho
        have hz : (VT.cmp ks[i] ks'[i] != 0) = true := by simpa using hz
        simp [hz]
        rw [← ho] at hK
        exact Out.same rfl hs rfl rfl hK
    · have hnl : ¬ ks.length < ks'.length := by omega
      simp [f33_b2, hlt, hnl]
      obtain rfl : i = ks.length := by omega
      rw [List.drop_length, he, List.drop_length] at ho
      rw [← ho] at hK
      exact Out.here hs rfl rfl hK
theorem cmp_ok : ∀ (m : Nat) (v w : VT), v.nodes ≤ m → v.nodes ≤ 1000000 → ∀ (H : Heap) (K : AV → Heap → Prop), K (.int .i64 (VT.cmp v w)) H → ACalls Try.prog 18 [.agg v.cs, .agg w.cs] H K := by
  intro m
  induction m with
  | zero => intro v w h; have := v.nodes_pos; omega
  | succ m ih =>
    intro v w hv hb H K hK
    obtain ⟨k, n, ks⟩ := v
    obtain ⟨k', n', ks'⟩ := w
    have hnl : VT.nodesL ks + 1 ≤ 1000000 := by simpa [VT.nodes] using hb
    have hll := VT.len_le ks
    refine ACalls.out (f18_ok fun hs => ?_)
    simp [VT.cs, f18]
    refine aPure_call _ (cmp31 _ _ _ _ ⟨rfl, rfl⟩) ?_
    refine aPure_call _ (cmp32 _ _ _ _ ⟨rfl, rfl⟩) ?_
    refine aPure_call _ (cmp31 _ _ _ _ ⟨rfl, rfl⟩) ?_
    simp [aBuildS, fillS, plain, List.replicate]
    refine aPure_call _ (or30 [icmp k k', icmp n n', icmp ks.length ks'.length] _ (by simp) _ _ ⟨rfl, rfl⟩) ?_
    by_cases hz : orL [icmp k k', icmp n n', icmp ks.length ks'.length] = 0
    · have hz' := hz
      simp only [orL, cor_zero] at hz
      have hlen : ks.length = ks'.length := by have := (icmp_zero _ _).mp hz.2.2.1; omega
      simp [hz']
      refine cmpf33 ks ks' hlen (by omega) (fun i h h' H K hK => ?_) _ _ ?_
      · have := VT.kid_lt (k := k) (n := n) h
        exact ih _ _ (by omega) (by omega) H K hK
      · refine Out.same rfl hs rfl rfl ?_
        simpa [VT.cmp, hz, cor] using hK
    · have hzb : (orL [icmp k k', icmp n n', icmp ks.length ks'.length] != 0) = true := by simpa using hz
      simp [hzb]
      refine Out.same rfl hs rfl rfl ?_
      have e : VT.cmp (.mk k n ks) (.mk k' n' ks') = orL [icmp k k', icmp n n', icmp ks.length ks'.length] := by
        simp only [VT.cmp, orL, cor] at hz ⊢
        split <;> (try split) <;> (try split) <;> simp_all
      rwa [e] at hK
theorem refcmp_ok : ∀ (m : Nat) (v w : VT), v.nodes ≤ m → v.nodes ≤ 1000000 → ∀ (H : Heap) (K : AV → Heap → Prop), K (.int .i64 (VT.cmp v w)) H → ACalls Try.prog 19 [.agg v.cs, .agg w.cs] H K := by
  intro m
  induction m with
  | zero => intro v w h; have := v.nodes_pos; omega
  | succ m ih =>
    intro v w hv hb H K hK
    obtain ⟨k, n, ks⟩ := v
    obtain ⟨k', n', ks'⟩ := w
    have hnl : VT.nodesL ks + 1 ≤ 1000000 := by simpa [VT.nodes] using hb
    have hll := VT.len_le ks
    refine ACalls.out (f19_ok fun hs => ?_)
    have fin : ∀ J, Out H.length K (.int .i64 (VT.cmp (.mk k n ks) (.mk k' n' ks'))) (H ++ J) := fun J => Out.same rfl hs rfl rfl hK
    by_cases h1 : k = k'
    · by_cases h2 : n = n'
      · by_cases h3 : ks.length = ks'.length
        · subst h1 h2
          simp [VT.cs, f19, h3]
          have e : VT.cmp (.mk k n ks) (.mk k n ks') = VT.cmpL ks ks' := by simp [VT.cmp, icmp_self, h3, cor]
          rw [e] at fin
          refine f19_loop8 (Inv := fun q t5 H' => ∃ i : Nat, i ≤ ks.length ∧ q = ks.length - i ∧ t5 = .int .i64 i ∧ VT.cmpL (ks.drop i) (ks'.drop i) = VT.cmpL ks ks' ∧
            H' = H ++ [AB.cells [.int .i64 k, .int .i64 n, .sl (VT.css ks) .none], AB.cells [.int .i64 k, .int .i64 n, .sl (VT.css ks') .none]]) ks.length ?_ ?_
          · intro _; exact ⟨0, by omega, by omega, rfl, by simp, rfl⟩
          · rintro q t8 H' ⟨i, hi, rfl, rfl, ho, rfl⟩ hsc hlen hsF Kb hKb
            by_cases hlt : i < ks.length
            · have hlt' : i < ks'.length := by omega
              have hki := VT.kid_lt (k := k) (n := n) hlt
              rw [VT.cmpL_drop hlt hlt'] at ho
              simp [f19_b8, hlt, hlt']
              refine aPure_call _ (ih ks[i] ks'[i] (by omega) (by omega) _ _ ⟨rfl, rfl⟩) ?_
              by_cases hz : VT.cmp ks[i] ks'[i] = 0
              · rw [cor_z hz] at ho
                simp [hz]
                rw [wrap_in (by omega) (by omega)]
                refine hKb _ _ ⟨ks.length - (i + 1), by omega, Back.here (Nat.le_refl _) hsc ?_ ⟨_, rfl, i + 1, by omega, rfl, by simp, ho, rfl⟩⟩
                simp [f19_fr8, AV.sc, AV.scV, AV.scA, AV.scB]
              · rw [cor_nz hz] at ho
                have hz : (VT.cmp ks[i] ks'[i] != 0) = true := by simpa using hz
                simp [hz]
                rw [ho]
                exact fin _
            · simp [f19_b8, hlt]
              obtain rfl : i = ks.length := by omega
              rw [List.drop_length, h3, List.drop_length] at ho
              simp only [VT.cmpL] at ho
              rw [← ho] at fin
              exact fin _
        · subst h1 h2
          have hb : ((ks.length : Int) != ks'.length) = true := by simp; omega
          simp [VT.cs, f19, hb]
          refine less34 _ _ _ ?_
          have e : VT.cmp (.mk k n ks) (.mk k n ks') = if decide (ks.length < ks'.length) = true then -1 else 1 := by
            simp only [VT.cmp, icmp_self, cor, if_true]
            rw [icmp_ne (by omega)]; split <;> simp <;> omega
          rw [e] at fin
          exact fin _
      · subst h1
        have hb : (n != n') = true := by simpa using h2
        simp [VT.cs, f19, hb]
        refine less34 _ _ _ ?_
        have e : VT.cmp (.mk k n ks) (.mk k n' ks') = if decide (n < n') = true then -1 else 1 := by
          simp only [VT.cmp, icmp_self, cor, if_true]
          rw [icmp_ne h2]; split <;> simp <;> omega
        rw [e] at fin
        exact fin _
    · have hb : (k != k') = true := by simpa using h1
      simp [VT.cs, f19, hb]
      refine less34 _ _ _ ?_
      have e : VT.cmp (.mk k n ks) (.mk k' n' ks') = if decide (k < k') = true then -1 else 1 := by
        simp only [VT.cmp, cor]
        rw [icmp_ne h1]; split <;> simp <;> omega
      rw [e] at fin
      exact fin _
theorem samel35 (ks ks' : List VT) (hb : ks.length ≤ 1000000)
    (hc : ∀ (i : Nat) (h : i < ks.length) (h' : i < ks'.length) (H : Heap) (K : AV → Heap → Prop), K (.bool (VT.same ks[i] ks'[i])) H → ACalls Try.prog 20 [.agg ks[i].cs, .agg ks'[i].cs] H K)
    (H : Heap) (K : AV → Heap → Prop) (hK : K (.bool (VT.sameL ks ks')) H) : ACalls Try.prog 35 [.sl (VT.css ks) .none, .sl (VT.css ks') .none] H K := by
  refine ACalls.out (f35_ok fun hs => ?_)
  have fin := Out.here (K := K) (H := H) (r := .bool (VT.sameL ks ks')) hs rfl rfl hK
  by_cases he : ks.length = ks'.length
  · simp [f35, he]
    refine f35_loop4 (Inv := fun q t13 H' => ∃ i : Nat, i ≤ ks.length ∧ q = ks.length - i ∧ t13 = .int .i64 i ∧ VT.sameL (ks.drop i) (ks'.drop i) = VT.sameL ks ks' ∧ H' = H) ks.length ?_ ?_
    · intro _; exact ⟨0, by omega, by omega, rfl, by simp, rfl⟩
    · rintro q t8 H' ⟨i, hi, rfl, rfl, ho, rfl⟩ hsc hlen hsF Kb hKb
      by_cases hlt : i < ks.length
      · have hlt' : i < ks'.length := by omega
        rw [VT.sameL_drop hlt hlt'] at ho
        simp [f35_b4, hlt, hlt']
        refine aPure_call _ (hc i hlt hlt' _ _ ⟨rfl, rfl⟩) ?_
        cases hz : VT.same ks[i] ks'[i] with
        | true =>
          rw [hz, Bool.true_and] at ho
          simp
          rw [wrap_in (by omega) (by omega)]
          refine hKb _ _ ⟨ks.length - (i + 1), by omega, Back.here (Nat.le_refl _) hs ?_ ⟨_, rfl, i + 1, by omega, rfl, by simp, ho, rfl⟩⟩
          simp [f35_fr4, AV.sc, AV.scV, AV.scA, AV.scB]
        | false =>
          rw [hz, Bool.false_and] at ho
          simp
          rw [← ho] at fin
          exact fin
      · have hlt' : ¬ i < ks'.length := by omega
        simp [f35_b4, hlt, hlt']
        obtain rfl : i = ks.length := by omega
        rw [List.drop_length, he, List.drop_length] at ho
        rw [← ho] at fin
        exact fin
  · have hb : ((ks.length : Int) != ks'.length) = true := by simp; omega
    simp [f35, hb]
    have e : VT.sameL ks ks' = false := by
      cases h : VT.sameL ks ks' with
      | false => rfl
      | true => exact absurd (VT.sameL_len _ _ h) he
    rw [e] at fin
    exact fin
theorem same_ok : ∀ (m : Nat) (v w : VT), v.nodes ≤ m → v.nodes ≤ 1000000 → ∀ (H : Heap) (K : AV → Heap → Prop), K (.bool (VT.same v w)) H → ACalls Try.prog 20 [.agg v.cs, .agg w.cs] H K := by
  intro m
  induction m with
  | zero => intro v w h; have := v.nodes_pos; omega
  | succ m ih =>
    intro v w hv hb H K hK
    obtain ⟨k, n, ks⟩ := v
    obtain ⟨k', n', ks'⟩ := w
    have hnl : VT.nodesL ks + 1 ≤ 1000000 := by simpa [VT.nodes] using hb
    have hll := VT.len_le ks
    refine ACalls.out (f20_ok fun hs => ?_)
    have fin : ∀ J, Out H.length K (.bool (VT.same (.mk k n ks) (.mk k' n' ks'))) (H ++ J) := fun J => Out.same rfl hs rfl rfl hK
    cases h1 : (k == k') with
    | false =>
      simp [VT.cs, f20, h1]
      simp only [VT.same, h1, Bool.false_and] at fin
      exact fin _
    | true =>
      cases h2 : (n == n') with
      | false =>
        simp [VT.cs, f20, h1, h2]
        simp only [VT.same, h1, h2, Bool.false_and, Bool.and_false] at fin
        exact fin _
      | true =>
        simp [VT.cs, f20, h1, h2]
        simp only [VT.same, h1, h2, Bool.true_and] at fin
        refine samel35 ks ks' (by omega) (fun i h h' H K hK => ?_) _ _ ?_
        · have := VT.kid_lt (k := k) (n := n) h
          exact ih _ _ (by omega) (by omega) H K hK
        · exact fin _
theorem orders_law (v w x : VT) : ACalls Try.prog 5 [.agg v.cs, .agg w.cs, .agg x.cs] [] fun r _ => r = .bool true := by
  refine f5_ok fun hs => ?_
  simp [f5]
  refine value_ok v _ _ ?_
  have hsp := VT.val_spec v 400 (by omega)
  have hsp' := VT.val_spec w 400 (by omega)
  cases hb : (VT.val v 400).1 with
  | false => simp
  | true =>
    have hn : v.nodes ≤ 400 := by have := hsp.1 hb; omega
    simp
    refine value_ok w _ _ ?_
    cases hb' : (VT.val w 400).1 with
    | false => simp
    | true =>
      have hn' : w.nodes ≤ 400 := by have := hsp'.1 hb'; omega
      simp
      refine value_ok x _ _ ?_
      cases hb'' : (VT.val x 400).1 with
      | false => simp
      | true =>
        simp
        refine cmp_ok _ v w (Nat.le_refl _) (by omega) _ _ ?_
        simp
        refine refcmp_ok _ v w (Nat.le_refl _) (by omega) _ _ ?_
        simp
        refine cmp_ok _ w v (Nat.le_refl _) (by omega) _ _ ?_
        have ha := VT.cmp_anti v w
        have hr := VT.cmp_rng w v
        have hz := VT.cmp_zero v w
        have ht := VT.cmp_tri v w x
        have hw : IntKind.i64.wrap (- VT.cmp w v) = VT.cmp v w := by rw [wrap_in (by omega) (by omega)]; omega
        simp [hw]
        refine same_ok _ v w (Nat.le_refl _) (by omega) _ _ ?_
        have hsame : (v.cmp w == 0) = v.same w := by
          cases h : v.same w with
          | true => simpa using hz.mpr h
          | false => simp only [beq_eq_false_iff_ne]; intro h'; rw [hz.mp h'] at h; cases h
        have last : aBuild [AV.int IntKind.i64 0, AV.int IntKind.i64 0, AV.snil] [(0, 1), (1, 1), (2, 1)]
                              [(0, AV.int IntKind.i64 1)] fun t59 =>
                              aBuild [AV.int IntKind.i64 0, AV.int IntKind.i64 0, AV.snil] [(0, 1), (1, 1), (2, 1)]
                                [(0, AV.int IntKind.i64 3)] fun t60 =>
                                ACalls Try.prog 18 [t59, t60] [AB.cells v.cs, AB.cells w.cs, AB.cells x.cs] fun t61 H =>
                                  aBin BinOp.eql false t61 (AV.int IntKind.i64 (-1)) fun t62 => t62 = AV.bool true := by
          simp [aBuild_eq, fillA]
          refine (cmp_ok _ (.mk 1 0 []) (.mk 3 0 []) (Nat.le_refl _) (by simp [VT.nodes, VT.nodesL]) _ _ ?_).wk ?_
          · simp [VT.cmp, icmp, cor]
          · exact ⟨.agg ⟨.refl _, .refl _, .snil, trivial⟩, .agg ⟨.refl _, .refl _, .snil, trivial⟩, trivial⟩
        simp [hsame]
        cases h1 : decide (v.cmp w ≤ 0) with
        | false => simp; exact last
        | true =>
          simp
          refine cmp_ok _ w x (Nat.le_refl _) (by omega) _ _ ?_
          simp
          cases h2 : decide (w.cmp x ≤ 0) with
          | false => simp; exact last
          | true =>
            simp
            refine cmp_ok _ v x (Nat.le_refl _) (by omega) _ _ ?_
            have h3 := (ht (by simpa using h1) (by simpa using h2)).1
            have h4 : decide (0 < v.cmp x) = false := by simp; omega
            simp [h4]
            exact last
end Go.Proofs.Ytmbegappkkbfpaa
