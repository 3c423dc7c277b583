/- IndexOrders: the walks of the functions, in the abstract layer. -/
import Derived.Test.YtmbegappkkbfpaaIT
import Derived.Test.YtmbegappkkbfpaaV3
import Derived.Test.YtmbegappkkbfpaaGenC
namespace Go.Proofs.Ytmbegappkkbfpaa
open Go Go.Abs
theorem ind_ok : ∀ (m : Nat) (v : IT), v.nodes ≤ m → ∀ (id : Nat) (n : Int) (H : Heap) (K : AV → Heap → Prop), H[id]? = some (.cells [.int .i64 n]) → 0 ≤ n → n ≤ 1000000 →
    K (.bool (IT.val v n).1) (H.set id (.cells [.int .i64 (IT.val v n).2])) → ACalls Try.prog 36 [.agg v.cs, .ptr id 0] H K := by
  intro m
  induction m with
  | zero => intro v h; have := v.nodes_pos; omega
  | succ m ih =>
    intro v hv id n H K hid h0 h1 hK
    obtain ⟨num, ks⟩ := v
    have hlt := lt_get hid
    refine ACalls.out (f36_ok fun hs => ?_)
    simp [IT.cs, f36, List.getElem?_append_left hlt, hid, wrap_in (n := n - 1) (by omega) (by omega), AV.known, List.set_append_left _ _ hlt]
    have hg : (H.set id (.cells [.int .i64 (n - 1)]))[id]? = some (.cells [.int .i64 (n - 1)]) := set_get _ hid
    rw [app_get hg]
    simp only [aLoadB_some, aCells_cons0, aLss_int, aTest_bool, decide_eq_true_eq]
    split
    · rename_i hneg
      refine Out.same (by simp) (HSc.set hs rfl) rfl rfl ?_
      simpa [IT.val, hneg] using hK
    · rename_i hneg
      have hK : K (.bool (IT.valL ks (n - 1)).1) (H.set id (.cells [.int .i64 (IT.valL ks (n - 1)).2])) := by simpa [IT.val, hneg] using hK
      refine f36_loop5 (Inv := fun q t5 H' => ∃ (i : Nat) (x : Int), i ≤ ks.length ∧ q = ks.length - i ∧ t5 = .int .i64 i ∧ 0 ≤ x ∧ x + i ≤ n - 1 ∧ IT.valL (ks.drop i) x = IT.valL ks (n - 1) ∧
        H' = H.set id (.cells [.int .i64 x]) ++ [.cells [.int .i64 num, .sl (IT.css ks) .none]]) ks.length ?_ ?_
      · intro _; exact ⟨0, n - 1, by omega, by omega, rfl, by omega, by simp, by simp, rfl⟩
      · rintro q t5 H' ⟨i, x, hi, rfl, rfl, hx0, hx1, hx, rfl⟩ hsc hlen hsF Kb hKb
        by_cases hik : i < ks.length
        · have hki := IT.kid_lt (n := num) hik
          have hsp := IT.val_spec ks[i] x hx0
          rw [IT.valL_drop hik] at hx
          simp [f36_b5, hik]
          refine ih ks[i] (by omega) id x _ _ (by rw [app_get (set_get _ hid)]) hx0 (by omega) ?_
          have hset : (H.set id (.cells [.int .i64 x]) ++ [AB.cells [.int .i64 num, .sl (IT.css ks) .none]]).set id (.cells [.int .i64 (IT.val ks[i] x).2]) =
              H.set id (.cells [.int .i64 (IT.val ks[i] x).2]) ++ [.cells [.int .i64 num, .sl (IT.css ks) .none]] := by
            rw [app_set _ (set_get _ hid), List.set_set]
          rw [hset]
          cases hv : IT.val ks[i] x with
          | mk b y =>
            rw [hv] at hsp hx
            cases b with
            | false =>
              simp only [aNot_bool, Bool.not_false, aTest_bool, if_true]
              simp only at hx
              refine Out.same (by simp) (HSc.set hs rfl) rfl rfl ?_
              rw [← hx] at hK
              exact hK
            | true =>
              have hsp := hsp.1 rfl
              simp only at hx hsp
              have hpos := IT.nodes_pos ks[i]
              simp only [aNot_bool, Bool.not_true, aTest_bool, Bool.false_eq_true, if_false]
              rw [wrap_in (by omega) (by omega)]
              refine hKb _ _ ⟨ks.length - (i + 1), by omega, Back.here (by simp) (HSc.append (HSc.set hs rfl) rfl) ?_ ⟨_, rfl, i + 1, y, by omega, rfl, by simp, hsp.2, by simp; omega, hx, rfl⟩⟩
              simp [f36_fr5, AV.sc, AV.scV, AV.scA, AV.scB]; omega
        · simp [f36_b5, hik]
          obtain rfl : i = ks.length := by omega
          rw [List.drop_length] at hx
          refine Out.same (by simp) (HSc.set hs rfl) rfl rfl ?_
          rw [← hx] at hK
          exact hK
theorem index_ok (v : IT) (H : Heap) (K : AV → Heap → Prop) (hK : K (.bool (IT.val v 40).1) H) : ACalls Try.prog 21 [.agg v.cs] H K := by
  refine ACalls.out (f21_ok fun hs => ?_)
  simp [f21, AV.known]
  refine ind_ok _ v (Nat.le_refl _) (H.length + 1) 40 _ _ (by simp) (by omega) (by omega) ?_
  simp
  exact Out.same rfl hs rfl rfl hK
theorem cmpf37 (ks ks' : List IT) (he : ks.length = ks'.length) (hb : ks.length ≤ 1000000)
    (hc : ∀ (i : Nat) (h : i < ks.length) (h' : i < ks'.length) (H : Heap) (K : AV → Heap → Prop), K (.int .i64 (IT.cmp ks[i] ks'[i])) H → ACalls Try.prog 22 [.agg ks[i].cs, .agg ks'[i].cs] H K)
    (H : Heap) (K : AV → Heap → Prop) (hK : K (.int .i64 (IT.cmpL ks ks')) H) : ACalls Try.prog 37 [.sl (IT.css ks) .none, .sl (IT.css ks') .none, .fn 22 []] H K := by
  refine ACalls.out (f37_ok fun hs => ?_)
  simp [f37]
  refine f37_loop2 (Inv := fun q t13 H' => ∃ i : Nat, i ≤ ks.length ∧ q = ks.length - i ∧ t13 = .int .i64 i ∧ IT.cmpL (ks.drop i) (ks'.drop i) = IT.cmpL ks ks' ∧ H' = H) ks.length ?_ ?_
  · intro _; exact ⟨0, by omega, by omega, rfl, by simp, rfl⟩
  · rintro q t8 H' ⟨i, hi, rfl, rfl, ho, rfl⟩ hsc hlen hsF Kb hKb
    by_cases hlt : i < ks.length
    · have hlt' : i < ks'.length := by omega
      have hle : ¬ ks'.length ≤ i := by omega
      rw [IT.cmpL_drop hlt hlt'] at ho
      simp [f37_b2, hlt, hlt', hle]
      refine hc i hlt hlt' _ _ ?_
      by_cases hz : IT.cmp ks[i] ks'[i] = 0
      · rw [cor_z hz] at ho
        simp [hz]
        rw [wrap_in (by omega) (by omega)]
        refine hKb _ _ ⟨ks.length - (i + 1), by omega, Back.same (Nat.le_refl _) hs ?_ ⟨_, rfl, i + 1, by omega, rfl, by simp, ho, rfl⟩⟩
        simp [f37_fr2, AV.sc, AV.scV, AV.scA, AV.scB]
      · rw [cor_nz hz] at ho
        have hz : (IT.cmp ks[i] ks'[i] != 0) = true := by simpa using hz
        simp [hz]
        rw [← ho] at hK
        exact Out.same rfl hs rfl rfl hK
    · have hnl : ¬ ks.length < ks'.length := by omega
      simp [f37_b2, hlt, hnl]
      obtain rfl : i = ks.length := by omega
      rw [List.drop_length, he, List.drop_length] at ho
      rw [← ho] at hK
      exact Out.here hs rfl rfl hK
theorem icmp_ok : ∀ (m : Nat) (v w : IT), v.nodes ≤ m → v.nodes ≤ 1000000 → ∀ (H : Heap) (K : AV → Heap → Prop), K (.int .i64 (IT.cmp v w)) H → ACalls Try.prog 22 [.agg v.cs, .agg w.cs] H K := by
  intro m
  induction m with
  | zero => intro v w h; have := v.nodes_pos; omega
  | succ m ih =>
    intro v w hv hb H K hK
    obtain ⟨n, ks⟩ := v
    obtain ⟨n', ks'⟩ := w
    have hnl : IT.nodesL ks + 1 ≤ 1000000 := by simpa [IT.nodes] using hb
    have hll := IT.len_le ks
    refine ACalls.out (f22_ok fun hs => ?_)
    simp [IT.cs, f22]
    refine aPure_call _ (cmp31 _ _ _ _ ⟨rfl, rfl⟩) ?_
    refine aPure_call _ (cmp31 _ _ _ _ ⟨rfl, rfl⟩) ?_
    simp [aBuildS, fillS, plain, List.replicate]
    refine aPure_call _ (or30 [icmp n n', icmp ks.length ks'.length] _ (by simp) _ _ ⟨rfl, rfl⟩) ?_
    by_cases hz : orL [icmp n n', icmp ks.length ks'.length] = 0
    · have hz' := hz
      simp only [orL, cor_zero] at hz
      have hlen : ks.length = ks'.length := by have := (icmp_zero _ _).mp hz.2.1; omega
      simp [hz']
      refine cmpf37 ks ks' hlen (by omega) (fun i h h' H K hK => ?_) _ _ ?_
      · have := IT.kid_lt (n := n) h
        exact ih _ _ (by omega) (by omega) H K hK
      · refine Out.same rfl hs rfl rfl ?_
        simpa [IT.cmp, hz, cor] using hK
    · have hzb : (orL [icmp n n', icmp ks.length ks'.length] != 0) = true := by simpa using hz
      simp [hzb]
      refine Out.same rfl hs rfl rfl ?_
      have e : IT.cmp (.mk n ks) (.mk n' ks') = orL [icmp n n', icmp ks.length ks'.length] := by
        simp only [IT.cmp, orL, cor] at hz ⊢
        split <;> (try split) <;> (try split) <;> simp_all
      rwa [e] at hK
theorem order38 (b : Bool) (H : Heap) (K : AV → Heap → Prop) (hK : K (.int .i64 (if b then -1 else 1)) H) : ACalls Try.prog 38 [.bool b] H K := by
  refine ACalls.out (f38_ok fun hs => ?_)
  have hO := Out.here (K := K) (H := H) (r := .int .i64 (if b then -1 else 1)) hs rfl rfl hK
  cases b <;> simp [f38] <;> simpa using hO
theorem all39 (ks ks' : List IT) (hb : ks.length ≤ 1000000)
    (hc : ∀ (i : Nat) (h : i < ks.length) (h' : i < ks'.length) (H : Heap) (K : AV → Heap → Prop), K (.int .i64 (IT.cmp ks[i] ks'[i])) H → ACalls Try.prog 23 [.agg ks[i].cs, .agg ks'[i].cs] H K)
    (H : Heap) (K : AV → Heap → Prop) (hK : K (.int .i64 (cor (icmp ks.length ks'.length) (IT.cmpL ks ks'))) H) : ACalls Try.prog 39 [.sl (IT.css ks) .none, .sl (IT.css ks') .none] H K := by
  refine ACalls.out (f39_ok fun hs => ?_)
  have fin := Out.here (K := K) (H := H) (r := .int .i64 (cor (icmp ks.length ks'.length) (IT.cmpL ks ks'))) hs rfl rfl hK
  by_cases he : ks.length = ks'.length
  · have e : cor (icmp ks.length ks'.length) (IT.cmpL ks ks') = IT.cmpL ks ks' := by simp [he, icmp_self, cor]
    rw [e] at fin
    simp [f39, he]
    refine f39_loop4 (Inv := fun q t13 H' => ∃ i : Nat, i ≤ ks.length ∧ q = ks.length - i ∧ t13 = .int .i64 i ∧ IT.cmpL (ks.drop i) (ks'.drop i) = IT.cmpL ks ks' ∧ H' = H) ks.length ?_ ?_
    · intro _; exact ⟨0, by omega, by omega, rfl, by simp, rfl⟩
    · rintro q t8 H' ⟨i, hi, rfl, rfl, ho, rfl⟩ hsc hlen hsF Kb hKb
      by_cases hlt : i < ks.length
      · have hlt' : i < ks'.length := by omega
        rw [IT.cmpL_drop hlt hlt'] at ho
        simp [f39_b4, hlt, hlt']
        refine aPure_call _ (hc i hlt hlt' _ _ ⟨rfl, rfl⟩) ?_
        by_cases hz : IT.cmp ks[i] ks'[i] = 0
        · rw [cor_z hz] at ho
          simp [hz]
          rw [wrap_in (by omega) (by omega)]
          refine hKb _ _ ⟨ks.length - (i + 1), by omega, Back.here (Nat.le_refl _) hs ?_ ⟨_, rfl, i + 1, by omega, rfl, by simp, ho, rfl⟩⟩
          simp [f39_fr4, AV.sc, AV.scV, AV.scA, AV.scB]
        · rw [cor_nz hz] at ho
          have hz : (IT.cmp ks[i] ks'[i] != 0) = true := by simpa using hz
          simp [hz]
          rw [ho]
          exact fin
      · have hlt' : ¬ i < ks'.length := by omega
        simp [f39_b4, hlt, hlt']
        obtain rfl : i = ks.length := by omega
        rw [List.drop_length, he, List.drop_length] at ho
        simp only [IT.cmpL] at ho
        rw [← ho] at fin
        exact fin
  · have hb : ((ks.length : Int) != ks'.length) = true := by simp; omega
    simp [f39, hb]
    refine order38 _ _ _ ?_
    have e : cor (icmp ks.length ks'.length) (IT.cmpL ks ks') = if decide (ks.length < ks'.length) = true then -1 else 1 := by
      rw [icmp_ne (by omega), cor_nz (by split <;> omega)]; simp
    rw [e] at fin
    exact fin
theorem refcmpi_ok : ∀ (m : Nat) (v w : IT), v.nodes ≤ m → v.nodes ≤ 1000000 → ∀ (H : Heap) (K : AV → Heap → Prop), K (.int .i64 (IT.cmp v w)) H → ACalls Try.prog 23 [.agg v.cs, .agg w.cs] H K := by
  intro m
  induction m with
  | zero => intro v w h; have := v.nodes_pos; omega
  | succ m ih =>
    intro v w hv hb H K hK
    obtain ⟨n, ks⟩ := v
    obtain ⟨n', ks'⟩ := w
    have hnl : IT.nodesL ks + 1 ≤ 1000000 := by simpa [IT.nodes] using hb
    have hll := IT.len_le ks
    refine ACalls.out (f23_ok fun hs => ?_)
    have fin : ∀ J, Out H.length K (.int .i64 (IT.cmp (.mk n ks) (.mk n' ks'))) (H ++ J) := fun J => Out.same rfl hs rfl rfl hK
    by_cases h2 : n = n'
    · subst h2
      simp [IT.cs, f23]
      have e : IT.cmp (.mk n ks) (.mk n ks') = cor (icmp ks.length ks'.length) (IT.cmpL ks ks') := by simp [IT.cmp, icmp_self, cor]
      rw [e] at fin
      refine all39 ks ks' (by omega) (fun i h h' H K hK => ?_) _ _ (fin _)
      have := IT.kid_lt (n := n) h
      exact ih _ _ (by omega) (by omega) H K hK
    · have hb : (n != n') = true := by simpa using h2
      simp [IT.cs, f23, hb]
      refine order38 _ _ _ ?_
      have e : IT.cmp (.mk n ks) (.mk n' ks') = if decide (n < n') = true then -1 else 1 := by
        simp only [IT.cmp, cor]
        rw [icmp_ne h2]; split <;> simp <;> omega
      rw [e] at fin
      exact fin _
theorem samel40 (ks ks' : List IT) (hb : ks.length ≤ 1000000)
    (hc : ∀ (i : Nat) (h : i < ks.length) (h' : i < ks'.length) (H : Heap) (K : AV → Heap → Prop), K (.bool (IT.same ks[i] ks'[i])) H → ACalls Try.prog 24 [.agg ks[i].cs, .agg ks'[i].cs] H K)
    (H : Heap) (K : AV → Heap → Prop) (hK : K (.bool (IT.sameL ks ks')) H) : ACalls Try.prog 40 [.sl (IT.css ks) .none, .sl (IT.css ks') .none] H K := by
  refine ACalls.out (f40_ok fun hs => ?_)
  have fin := Out.here (K := K) (H := H) (r := .bool (IT.sameL ks ks')) hs rfl rfl hK
  by_cases he : ks.length = ks'.length
  · simp [f40, he]
    refine f40_loop4 (Inv := fun q t13 H' => ∃ i : Nat, i ≤ ks.length ∧ q = ks.length - i ∧ t13 = .int .i64 i ∧ IT.sameL (ks.drop i) (ks'.drop i) = IT.sameL ks ks' ∧ H' = H) ks.length ?_ ?_
    · intro _; exact ⟨0, by omega, by omega, rfl, by simp, rfl⟩
    · rintro q t8 H' ⟨i, hi, rfl, rfl, ho, rfl⟩ hsc hlen hsF Kb hKb
      by_cases hlt : i < ks.length
      · have hlt' : i < ks'.length := by omega
        rw [IT.sameL_drop hlt hlt'] at ho
        simp [f40_b4, hlt, hlt']
        refine aPure_call _ (hc i hlt hlt' _ _ ⟨rfl, rfl⟩) ?_
        cases hz : IT.same ks[i] ks'[i] with
        | true =>
          rw [hz, Bool.true_and] at ho
          simp
          rw [wrap_in (by omega) (by omega)]
          refine hKb _ _ ⟨ks.length - (i + 1), by omega, Back.here (Nat.le_refl _) hs ?_ ⟨_, rfl, i + 1, by omega, rfl, by simp, ho, rfl⟩⟩
          simp [f40_fr4, AV.sc, AV.scV, AV.scA, AV.scB]
        | false =>
          rw [hz, Bool.false_and] at ho
          simp
          rw [← ho] at fin
          exact fin
      · have hlt' : ¬ i < ks'.length := by omega
        simp [f40_b4, hlt, hlt']
        obtain rfl : i = ks.length := by omega
        rw [List.drop_length, he, List.drop_length] at ho
        rw [← ho] at fin
        exact fin
  · have hb : ((ks.length : Int) != ks'.length) = true := by simp; omega
    simp [f40, hb]
    have e : IT.sameL ks ks' = false := by
      cases h : IT.sameL ks ks' with
      | false => rfl
      | true => exact absurd (IT.sameL_len _ _ h) he
    rw [e] at fin
    exact fin
theorem samei_ok : ∀ (m : Nat) (v w : IT), v.nodes ≤ m → v.nodes ≤ 1000000 → ∀ (H : Heap) (K : AV → Heap → Prop), K (.bool (IT.same v w)) H → ACalls Try.prog 24 [.agg v.cs, .agg w.cs] H K := by
  intro m
  induction m with
  | zero => intro v w h; have := v.nodes_pos; omega
  | succ m ih =>
    intro v w hv hb H K hK
    obtain ⟨n, ks⟩ := v
    obtain ⟨n', ks'⟩ := w
    have hnl : IT.nodesL ks + 1 ≤ 1000000 := by simpa [IT.nodes] using hb
    have hll := IT.len_le ks
    refine ACalls.out (f24_ok fun hs => ?_)
    have fin : ∀ J, Out H.length K (.bool (IT.same (.mk n ks) (.mk n' ks'))) (H ++ J) := fun J => Out.same rfl hs rfl rfl hK
    cases h2 : (n == n') with
    | false =>
      simp [IT.cs, f24, h2]
      simp only [IT.same, h2, Bool.false_and] at fin
      exact fin _
    | true =>
      simp [IT.cs, f24, h2]
      simp only [IT.same, h2, Bool.true_and] at fin
      refine samel40 ks ks' (by omega) (fun i h h' H K hK => ?_) _ _ ?_
      · have := IT.kid_lt (n := n) h
        exact ih _ _ (by omega) (by omega) H K hK
      · exact fin _
theorem iorders_law (v w x : IT) : ACalls Try.prog 6 [.agg v.cs, .agg w.cs, .agg x.cs] [] fun r _ => r = .bool true := by
  refine f6_ok fun hs => ?_
  simp [f6]
  refine index_ok v _ _ ?_
  have hsp := IT.val_spec v 40 (by omega)
  have hsp' := IT.val_spec w 40 (by omega)
  cases hb : (IT.val v 40).1 with
  | false => simp
  | true =>
    have hn : v.nodes ≤ 40 := by have := hsp.1 hb; omega
    simp
    refine index_ok w _ _ ?_
    cases hb' : (IT.val w 40).1 with
    | false => simp
    | true =>
      have hn' : w.nodes ≤ 40 := by have := hsp'.1 hb'; omega
      simp
      refine index_ok x _ _ ?_
      cases hb'' : (IT.val x 40).1 with
      | false => simp
      | true =>
        simp
        refine icmp_ok _ v w (Nat.le_refl _) (by omega) _ _ ?_
        simp
        refine refcmpi_ok _ v w (Nat.le_refl _) (by omega) _ _ ?_
        simp
        refine icmp_ok _ w v (Nat.le_refl _) (by omega) _ _ ?_
        have ha := IT.cmp_anti v w
        have hr := IT.cmp_rng w v
        have hz := IT.cmp_zero v w
        have ht := IT.cmp_tri v w x
        have hw : IntKind.i64.wrap (- IT.cmp w v) = IT.cmp v w := by rw [wrap_in (by omega) (by omega)]; omega
        simp [hw]
        refine samei_ok _ v w (Nat.le_refl _) (by omega) _ _ ?_
        have hsame : (v.cmp w == 0) = v.same w := by
          cases h : v.same w with
          | true => simpa using hz.mpr h
          | false => simp only [beq_eq_false_iff_ne]; intro h'; rw [hz.mp h'] at h; cases h
        have last : aBuild [AV.int IntKind.i64 0, AV.snil] [(0, 1), (1, 1)] [] fun t59 =>
                              aBuild [AV.int IntKind.i64 0, AV.snil] [(0, 1), (1, 1)] [(0, AV.int IntKind.i64 1)] fun t60 =>
                                ACalls Try.prog 22 [t59, t60] [AB.cells v.cs, AB.cells w.cs, AB.cells x.cs] fun t61 H =>
                                  aBin BinOp.eql false t61 (AV.int IntKind.i64 (-1)) fun t62 => t62 = AV.bool true := by
          simp [aBuild_eq, fillA]
          refine (icmp_ok _ (.mk 0 []) (.mk 1 []) (Nat.le_refl _) (by simp [IT.nodes, IT.nodesL]) _ _ ?_).wk ?_
          · simp [IT.cmp, icmp, cor]
          · exact ⟨.agg ⟨.refl _, .snil, trivial⟩, .agg ⟨.refl _, .snil, trivial⟩, trivial⟩
        simp [hsame]
        cases h1 : decide (v.cmp w ≤ 0) with
        | false => simp; exact last
        | true =>
          simp
          refine icmp_ok _ w x (Nat.le_refl _) (by omega) _ _ ?_
          simp
          cases h2 : decide (w.cmp x ≤ 0) with
          | false => simp; exact last
          | true =>
            simp
            refine icmp_ok _ v x (Nat.le_refl _) (by omega) _ _ ?_
            have h3 := (ht (by simpa using h1) (by simpa using h2)).1
            have h4 : decide (0 < v.cmp x) = false := by simp; omega
            simp [h4]
            exact last
end Go.Proofs.Ytmbegappkkbfpaa
