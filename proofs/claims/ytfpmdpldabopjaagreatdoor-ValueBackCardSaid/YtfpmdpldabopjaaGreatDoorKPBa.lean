/- Values read from texts: the reader's leaves. -/
import Derived.Test.YtfpmdpldabopjaaGreatDoorKPAa
import Derived.Test.YtfpmdpldabopjaaGreatDoorKGV
import Derived.Test.YtfpmdpldabopjaaGreatDoorKWa
import Derived.Test.YtfpmdpldabopjaaGreatDoorKPa
import Derived.Test.YtfpmdpldabopjaaGreatDoorKSB
import Derived.Lib.ParseIntBTie
namespace Go.Proofs.YtfpmdpldabopjaaGreatDoor
open Go Go.Abs
set_option linter.unusedSimpArgs false
set_option linter.unusedVariables false
set_option maxRecDepth 8000
/-- The reader's block. -/
def vrB (data : List Dat) (s : List UInt8) (left : Int) : AB := .cells [.sl (data.map Dat.cs) .none, .str s, .int .i64 left, .bool false]
theorem vrB_sc (data : List Dat) (s : List UInt8) (l : Int) (n : Nat) : (vrB data s l).sc n = true := by simp [vrB, AB.sc, AV.scA, AV.scB]
theorem accept_yes {data : List Dat} {left : Int} (p t : List UInt8) (hs : (p ++ t).length ≤ 1000000000) {H : Heap} {id : Nat} (hid : H[id]? = some (vrB data (p ++ t) left)) (K : Kt) (hK : K (.bool true) (H.set id (vrB data t left))) : ACalls Tryz.prog n_value_reader_accept [.ptr id 0, .str p] H K := by
  refine value_reader_accept_ok fun hsc => ?_
  have h0 : H[id]? = some (.cells [.sl (data.map Dat.cs) .none, .str (p ++ t), .int .i64 left, .bool false]) := hid
  simp [value_reader_accept, h0]
  refine CutPrefix_yes p t hs _ _ ?_
  simp [h0, AV.known, value_reader_accept_j1]
  exact hK
theorem accept_no {data : List Dat} {left : Int} (p s : List UInt8) (hs : s.length ≤ 1000000000) (hp : p.length ≤ 1000000000) (hn : ¬ p <+: s) {H : Heap} {id : Nat} (hid : H[id]? = some (vrB data s left)) (K : Kt) (hK : K (.bool false) H) : ACalls Tryz.prog n_value_reader_accept [.ptr id 0, .str p] H K := by
  refine value_reader_accept_ok fun hsc => ?_
  have h0 : H[id]? = some (.cells [.sl (data.map Dat.cs) .none, .str s, .int .i64 left, .bool false]) := hid
  simp [value_reader_accept, h0]
  refine CutPrefix_no p s hs hp hn _ _ ?_
  simp [value_reader_accept_j1]
  exact hK
theorem expect_yes {data : List Dat} {left : Int} (p t : List UInt8) (hs : (p ++ t).length ≤ 1000000000) {H : Heap} {id : Nat} (hid : H[id]? = some (vrB data (p ++ t) left)) (K : Kt) (hK : K (.tup []) (H.set id (vrB data t left))) : ACalls Tryz.prog n_value_reader_expect [.ptr id 0, .str p] H K := by
  refine value_reader_expect_ok fun hsc => ?_
  simp [value_reader_expect]
  refine accept_yes p t hs hid _ ?_
  simp
  exact hK
end Go.Proofs.YtfpmdpldabopjaaGreatDoor
namespace Go.Proofs.YtfpmdpldabopjaaGreatDoor
open Go Go.Abs
set_option linter.unusedSimpArgs false
set_option linter.unusedVariables false
set_option maxRecDepth 8000
def StopW (tail : List UInt8) : Prop := ∀ b, tail.head? = some b → b = 41 ∨ b = 44 ∨ b = 93
def RdW (data : List Dat) (v : VT) : Prop := ∀ t : VT, tyValid data 0 t = true → hasV data v t = true → ∀ (H : Heap) (id : Nat) (tail : List UInt8) (left : Int), H[id]? = some (vrB data (wrV data v t ++ tail) left) → (wrV data v t ++ tail).length ≤ 1000000000 → (v.nodes : Int) ≤ left → left ≤ 1000000 → StopW tail →
  ∀ K : Kt, K (.agg v.cs) (H.set id (vrB data tail (left - v.nodes))) → ACalls Tryz.prog n_value_reader_value [.ptr id 0, .agg t.cs] H K
theorem value_list_spec {data : List Dat} (vs : List VT) (hv : vs.length ≤ 1000000) (hel : ∀ v ∈ vs, RdW data v) (ts : List VT) (hlen : vs.length = ts.length) (ht : ∀ t ∈ ts, tyValid data 0 t = true)
    (hh : ∀ (i : Nat) (h1 : i < vs.length) (h2 : i < ts.length), hasV data vs[i] ts[i] = true)
    (H : Heap) (id : Nat) (tail : List UInt8) (left : Int) (hid : H[id]? = some (vrB data ([40] ++ wrL data vs ts true ++ [41] ++ tail) left)) (hb : ([40] ++ wrL data vs ts true ++ [41] ++ tail).length ≤ 1000000000) (hlo : (VT.nodesL vs : Int) ≤ left) (hhi : left ≤ 1000000)
    (K : Kt) (hK : K (.sl (VT.css vs) .none) (H.set id (vrB data tail (left - VT.nodesL vs)))) :
    ACalls Tryz.prog n_value_reader_list [.ptr id 0, .sl (VT.css ts) .none] H K := by
  refine ACalls.out (value_reader_list_ok fun hs => ?_)
  have hl1 := lt_get hid
  simp only [List.length_append, List.length_cons, List.length_nil] at hb
  simp [value_reader_list]
  refine expect_yes [40] (wrL data vs ts true ++ ([41] ++ tail)) (by simp; omega) (by simpa using hid) _ ?_
  simp
  unfold value_reader_list_l4
  refine ALoop.own 5 e_api_Value 3 rfl ?_
  have hl2 : (H.set id (vrB data (wrL data vs ts true ++ 41 :: tail) left)).length = H.length := by simp
  rw [hl2]
  show value_reader_list_l4 (.ptr id 0) (.sl [] (.own H.length)) (.sl (VT.css ts) .none) (.int .i64 ts.length) (.int .i64 0) _ (Out H.length K)
  have hO : ∀ X J, X = H.set id (vrB data tail (left - VT.nodesL vs)) ++ J → Out H.length K (.sl (VT.css vs) (.own H.length)) X := fun X J h2 => by
    subst h2
    exact Out.at rfl (by simp) (hs.set (vrB_sc _ _ _ _)) (slV (n := 0)).1 rfl rfl hK
  refine value_reader_list_loop4 (Inv := fun q t5 t12 H' => ∃ (i : Nat), i ≤ ts.length ∧ q = ts.length - i ∧ t12 = .int .i64 i ∧ t5 = .sl (VT.css (vs.take i)) (.own H.length) ∧ (wrL data (vs.drop i) (ts.drop i) (i == 0)).length ≤ (wrL data vs ts true).length ∧
    H' = H.set id (vrB data (wrL data (vs.drop i) (ts.drop i) (i == 0) ++ ([41] ++ tail)) (left - VT.nodesL (vs.take i))) ++ [.perm e_api_Value 3 i]) ts.length ?_ ?_
  · intro _; exact ⟨0, by omega, by omega, rfl, by simp [VT.css], by simp, by simp [VT.nodesL]⟩
  · rintro q t5 t12 H' ⟨i, hi, rfl, rfl, rfl, hdl, rfl⟩ hsc' hlen' hsF Kb hKb
    have hcl : (VT.css (vs.take i)).length = i := by rw [VT.css_map]; simp; omega
    by_cases hlt : i < ts.length
    · have hltv : i < vs.length := by omega
      have hri := hh i hltv hlt
      have hti := ht _ (List.getElem_mem hlt)
      have hvi := hel _ (List.getElem_mem hltv)
      have hn1 := VT.nodesL_take hltv
      have hn2 := VT.nodesL_take_le vs (i + 1)
      obtain ⟨x, y, z, hvx, hx, hy, hz⟩ := vt3' ts[i]
      rw [List.drop_eq_getElem_cons hlt, List.drop_eq_getElem_cons hltv] at hdl ⊢
      simp only [wrL, List.length_append] at hdl ⊢
      have hnext : ∀ X : Heap, X[id]? = some (vrB data (wrV data vs[i] ts[i] ++ (wrL data (vs.drop (i + 1)) (ts.drop (i + 1)) false ++ ([41] ++ tail))) (left - VT.nodesL (vs.take i))) → X[H.length + 1]? = some (.cells [x, y, z]) → (∀ s' l', X.set id (vrB data s' l') = H.set id (vrB data s' l') ++ [.perm e_api_Value 3 i, .cells [x, y, z]]) →
          value_reader_list_j1 (.ptr id 0) (.sl (VT.css (vs.take i)) (.own H.length)) (.ptr (H.length + 1) 0) (.sl (VT.css ts) .none) (.int .i64 ts.length) (.int .i64 i) X (Out H.length K) Kb := by
        intro X hX hX1 hXs
        simp [value_reader_list_j1, hX1]
        rw [← hvx]
        refine hvi ts[i] hti hri _ id (wrL data (vs.drop (i + 1)) (ts.drop (i + 1)) false ++ ([41] ++ tail)) _ hX (by simp; omega) (by omega) (by omega) ?_ _ ?_
        · intro b hb
          cases hvd : vs.drop (i + 1) with
          | nil => rw [hvd] at hb; simp [wrL] at hb; subst hb; decide
          | cons v vs' =>
            cases htd : ts.drop (i + 1) with
            | nil => rw [hvd, htd] at hb; simp [wrL] at hb; subst hb; decide
            | cons t ts' => rw [hvd, htd] at hb; simp [wrL] at hb; subst hb; decide
        · rw [buildS_vt, hXs]
          have hc2 : (vs[i]).cs.length = 3 := by obtain ⟨k, n, ks⟩ := vs[i]; rfl
          simp [aAppend, aSrc, aAppTo, hcl, hc2, List.set_append_right, List.set_append]
          refine ⟨⟨by omega, by omega⟩, ?_⟩
          rw [wrap_in (by omega) (by omega)]
          have hle : left - (VT.nodesL (vs.take i) : Int) - ((vs[i]).nodes : Int) = left - (VT.nodesL (vs.take (i + 1)) : Int) := by omega
          rw [hle]
          refine hKb _ _ ⟨ts.length - (i + 1), by omega, Back.at (J := [.cells [x, y, z]]) (H2 := H.set id (vrB data (wrL data (vs.drop (i + 1)) (ts.drop (i + 1)) false ++ ([41] ++ tail)) (left - VT.nodesL (vs.take (i + 1)))) ++ [.perm e_api_Value 3 (i + 1)]) (by simp) (by simp) ((hs.set (vrB_sc _ _ _ _)).append (by simp [AB.sc, AV.scA, AV.scB])) ?_ ⟨_, _, rfl, i + 1, by omega, rfl, by simp, by rw [css_take_succ hltv], by simp; omega, by simp⟩⟩
          simp [value_reader_list_fr4, AV.sc, AV.scV, AV.scA, AV.scB]
          try omega
      by_cases h0 : i = 0
      · subst h0
        simp [value_reader_list_b4, hlt, hvx, hx, hy, hz]
        refine hnext _ ?_ ?_ ?_
        · simp [List.getElem?_append, hl1]
        · simp [List.getElem?_append]
        · intro s' l'; simp [List.set_append, hl1]
      · have hp : (0 : Int) < i := by omega
        have hz0 : (i == 0) = false := by simpa using h0
        rw [hz0] at hdl ⊢
        simp [value_reader_list_b4, hlt, hvx, hx, hy, hz, hp, show 0 < i by omega]
        refine expect_yes (data := data) [44, 32] (wrV data vs[i] ts[i] ++ (wrL data (vs.drop (i + 1)) (ts.drop (i + 1)) false ++ ([41] ++ tail))) ?_ (left := left - VT.nodesL (vs.take i)) ?_ _ ?_
        · simp at hdl ⊢; omega
        · simp [List.getElem?_append, hl1]
        · refine hnext _ ?_ ?_ ?_
          · simp [List.getElem?_append, hl1]
          · simp [List.getElem?_append, hl1]
          · intro s' l'; simp [List.set_append, hl1]
    · obtain rfl : i = ts.length := by omega
      have e1 : vs.drop ts.length = [] := by rw [← hlen]; exact List.drop_length
      have e2 : vs.take ts.length = vs := by rw [← hlen]; exact List.take_length
      rw [e1, e2]
      simp [value_reader_list_b4, wrL]
      refine expect_yes (data := data) (left := left - VT.nodesL vs) [41] tail (by simp; omega) (by simp [List.getElem?_append, hl1]) _ ?_
      refine hO _ [.perm e_api_Value 3 ts.length] ?_
      simp [List.set_append, hl1]
end Go.Proofs.YtfpmdpldabopjaaGreatDoor
namespace Go.Proofs.YtfpmdpldabopjaaGreatDoor
open Go Go.Abs
set_option linter.unusedSimpArgs false
set_option linter.unusedVariables false
set_option maxRecDepth 8000
def numB (b : UInt8) : Bool := b == 45 || bDig b
theorem dig_byte (k : Nat) (hk : k < 10) : (UInt8.ofNat (48 + k)).toNat = 48 + k := by
  simp only [UInt8.toNat_ofNat']; omega
theorem decDigits_spec : ∀ (m u : Nat), u ≤ m → u < 1844674407370955161 → Lib.decDigits u ≠ [] ∧ (∀ b ∈ Lib.decDigits u, 48 ≤ b.toNat ∧ b.toNat ≤ 57) ∧ Lib.parseUint10 0 (Lib.decDigits u) = .ok u := by
  intro m
  induction m with
  | zero =>
    intro u hu hb
    obtain rfl : u = 0 := by omega
    rw [Lib.decDigits_one (by omega)]
    refine ⟨by simp, by simp, by decide⟩
  | succ m ih =>
    intro u hu hb
    by_cases h : u < 10
    · rw [Lib.decDigits_one h]
      have hd := dig_byte u h
      refine ⟨by simp, fun b hb => ?_, ?_⟩
      · simp only [List.mem_singleton] at hb; subst hb; omega
      · have := parse_snoc (UInt8.ofNat (48 + u)) (by omega) [] 0 0 rfl (by omega)
        rw [hd] at this
        simpa using this
    · rw [Lib.decDigits, dif_neg h]
      obtain ⟨h1, h2, h3⟩ := ih (u / 10) (by omega) (by omega)
      have hd := dig_byte (u % 10) (by omega)
      refine ⟨by simp, fun b hb => ?_, ?_⟩
      · rcases List.mem_append.1 hb with hb | hb
        · exact h2 b hb
        · simp only [List.mem_singleton] at hb; subst hb; omega
      · have := parse_snoc (UInt8.ofNat (48 + u % 10)) (by omega) _ 0 (u / 10) h3 (by omega)
        rw [hd] at this
        rw [this]
        congr 1
        omega
theorem itoa_num {n : Int} (h1 : -1099511627776 ≤ n) (h2 : n ≤ 1099511627776) : (∀ b ∈ Lib.itoa n, numB b = true) ∧ Lib.parseIntB 64 (Lib.itoa n) = .ok n := by
  rw [Lib.parseIntB_64]
  have hdig : ∀ b : UInt8, 48 ≤ b.toNat ∧ b.toNat ≤ 57 → numB b = true := fun b hb => by
    simp [numB, bDig]
    right
    constructor <;> (first | exact_mod_cast hb.1 | exact_mod_cast hb.2 | (rw [UInt8.le_iff_toNat_le]; simp; omega))
  unfold Lib.itoa
  by_cases hn : n < 0
  · rw [if_pos hn]
    obtain ⟨k1, k2, k3⟩ := decDigits_spec _ n.natAbs (Nat.le_refl _) (by omega)
    refine ⟨fun b hb => ?_, ?_⟩
    · rcases List.mem_cons.1 hb with rfl | hb
      · decide
      · exact hdig b (k2 b hb)
    · simp only [Lib.atoiAll]
      rw [if_pos (Or.inr (by decide))]
      simp only [Lib.parseMag, k1, if_false, k3]
      rw [if_neg (by simp), if_neg (by omega)]
      simp
      omega
  · rw [if_neg hn]
    obtain ⟨k1, k2, k3⟩ := decDigits_spec _ n.toNat (Nat.le_refl _) (by omega)
    refine ⟨fun b hb => hdig b (k2 b hb), ?_⟩
    obtain ⟨c, r, hcr⟩ := List.exists_cons_of_ne_nil k1
    have hc := k2 c (by rw [hcr]; simp)
    rw [hcr] at k3 ⊢
    simp only [Lib.atoiAll]
    rw [if_neg (by omega)]
    simp only [Lib.parseMag, reduceCtorEq, if_false, k3]
    rw [if_neg (by omega), if_neg (by omega), if_neg (by omega)]
    congr 1
    omega
theorem number_spec {data : List Dat} {left : Int} (n : Int) (h1 : -1099511627776 ≤ n) (h2 : n ≤ 1099511627776) (t : List UInt8) (ht : StopW t) (hl : (Lib.itoa n ++ t).length ≤ 1000000000) {H : Heap} {id : Nat} (hid : H[id]? = some (vrB data (Lib.itoa n ++ t) left)) (K : Kt) (hK : K (.int .i64 n) (H.set id (vrB data t left))) :
    ACalls Tryz.prog n_value_reader_number [.ptr id 0] H K := by
  refine ACalls.out (value_reader_number_ok fun hs => ?_)
  obtain ⟨hw, hp⟩ := itoa_num h1 h2
  generalize Lib.itoa n = w at *
  have h0 : H[id]? = some (.cells [.sl (data.map Dat.cs) .none, .str (w ++ t), .int .i64 left, .bool false]) := hid
  simp only [List.length_append] at hl
  have hlt0 := lt_get hid
  simp [value_reader_number]
  refine value_reader_number_loop2 (Inv := fun q t5 H' => ∃ i : Nat, i ≤ w.length ∧ q = w.length - i ∧ t5 = .int .i64 i ∧ H' = H) w.length ?_ ?_
  · intro _; exact ⟨0, by omega, by omega, rfl, rfl⟩
  · rintro q t5 H' ⟨i, hi, rfl, rfl, rfl⟩ hsc hlen hsF Kb hKb
    by_cases hlt : i < w.length
    · have hgi := hw _ (List.getElem_mem hlt)
      have h1 : (i : Int) < (w.length : Int) + t.length := by omega
      have e1 : ((w[i].toNat : Int) == 45) = (w[i] == 45) := u8_eq w[i] 45
      have hgo : Kb (value_reader_number_fr2 (.ptr id 0) (.int .i64 (IntKind.i64.wrap ((i : Int) + 1)))) H' := by
        rw [wrap_in (by omega) (by omega)]
        refine hKb _ _ ⟨w.length - (i + 1), by omega, Back.here (by simp) hsc ?_ ⟨_, rfl, i + 1, by omega, rfl, by simp, rfl⟩⟩
        simp [value_reader_number_fr2, AV.sc, AV.scV, AV.scA, AV.scB]
        try omega
      unfold numB bDig at hgi
      have hget : (w ++ t)[i]?.getD 0 = w[i] := by simp [List.getElem?_append_left hlt, hlt]
      simp [value_reader_number_b2, hget, h0, h1, show i < w.length + t.length by omega, List.getElem?_append_left hlt, hlt, e1]
      cases h2 : (w[i] == 45) <;> cases h3 : decide (48 ≤ (w[i].toNat : Int)) <;> cases h4 : decide ((w[i].toNat : Int) ≤ 57) <;> simp [h2, h3, h4] at hgi ⊢ <;> first | exact hgo | (simp [h1, h0, hlt, hget, e1, h2, h3, h4, show i < w.length + t.length by omega] ; exact hgo)
    · obtain rfl : i = w.length := by omega
      have fin : ∀ X, X = H'.set id (vrB data t left) → Out H'.length K (.int .i64 n) X := fun X hX => by
        subst hX
        exact Out.at (J := []) (by simp) (by simp) (hs.set (vrB_sc _ _ _ _)) .rfl' rfl rfl hK
      have hPI : ∀ K' : AV → Heap → Prop, K' (.tup [.int .i64 n, .nili]) H' → ACalls Tryz.prog n_strconv_ParseInt [.str w, .int .i64 10, .int .i64 64] H' K' := fun K' hK' => ParseInt_ok w n (by omega) hp H' K' hK'
      cases t with
      | nil =>
        simp [value_reader_number_b2, h0, aSlice, aBound, AV.known]
        refine hPI _ ?_
        simp [h0, aSlice, aBound, AV.known]
        exact fin _ (by simp [vrB])
      | cons b t =>
        have h1 : (w.length : Int) < (w.length : Int) + ((t.length : Int) + 1) := by omega
        have hb := ht b rfl
        have e1 : ((b.toNat : Int) == 45) = false := by rcases hb with rfl | rfl | rfl <;> decide
        have e2 : (decide (48 ≤ (b.toNat : Int)) && decide ((b.toNat : Int) ≤ 57)) = false := by rcases hb with rfl | rfl | rfl <;> decide
        cases h3 : decide (48 ≤ (b.toNat : Int)) <;> cases h4 : decide ((b.toNat : Int) ≤ 57) <;> simp [h3, h4] at e2 <;>
          (simp [value_reader_number_b2, h0, h1, aSlice, aBound, AV.known, e1, h3, h4]
           first
             | (refine hPI _ ?_
                simp [h0, aSlice, aBound, AV.known]
                exact fin _ (by simp [vrB]))
             | (refine ⟨by omega, hPI _ ?_⟩
                simp [h0, aSlice, aBound, AV.known]
                exact fin _ (by simp [vrB])))
end Go.Proofs.YtfpmdpldabopjaaGreatDoor
namespace Go.Proofs.YtfpmdpldabopjaaGreatDoor
open Go Go.Abs
set_option linter.unusedSimpArgs false
set_option linter.unusedVariables false
set_option maxRecDepth 8000
def stopL : List UInt8 := [40, 41, 44, 32, 91, 93]
theorem in_small {b : UInt8} (h : bIn b = true) : b.toNat < 128 := by
  unfold bIn bLow bUp bDig at h
  simp only [Bool.or_eq_true, Bool.and_eq_true, decide_eq_true_eq, beq_iff_eq] at h
  rcases h with ((h | h) | h) | rfl
  · omega
  · omega
  · omega
  · decide
theorem in_idx : ∀ k : Nat, k < 128 → bIn (UInt8.ofNat k) = true → decide (0 ≤ Lib.indexByte stopL (UInt8.ofNat k)) = false := by decide
theorem in_stop {b : UInt8} (h : bIn b = true) : decide (0 ≤ Lib.indexByte stopL b) = false := by
  have h1 := in_small h
  have h2 := in_idx b.toNat h1
  rw [UInt8.ofNat_toNat] at h2
  exact h2 h
theorem wrap_rune (b : UInt8) : IntKind.i32.wrap (b.toNat : Int) = b.toNat := by
  have := b.toNat_lt
  simp only [IntKind.wrap]
  first | omega | (simp [IntKind.bits, IntKind.signed]; omega)
theorem value_cons_spec {data : List Dat} (hk : KData data) (hD : dataOk data = true) (n : Int) (ks : List VT) (ht : tyValid data 0 (.mk 5 n ks) = true) (c : Int) (vks : List VT) (hv : vks.length ≤ 1000000) (hel : ∀ v ∈ vks, RdW data v) (ts : List VT)
    (hf : fields data (.mk 5 n ks) c = some ts) (hL : hasL data vks ts = true)
    (H : Heap) (id : Nat) (tail : List UInt8) (left : Int) (hid : H[id]? = some (vrB data (conName data (.mk 5 n ks) c ++ ((if vks.length = 0 then [] else [40] ++ wrL data vks ts true ++ [41]) ++ tail)) left))
    (hb : (conName data (.mk 5 n ks) c ++ ((if vks.length = 0 then [] else [40] ++ wrL data vks ts true ++ [41]) ++ tail)).length ≤ 1000000000) (hlo : (VT.nodesL vks : Int) ≤ left) (hhi : left ≤ 1000000) (hst : StopW tail) (K : Kt)
    (hK : K (.agg (VT.mk 5 c vks).cs) (H.set id (vrB data tail (left - VT.nodesL vks)))) :
    ACalls Tryz.prog n_value_reader_cons [.ptr id 0, .agg (VT.mk 5 n ks).cs] H K := by
  refine ACalls.out (value_reader_cons_ok fun hs => ?_)
  have hl1 := lt_get hid
  have hto : tyOk data 0 (.mk 5 n ks) = true := by rw [tyValid, Bool.and_eq_true] at ht; exact ht.2
  have htn : (VT.mk 5 n ks).nodes ≤ 200 := by rw [tyValid, Bool.and_eq_true] at ht; exact of_decide_eq_true ht.1
  have hfv := fields_valid hD hto hf
  obtain ⟨_, n0, c0, hn1, hc1, _⟩ := fields_some hf
  have hnm : conName data (.mk 5 n ks) c = ((data[n.toNat]).cons[c.toNat]).name := by simp [conName, VT.num, hn1, hc1]
  obtain ⟨n, rfl⟩ : ∃ x : Nat, n = x := ⟨n.toNat, by omega⟩
  obtain ⟨c, rfl⟩ : ∃ x : Nat, c = x := ⟨c.toNat, by omega⟩
  simp only [Int.toNat_natCast] at hn1 hc1 hnm
  obtain ⟨f1, f2, f3⟩ := kd_fields hk
  have hT' : (VT.mk 5 (n : Int) ks).cs = [.int .i64 5, .int .i64 n, .sl (VT.css ks) .none] := rfl
  have e1 : (data.map Dat.cs)[n]? = some (data[n]).cs := by simp [hn1]
  have hcl := f3 _ (List.getElem_mem hn1)
  rw [hnm] at hid hb
  have hnw := (con_name hD hn1 hc1).2
  have hll := hasL_len hL
  generalize hmid : (if vks.length = 0 then [] else [40] ++ wrL data vks ts true ++ [41]) = mid at *
  have hstop : ∀ b, (mid ++ tail).head? = some b → b = 40 ∨ b = 41 ∨ b = 44 ∨ b = 93 := by
    intro b hb
    by_cases hz : vks.length = 0
    · rw [if_pos hz] at hmid; subst hmid; exact Or.inr (hst b (by simpa using hb))
    · rw [if_neg hz] at hmid; subst hmid; simp at hb; exact Or.inl hb.symm
  simp only [List.length_append] at hb
  generalize hnam : ((data[n]).cons[c]).name = w at *
  have hX0 : ∀ s l J, (H.set id (vrB data s l) ++ J)[id]? = some (.cells [.sl (data.map Dat.cs) .none, .str s, .int .i64 l, .bool false]) := fun s l J => by simp [List.getElem?_append, hl1, vrB]
  have h0 : ∀ J : Heap, (H ++ J)[id]? = some (.cells [.sl (data.map Dat.cs) .none, .str (w ++ (mid ++ tail)), .int .i64 left, .bool false]) := fun J => by rw [List.getElem?_append_left hl1]; exact hid
  have hset : ∀ b J, (H ++ J).set id b = H.set id b ++ J := fun b J => List.set_append_left _ _ hl1
  have hscA : ∀ s l, HSc (H.set id (vrB data s l) ++ [.cells [.int .i64 5, .int .i64 n, .sl (VT.css ks) .none], .cells [.int .i64 0, .int .i64 0, .snil]]) := fun s l => (hs.set (vrB_sc _ _ _ _)).append (by simp [AB.sc, AV.scA, AV.scB])
  -- behind the name
  have hafter : value_reader_cons_l7 (.ptr id 0) (.ptr H.length 0) (.ptr (H.length + 1) 0) (.str w) (.sl ((data[n]).cons.map Con.cs) .none) (.int .i64 (data[n]).cons.length) (.int .i64 0)
      (H.set id (vrB data (mid ++ tail) left) ++ [.cells [.int .i64 5, .int .i64 n, .sl (VT.css ks) .none], .cells [.int .i64 0, .int .i64 0, .snil]]) (Out H.length K) := by
    refine value_reader_cons_loop7 (Inv := fun q t23 H' => ∃ (i : Nat), i ≤ c ∧ q = c - i ∧ t23 = .int .i64 i ∧
      H' = H.set id (vrB data (mid ++ tail) left) ++ [.cells [.int .i64 5, .int .i64 n, .sl (VT.css ks) .none], .cells [.int .i64 0, .int .i64 0, .snil]]) c ?_ ?_
    · intro _; exact ⟨0, by omega, by omega, rfl, rfl⟩
    · rintro q t23 H' ⟨i, hi, rfl, rfl, rfl⟩ hsc' hlen' hsF Kb hKb
      have hlt : i < (data[n]).cons.length := by omega
      by_cases hic : i < c
      · have hdf := con_diff hD hn1 hc1 hic
        rw [hnam] at hdf
        have hdf' : (((data[n]).cons[i]).name == w) = false := by simpa using hdf
        simp [value_reader_cons_b7, hlt, Con.cs, hdf']
        rw [wrap_in (by omega) (by omega)]
        refine hKb _ _ ⟨c - (i + 1), by omega, Back.at (J := [.cells [.str ((data[n]).cons[i]).name, .sl (VT.css ((data[n]).cons[i]).args) .none]]) (H2 := H.set id (vrB data (mid ++ tail) left) ++ [.cells [.int .i64 5, .int .i64 n, .sl (VT.css ks) .none], .cells [.int .i64 0, .int .i64 0, .snil]]) (by simp) (by simp) (hscA _ _) ?_ ⟨_, rfl, i + 1, by omega, rfl, by simp, rfl⟩⟩
        simp [value_reader_cons_fr7, AV.sc, AV.scV, AV.scA, AV.scB]
        try omega
      · obtain rfl : i = c := by omega
        simp [value_reader_cons_b7, hlt, Con.cs, hX0, hnam]
        rw [← hT']
        refine aPureX_call (fieldsR (fields data (.mk 5 n ks) i)) (fun J => typing_Fields_spec data f1 f2 f3 (.mk 5 n ks) (by omega) i _ _ ⟨rfl, rfl⟩) ?_
        rw [hf]
        simp [fieldsR, hT']
        by_cases hz : vks.length = 0
        · have : ¬ 0 < ts.length := by omega
          rw [if_pos hz] at hmid
          subst hmid
          obtain rfl : vks = [] := List.eq_nil_of_length_eq_zero hz
          simp [this, aBuild, fillA, value_reader_cons_j3, AV.known, List.set_append, List.getElem?_append]
          simp [VT.nodesL] at hK
          exact Out.at (H2 := H.set id (vrB data tail left)) (b := .agg [.int .i64 5, .int .i64 i, .sl (VT.css []) .none]) rfl (by simp) (hs.set (vrB_sc _ _ _ _)) (.agg ⟨.refl _, .refl _, .snil, trivial⟩) rfl (by simp [AV.scV, AV.scA, AV.scB]) (by simpa [VT.cs] using hK)
        · have : 0 < ts.length := by omega
          rw [if_neg hz] at hmid
          subst hmid
          simp [this, aBuild, fillA, AV.known, List.set_append, List.getElem?_append]
          refine value_list_spec vks hv hel ts hll hfv (fun i h1 h2 => hasL_at hL i h1 h2) _ id tail left ?_ ?_ hlo hhi _ ?_
          · simp [List.getElem?_append, hl1]
          · simp at hb ⊢; omega
          · simp [value_reader_cons_j3, AV.known, List.set_append, hl1, List.getElem?_append, Nat.add_assoc]
            exact Out.at (H2 := H.set id (vrB data tail (left - VT.nodesL vks))) (b := .agg [.int .i64 5, .int .i64 i, .sl (VT.css vks) .none]) rfl (by simp) (hs.set (vrB_sc _ _ _ _)) .rfl' rfl (by simp [AV.scV, AV.scA, AV.scB]) (by simpa [VT.cs] using hK)
  simp [value_reader_cons, VT.cs, Nat.add_assoc]
  refine value_reader_cons_loop2 (Inv := fun q t5 H' => ∃ i : Nat, i ≤ w.length ∧ q = w.length - i ∧ t5 = .int .i64 i ∧ H' = H ++ [.cells [.int .i64 5, .int .i64 n, .sl (VT.css ks) .none], .cells [.int .i64 0, .int .i64 0, .snil]]) w.length ?_ ?_
  · intro _; exact ⟨0, by omega, by omega, rfl, rfl⟩
  · rintro q t5 H' ⟨i, hi, rfl, rfl, rfl⟩ hsc hlen hsF Kb hKb
    by_cases hlt : i < w.length
    · have hgi := hnw _ (List.getElem_mem hlt)
      have h1 : (i : Int) < (w.length : Int) + ((mid.length : Int) + tail.length) := by omega
      have hget : (w ++ (mid ++ tail))[i]?.getD 0 = w[i] := by simp [List.getElem?_append_left hlt, hlt]
      simp [value_reader_cons_b2, h0, h1, show i < w.length + (mid.length + tail.length) by omega, hget, wrap_rune]
      rw [List.getElem_append_left hlt]
      refine ContainsRune_ok stopL w[i] (in_small hgi) _ _ ?_
      rw [in_stop hgi]
      simp
      rw [wrap_in (by omega) (by omega)]
      refine hKb _ _ ⟨w.length - (i + 1), by omega, Back.here (by simp) hsc ?_ ⟨_, rfl, i + 1, by omega, rfl, by simp, rfl⟩⟩
      simp [value_reader_cons_fr2, AV.sc, AV.scV, AV.scA, AV.scB]
      try omega
    · obtain rfl : i = w.length := by omega
      have hafter2 := hafter
      unfold vrB at hafter2
      cases hmt : mid ++ tail with
      | nil =>
        rw [hmt] at hafter2
        have h0' := fun J => h0 J
        rw [hmt] at h0'
        have hm0 : mid = [] ∧ tail = [] := List.append_eq_nil_iff.1 hmt
        obtain ⟨rfl, rfl⟩ := hm0
        simp [value_reader_cons_b2, h0', aSlice, aBound, AV.known, hset]
        simp [e1, hn1, Dat.cs, Nat.add_assoc, List.getElem?_append, hl1]
        simpa using hafter2
      | cons b t =>
        rw [hmt] at hafter2
        have h0' := fun J => h0 J
        rw [hmt] at h0'
        have hbs := hstop b (by rw [hmt]; rfl)
        have h1 : (w.length : Int) < (w.length : Int) + ((t.length : Int) + 1) := by omega
        have hb128 : b.toNat < 128 := by rcases hbs with rfl | rfl | rfl | rfl <;> decide
        have hidx : decide (0 ≤ Lib.indexByte stopL b) = true := by rcases hbs with rfl | rfl | rfl | rfl <;> decide
        simp [value_reader_cons_b2, h0', h1, aSlice, aBound, AV.known, hset, wrap_rune]
        refine ContainsRune_ok stopL b hb128 _ _ ?_
        rw [hidx]
        simp [h0', aSlice, aBound, AV.known, hset]
        simp [e1, hn1, Dat.cs, Nat.add_assoc, List.getElem?_append, hl1]
        simpa using hafter2
end Go.Proofs.YtfpmdpldabopjaaGreatDoor
