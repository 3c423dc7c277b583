/- Names of constructors: letters, and different. -/
import Derived.Test.YtfpmdpldabopjaaGreatDoorKCN
import Derived.Test.YtfpmdpldabopjaaGreatDoorKCa
import Derived.Test.YtfpmdpldabopjaaGreatDoorKGX
import Derived.Test.YtfpmdpldabopjaaGreatDoorKIFb
import Derived.Test.YtfpmdpldabopjaaGreatDoorKSA
import Derived.Test.YtfpmdpldabopjaaGreatDoorKIb
namespace Go.Proofs.YtfpmdpldabopjaaGreatDoor
open Go Go.Abs
set_option linter.unusedSimpArgs false
set_option linter.unusedVariables false
theorem toks_len (kw : List UInt8 → Bool) : ∀ (m : Nat) (r : List UInt8) (p : Nat) (l : List Tk), r.length ≤ m → toks kw r p = .ok l → ∀ t ∈ l, t.text.length ≤ r.length := by
  intro m
  induction m with
  | zero =>
    intro r p l hm h t ht
    have : r = [] := List.eq_nil_of_length_eq_zero (by omega)
    subst this
    unfold toks at h
    cases h
    simp at ht
    subst ht
    simp
  | succ m ih =>
    intro r p l hm h t ht
    unfold toks at h
    split at h
    · cases h
      simp at ht
      subst ht
      simp
    · rename_i b r'
      simp at hm
      split at h
      · have := ih r' _ l (by omega) h t ht
        simp; omega
      · split at h
        · have h1 := (List.dropWhile_sublist (p := (· != 10)) (l := r')).length_le
          have := ih _ _ l (by omega) h t ht
          simp; omega
        · split at h
          · cases h
          · rename_i k n hk
            split at h
            · cases h
            · rename_i l2 hl2
              cases h
              rcases List.mem_cons.1 ht with rfl | ht
              · simp [List.length_take]; omega
              · have := ih _ _ l2 (by simp; omega) hl2 t ht
                simp at this ⊢; omega
theorem toks_up {kw : List UInt8 → Bool} {s : List UInt8} {a e : Tk} (h : toks kw s 0 = .ok [a, e]) (hk : a.kind = 2) (ht : a.text = s) : s ≠ [] ∧ ∀ b ∈ s, bIn b = true := by
  unfold toks at h
  split at h
  · cases h
  · rename_i b r
    refine ⟨by simp, ?_⟩
    split at h
    · have := toks_len kw _ r _ _ (Nat.le_refl _) h a (by simp)
      rw [ht] at this
      simp only [List.length_cons] at this
      omega
    · split at h
      · have h1 := (List.dropWhile_sublist (p := (· != 10)) (l := r)).length_le
        have := toks_len kw _ _ _ _ (Nat.le_refl _) h a (by simp)
        rw [ht] at this
        simp at this
        omega
      · split at h
        · cases h
        · rename_i k n hkn
          split at h
          · cases h
          · rename_i l2 hl2
            injection h with h
            injection h with h1 h2
            subst h1
            simp only at hk ht
            subst hk
            unfold tok at hkn
            split at hkn
            · rename_i hb
              simp only at hkn
              split at hkn
              · cases hkn
              · simp only [Except.ok.injEq, Prod.mk.injEq] at hkn
                obtain ⟨hk2, rfl⟩ := hkn
                have hall : r.takeWhile bIn = r := by
                  have : ((b :: r).take ((r.takeWhile bIn).length + 1)).length = (b :: r).length := by rw [ht]
                  simp only [List.length_take, List.length_cons] at this
                  have hle := (List.takeWhile_prefix (p := bIn) (l := r)).length_le
                  exact (List.takeWhile_prefix (p := bIn) (l := r)).eq_of_length (by omega)
                have hbi : bIn b = true := by
                  unfold bIn
                  simp only [Bool.or_eq_true] at hb ⊢
                  rcases hb with hb | hb <;> simp [hb]
                intro x hx
                rcases List.mem_cons.1 hx with rfl | hx
                · exact hbi
                · rw [← hall] at hx
                  exact List.all_eq_true.1 List.all_takeWhile x hx
            · split at hkn
              · simp only at hkn
                split at hkn
                · cases hkn
                · split at hkn <;> simp at hkn
              · simp only at hkn
                split at hkn <;> simp at hkn
end Go.Proofs.YtfpmdpldabopjaaGreatDoor
namespace Go.Proofs.YtfpmdpldabopjaaGreatDoor
open Go Go.Abs
theorem upName_spec {s : List UInt8} (h : upName s = true) : s ≠ [] ∧ ∀ b ∈ s, bIn b = true := by
  unfold upName upOf splitL at h
  split at h
  · simp at h
  · split at h
    · simp at h
    · rename_i l hl
      simp only [Bool.and_eq_true] at h
      obtain ⟨_, h⟩ := h
      match l, hl, h with
      | [a, e], hl, h =>
        simp only [Bool.and_eq_true, beq_iff_eq] at h
        exact toks_up hl h.1 h.2
      | [], _, h => cases h
      | [_], _, h => cases h
      | _ :: _ :: _ :: _, _, h => cases h
theorem con_name {data : List Dat} (hD : dataOk data = true) {d c : Nat} (hd : d < data.length) (hc : c < (data[d]).cons.length) : ((data[d]).cons[c]).name ≠ [] ∧ ∀ b ∈ ((data[d]).cons[c]).name, bIn b = true := by
  simp only [dataOk, Bool.and_eq_true, datsOk_iff, Nat.zero_add] at hD
  have h1 := hD.1.1.2 d hd
  simp only [datOk, Bool.and_eq_true] at h1
  have h2 := List.all_eq_true.1 h1.2 _ (List.getElem_mem hc)
  simp only [conOk, Bool.and_eq_true] at h2
  exact upName_spec h2.1
theorem sub_names {D : Dat} : ∀ (data : List Dat), D ∈ data → (D.cons.map Con.name).Sublist (cnames data)
  | E :: data, h => by
    unfold cnames
    rw [List.flatMap_cons]
    rcases List.mem_cons.1 h with rfl | h
    · exact List.sublist_append_left _ _
    · exact (sub_names data h).trans (List.sublist_append_right _ _)
theorem con_diff {data : List Dat} (hD : dataOk data = true) {d c c' : Nat} (hd : d < data.length) (hc : c < (data[d]).cons.length) (hlt : c' < c) : ((data[d]).cons[c']'(by omega)).name ≠ ((data[d]).cons[c]).name := by
  simp only [dataOk, Bool.and_eq_true] at hD
  have h1 := hD.2
  simp only [repeats, Bool.not_not, decide_eq_true_eq] at h1
  have h2 : ((data[d]).cons.map Con.name).Nodup := by
    exact List.Nodup.sublist (sub_names _ (List.getElem_mem hd)) h1
  have := (List.pairwise_iff_getElem.1 h2) c' c (by simp; omega) (by simpa using hc) hlt
  simpa using this
end Go.Proofs.YtfpmdpldabopjaaGreatDoor
namespace Go.Proofs.YtfpmdpldabopjaaGreatDoor
open Go Go.Abs
set_option linter.unusedSimpArgs false
set_option linter.unusedVariables false
set_option maxRecDepth 8000
theorem HasPrefix_spec (s p : List UInt8) (hs : s.length ≤ 1000000000) (hp : p.length ≤ 1000000000) (H : Heap) (K : Kt) (hK : K (.bool (decide (p <+: s))) H) : ACalls Tryz.prog n_zq240 [.str s, .str p] H K := by
  refine zq240_ok fun hsc => ?_
  by_cases hl : p.length ≤ s.length
  · have hl' : (p.length : Int) ≤ s.length := by omega
    have e : (s.take p.length == p) = decide (p <+: s) := by
      rw [Bool.eq_iff_iff, beq_iff_eq, decide_eq_true_iff]
      constructor
      · intro h
        have h2 := List.take_append_drop p.length s
        rw [h] at h2
        exact ⟨_, h2⟩
      · rintro ⟨t, ht⟩
        rw [← ht]; simp
    simp [zq240, hl, hl', aSlice, aBound, e]
    exact hK
  · have hl' : ¬ (p.length : Int) ≤ s.length := by omega
    have e : decide (p <+: s) = false := by
      rw [decide_eq_false_iff_not]
      intro h
      exact hl h.length_le
    rw [e] at hK
    simp [zq240, hl, hl']
    exact hK
theorem CutPrefix_yes (p t : List UInt8) (hs : (p ++ t).length ≤ 1000000000) (H : Heap) (K : Kt) (hK : K (.tup [.str t, .bool true]) H) : ACalls Tryz.prog n_zq168 [.str (p ++ t), .str p] H K := by
  refine zq168_ok fun hsc => ?_
  simp only [List.length_append] at hs
  simp [zq168]
  refine zq213_ok fun hsc => ?_
  simp [zq213]
  refine HasPrefix_spec _ _ (by simp; omega) (by omega) _ _ ?_
  have e : decide (p <+: (p ++ t)) = true := by simp
  rw [e]
  have e2 : List.drop p.length (List.take (p.length + t.length) (p ++ t)) = t := by rw [List.take_of_length_le (by simp)]; simp
  simp [aSlice, aBound, e2, AV.isV]
  exact hK
theorem CutPrefix_no (p s : List UInt8) (hs : s.length ≤ 1000000000) (hp : p.length ≤ 1000000000) (hn : ¬ p <+: s) (H : Heap) (K : Kt) (hK : K (.tup [.str s, .bool false]) H) : ACalls Tryz.prog n_zq168 [.str s, .str p] H K := by
  refine zq168_ok fun hsc => ?_
  simp [zq168]
  refine zq213_ok fun hsc => ?_
  simp [zq213]
  refine HasPrefix_spec _ _ hs hp _ _ ?_
  simp [hn, AV.isV]
  exact hK
def rdB (data : List Dat) (s : List UInt8) : AB := .cells [.sl (data.map Dat.cs) .none, .str s, .bool false]
theorem take_yes {data : List Dat} (p t : List UInt8) (hs : (p ++ t).length ≤ 1000000000) {H : Heap} {id : Nat} (hid : H[id]? = some (rdB data (p ++ t))) (K : Kt) (hK : K (.bool true) (H.set id (rdB data t))) : ACalls Tryz.prog n_zq118 [.ptr id 0, .str p] H K := by
  refine zq118_ok fun hsc => ?_
  have h0 : H[id]? = some (.cells [.sl (data.map Dat.cs) .none, .str (p ++ t), .bool false]) := hid
  simp [zq118, h0]
  refine CutPrefix_yes p t hs _ _ ?_
  simp [h0, AV.known, zq118_j1]
  exact hK
theorem take_no {data : List Dat} (p s : List UInt8) (hs : s.length ≤ 1000000000) (hp : p.length ≤ 1000000000) (hn : ¬ p <+: s) {H : Heap} {id : Nat} (hid : H[id]? = some (rdB data s)) (K : Kt) (hK : K (.bool false) H) : ACalls Tryz.prog n_zq118 [.ptr id 0, .str p] H K := by
  refine zq118_ok fun hsc => ?_
  have h0 : H[id]? = some (.cells [.sl (data.map Dat.cs) .none, .str s, .bool false]) := hid
  simp [zq118, h0]
  refine CutPrefix_no p s hs hp hn _ _ ?_
  simp [zq118_j1]
  exact hK
theorem need_yes {data : List Dat} (p t : List UInt8) (hs : (p ++ t).length ≤ 1000000000) {H : Heap} {id : Nat} (hid : H[id]? = some (rdB data (p ++ t))) (K : Kt) (hK : K (.tup []) (H.set id (rdB data t))) : ACalls Tryz.prog n_zq117 [.ptr id 0, .str p] H K := by
  refine zq117_ok fun hsc => ?_
  simp [zq117]
  refine take_yes p t hs hid _ ?_
  simp
  exact hK
theorem digit_spec (b : UInt8) (H : Heap) (K : Kt) (hK : K (.bool (bDig b)) H) : ACalls Tryz.prog n_zq116 [.int .u8 b.toNat] H K := by
  refine ACalls.out (zq116_ok fun hs => ?_)
  have hO := outHere (K := K) (H := H) (r := .bool (bDig b)) hs rfl rfl hK
  unfold bDig at hO
  cases h1 : decide (48 ≤ (b.toNat : Int)) <;> simp [zq116, h1] <;> simpa [h1] using hO
theorem letter_spec (b : UInt8) (H : Heap) (K : Kt) (hK : K (.bool (bIn b)) H) : ACalls Tryz.prog n_zq169 [.int .u8 b.toNat] H K := by
  refine ACalls.out (zq169_ok fun hs => ?_)
  have hO := outHere (K := K) (H := H) (r := .bool (bIn b)) hs rfl rfl hK
  have e1 : ((b.toNat : Int) == 95) = (b == 95) := u8_eq b 95
  unfold bIn bLow bUp at hO
  cases h1 : decide (97 ≤ (b.toNat : Int)) <;> cases h2 : decide ((b.toNat : Int) ≤ 122) <;> cases h3 : decide (65 ≤ (b.toNat : Int)) <;> cases h4 : decide ((b.toNat : Int) ≤ 90) <;> cases h5 : (b == 95) <;>
    simp [zq169, e1, h1, h2, h3, h4, h5] <;> simp [h1, h2, h3, h4, h5] at hO <;> first | exact hO | (refine digit_spec b _ _ ?_; first | exact hO | (simp; exact hO)) | (refine digit_spec b _ _ ?_; cases hdg : bDig b <;> simp [hdg] at hO ⊢ <;> exact hO)
theorem callDigit : callable Tryz.prog n_zq116 = true := by kernel_rfl
theorem callLetter : callable Tryz.prog n_zq169 = true := by kernel_rfl
def rdF (data : List Dat) (s : List UInt8) (fl : Bool) : AB := .cells [.sl (data.map Dat.cs) .none, .str s, .bool fl]
theorem word_gen {data : List Dat} {fl : Bool} (f : Nat) (g : UInt8 → Bool) (hcall : callable Tryz.prog f = true) (hf : ∀ (b : UInt8) (H : Heap) (K : Kt), K (.bool (g b)) H → ACalls Tryz.prog f [.int .u8 b.toNat] H K)
    (w t : List UInt8) (hw : ∀ b ∈ w, g b = true) (ht : ∀ b, t.head? = some b → g b = false) (hl : (w ++ t).length ≤ 1000000000) {H : Heap} {id : Nat} (hid : H[id]? = some (rdF data (w ++ t) fl)) (K : Kt) (hK : K (.str w) (H.set id (rdF data t fl))) :
    ACalls Tryz.prog n_zq115 [.ptr id 0, .fn f []] H K := by
  refine ACalls.out (zq115_ok fun hs => ?_)
  have h0 : H[id]? = some (.cells [.sl (data.map Dat.cs) .none, .str (w ++ t), .bool fl]) := hid
  simp only [List.length_append] at hl
  have hlt0 := lt_get hid
  simp [zq115]
  refine zq115_loop2 (Inv := fun q t5 H' => ∃ i : Nat, i ≤ w.length ∧ q = w.length - i ∧ t5 = .int .i64 i ∧ H' = H) w.length ?_ ?_
  · intro _; exact ⟨0, by omega, by omega, rfl, rfl⟩
  · rintro q t5 H' ⟨i, hi, rfl, rfl, rfl⟩ hsc hlen hsF Kb hKb
    by_cases hlt : i < w.length
    · have hgi := hw _ (List.getElem_mem hlt)
      have h1 : (i : Int) < (w.length : Int) + t.length := by omega
      have h2 : (w ++ t)[i]?.getD 0 = w[i] := by simp [List.getElem?_append_left hlt, hlt]
      simp [zq115_b2, h0, h1, show i < w.length + t.length by omega, h2, List.getElem?_append_left hlt, hlt]
      simp only [aCallV, hcall]
      refine hf _ _ _ ?_
      rw [hgi]
      simp
      rw [wrap_in (by omega) (by omega)]
      refine hKb _ _ ⟨w.length - (i + 1), by omega, Back.here (by simp) hsc ?_ ⟨_, rfl, i + 1, by omega, rfl, by simp, rfl⟩⟩
      simp [zq115_fr2, AV.sc, AV.scV, AV.scA, AV.scB]
      try omega
    · obtain rfl : i = w.length := by omega
      have fin : ∀ X, X = H'.set id (rdF data t fl) → Out H'.length K (.str w) X := fun X hX => by
        subst hX
        exact Out.at (J := []) (by simp) (by simp) (hs.set (by simp [rdF, AB.sc, AV.scA, AV.scB])) .rfl' rfl rfl hK
      cases t with
      | nil =>
        simp [zq115_b2, h0, aSlice, aBound, AV.known]
        exact fin _ (by simp [rdF])
      | cons b t =>
        have hgb := ht b rfl
        have h1 : (w.length : Int) < (w.length : Int) + ((t.length : Int) + 1) := by omega
        simp [zq115_b2, h0, h1, aSlice, aBound, AV.known]
        first
          | (simp only [aCallV, hcall]
             refine hf _ _ _ ?_
             rw [hgb]
             simp [h0, aSlice, aBound, AV.known]
             exact fin _ (by simp [rdF]))
          | (refine ⟨by omega, ?_⟩
             simp only [aCallV, hcall]
             refine hf _ _ _ ?_
             rw [hgb]
             simp [h0, aSlice, aBound, AV.known]
             exact fin _ (by simp [rdF]))
theorem word_spec {data : List Dat} (f : Nat) (g : UInt8 → Bool) (hcall : callable Tryz.prog f = true) (hf : ∀ (b : UInt8) (H : Heap) (K : Kt), K (.bool (g b)) H → ACalls Tryz.prog f [.int .u8 b.toNat] H K)
    (w t : List UInt8) (hw : ∀ b ∈ w, g b = true) (ht : ∀ b, t.head? = some b → g b = false) (hl : (w ++ t).length ≤ 1000000000) {H : Heap} {id : Nat} (hid : H[id]? = some (rdB data (w ++ t))) (K : Kt) (hK : K (.str w) (H.set id (rdB data t))) :
    ACalls Tryz.prog n_zq115 [.ptr id 0, .fn f []] H K := word_gen (fl := false) f g hcall hf w t hw ht hl hid K hK
end Go.Proofs.YtfpmdpldabopjaaGreatDoor
namespace Go.Proofs.YtfpmdpldabopjaaGreatDoor
open Go Go.Abs
set_option linter.unusedSimpArgs false
set_option linter.unusedVariables false
set_option maxRecDepth 8000
def StopB (tail : List UInt8) : Prop := ∀ b, tail.head? = some b → bIn b = false
def RdOk (data : List Dat) (v : IT) : Prop := ∀ t : VT, t.nodes ≤ 1000 → 0 ≤ rdV data v t → ∀ (H : Heap) (id : Nat) (tail : List UInt8), H[id]? = some (rdB data (fmtV data v t ++ tail)) → (fmtV data v t ++ tail).length ≤ 1000000000 → StopB tail →
  ∀ K : Kt, K (.agg v.cs) (H.set id (rdB data tail)) → ACalls Tryz.prog n_zq69 [.ptr id 0, .agg t.cs] H K
theorem icss_take_succ {l : List IT} {i : Nat} (h : i < l.length) : IT.css (l.take (i + 1)) = IT.css (l.take i) ++ [(l[i]).cs] := by
  rw [IT.css_map, IT.css_map, List.take_succ_eq_append_getElem h, List.map_append]
  rfl
theorem buildS_it {v : IT} {k : AV → Prop} : aBuildS 2 [.int .i64 0, .snil] 1 [(0, .agg v.cs)] k = k (.sl [v.cs] .full) := by
  cases v
  exact propext Iff.rfl
theorem rdB_sc (data : List Dat) (s : List UInt8) (n : Nat) : (rdB data s).sc n = true := by simp [rdB, AB.sc, AV.scA, AV.scB]
theorem index_row_spec {data : List Dat} (vs : List IT) (hv : vs.length ≤ 1000) (hel : ∀ v ∈ vs, RdOk data v) (ts : List VT) (hlen : ts.length = vs.length) (ht : ∀ t ∈ ts, t.nodes ≤ 1000) {a0 : Int} (hok : 0 ≤ rdA data vs ts a0)
    (H : Heap) (id : Nat) (tail : List UInt8) (hid : H[id]? = some (rdB data ([40] ++ fmtA data vs ts true ++ [41] ++ tail))) (hb : ([40] ++ fmtA data vs ts true ++ [41] ++ tail).length ≤ 1000000000) (K : Kt) (hK : K (.sl (IT.css vs) .none) (H.set id (rdB data tail))) :
    ACalls Tryz.prog n_zq113 [.ptr id 0, .sl (VT.css ts) .none] H K := by
  refine ACalls.out (zq113_ok fun hs => ?_)
  have hl1 := lt_get hid
  simp only [List.length_append, List.length_cons, List.length_nil] at hb
  simp [zq113]
  refine need_yes [40] (fmtA data vs ts true ++ ([41] ++ tail)) (by simp; omega) (by simpa using hid) _ ?_
  simp
  unfold zq113_l4
  refine ALoop.own 5 e_api_Index 2 rfl ?_
  have hl2 : (H.set id (rdB data (fmtA data vs ts true ++ 41 :: tail))).length = H.length := by simp
  rw [hl2]
  show zq113_l4 (.ptr id 0) (.sl [] (.own H.length)) (.sl (VT.css ts) .none) (.int .i64 ts.length) (.int .i64 0) _ (Out H.length K)
  have hO : ∀ X J, X = H.set id (rdB data tail) ++ J → Out H.length K (.sl (IT.css vs) (.own H.length)) X := fun X J h2 => by
    subst h2
    exact Out.at rfl (by simp) (hs.set (rdB_sc _ _ _)) (slV (n := 0)).1 rfl rfl hK
  refine zq113_loop4 (Inv := fun q t5 t12 H' => ∃ (i : Nat), i ≤ ts.length ∧ q = ts.length - i ∧ t12 = .int .i64 i ∧ t5 = .sl (IT.css (vs.take i)) (.own H.length) ∧ (fmtA data (vs.drop i) (ts.drop i) (i == 0)).length ≤ (fmtA data vs ts true).length ∧
    H' = H.set id (rdB data (fmtA data (vs.drop i) (ts.drop i) (i == 0) ++ ([41] ++ tail))) ++ [.perm e_api_Index 2 i]) ts.length ?_ ?_
  · intro _; exact ⟨0, by omega, by omega, rfl, by simp [IT.css], by simp, by simp⟩
  · rintro q t5 t12 H' ⟨i, hi, rfl, rfl, rfl, hdl, rfl⟩ hsc' hlen' hsF Kb hKb
    have hcl : (IT.css (vs.take i)).length = i := by rw [IT.css_map]; simp; omega
    by_cases hlt : i < ts.length
    · have hltv : i < vs.length := by omega
      obtain ⟨_, hri⟩ := rdA_el hok i hltv
      have hti := ht _ (List.getElem_mem hlt)
      have hvi := hel _ (List.getElem_mem hltv)
      obtain ⟨x, y, z, hvx, hx, hy, hz⟩ := vt3' ts[i]
      rw [List.drop_eq_getElem_cons hlt, List.drop_eq_getElem_cons hltv] at hdl ⊢
      simp only [fmtA, List.length_append] at hdl ⊢
      have hnext : ∀ X : Heap, X[id]? = some (rdB data (fmtV data vs[i] ts[i] ++ (fmtA data (vs.drop (i + 1)) (ts.drop (i + 1)) false ++ ([41] ++ tail)))) → X[H.length + 1]? = some (.cells [x, y, z]) → (∀ s', X.set id (rdB data s') = H.set id (rdB data s') ++ [.perm e_api_Index 2 i, .cells [x, y, z]]) →
          zq113_j1 (.ptr id 0) (.sl (IT.css (vs.take i)) (.own H.length)) (.ptr (H.length + 1) 0) (.sl (VT.css ts) .none) (.int .i64 ts.length) (.int .i64 i) X (Out H.length K) Kb := by
        intro X hX hX1 hXs
        have hX' : X[id]? = some (.cells [.sl (data.map Dat.cs) .none, .str (fmtV data vs[i] ts[i] ++ (fmtA data (vs.drop (i + 1)) (ts.drop (i + 1)) false ++ ([41] ++ tail))), .bool false]) := hX
        simp [zq113_j1, hX', hX1]
        rw [← hvx]
        refine hvi ts[i] hti hri _ id (fmtA data (vs.drop (i + 1)) (ts.drop (i + 1)) false ++ ([41] ++ tail)) hX (by simp; omega) ?_ _ ?_
        · intro b hb
          cases hvd : vs.drop (i + 1) with
          | nil => rw [hvd] at hb; simp [fmtA] at hb; subst hb; decide
          | cons v vs' =>
            cases htd : ts.drop (i + 1) with
            | nil => rw [hvd, htd] at hb; simp [fmtA] at hb; subst hb; decide
            | cons t ts' => rw [hvd, htd] at hb; simp [fmtA] at hb; subst hb; decide
        · rw [buildS_it, hXs]
          have hc2 : (vs[i]).cs.length = 2 := by obtain ⟨n, ks⟩ := vs[i]; rfl
          simp [aAppend, aSrc, aAppTo, hcl, hc2, List.set_append_right, List.set_append]
          refine ⟨by omega, ?_⟩
          rw [wrap_in (by omega) (by omega)]
          refine hKb _ _ ⟨ts.length - (i + 1), by omega, Back.at (J := [.cells [x, y, z]]) (H2 := H.set id (rdB data (fmtA data (vs.drop (i + 1)) (ts.drop (i + 1)) false ++ ([41] ++ tail))) ++ [.perm e_api_Index 2 (i + 1)]) (by simp) (by simp) ((hs.set (rdB_sc _ _ _)).append (by simp [AB.sc, AV.scA, AV.scB])) ?_ ⟨_, _, rfl, i + 1, by omega, rfl, by simp, by rw [icss_take_succ hltv], by simp; omega, by simp⟩⟩
          simp [zq113_fr4, AV.sc, AV.scV, AV.scA, AV.scB]
          try omega
      by_cases h0 : i = 0
      · subst h0
        simp [zq113_b4, hlt, hvx, hx, hy, hz]
        refine hnext _ ?_ ?_ ?_
        · simp [List.getElem?_append, hl1]
        · simp [List.getElem?_append]
        · intro s'; simp [List.set_append, hl1]
      · have hp : (0 : Int) < i := by omega
        have hz0 : (i == 0) = false := by simpa using h0
        rw [hz0] at hdl ⊢
        simp [zq113_b4, hlt, hvx, hx, hy, hz, hp, show 0 < i by omega]
        refine need_yes (data := data) [44, 32] (fmtV data vs[i] ts[i] ++ (fmtA data (vs.drop (i + 1)) (ts.drop (i + 1)) false ++ ([41] ++ tail))) ?_ ?_ _ ?_
        · simp at hdl ⊢; omega
        · simp [List.getElem?_append, hl1]
        · refine hnext _ ?_ ?_ ?_
          · simp [List.getElem?_append, hl1]
          · simp [List.getElem?_append, hl1]
          · intro s'; simp [List.set_append, hl1]
    · obtain rfl : i = ts.length := by omega
      have e1 : vs.drop ts.length = [] := by rw [hlen]; exact List.drop_length
      have e2 : vs.take ts.length = vs := by rw [hlen]; exact List.take_length
      rw [e1, e2]
      simp [zq113_b4, fmtA]
      refine need_yes (data := data) [41] tail (by simp; omega) (by simp [List.getElem?_append, hl1]) _ ?_
      refine hO _ [.perm e_api_Index 2 ts.length] ?_
      simp [List.set_append, hl1]
end Go.Proofs.YtfpmdpldabopjaaGreatDoor
namespace Go.Proofs.YtfpmdpldabopjaaGreatDoor
open Go Go.Abs
set_option linter.unusedSimpArgs false
set_option linter.unusedVariables false
set_option maxRecDepth 8000
theorem index_element_spec {data : List Dat} (hk : KData data) (hD : dataOk data = true) (tn : Int) (tks : List VT) (ht : (VT.mk 5 tn tks).nodes ≤ 1000) (c : Int) (es : List IT) (hes : es.length ≤ 1000) (hel : ∀ v ∈ es, RdOk data v) (ps : List VT)
    (hp : payT data (.mk 5 tn tks) c = some ps) (hpl : ps.length = es.length) (hra : 0 ≤ rdA data es ps 0)
    (H : Heap) (id : Nat) (tail : List UInt8) (hid : H[id]? = some (rdB data (conName data (.mk 5 tn tks) c ++ ((if es.length = 0 then [] else [40] ++ fmtA data es ps true ++ [41]) ++ tail))))
    (hb : (conName data (.mk 5 tn tks) c ++ ((if es.length = 0 then [] else [40] ++ fmtA data es ps true ++ [41]) ++ tail)).length ≤ 1000000000) (hst : StopB tail) (K : Kt) (hK : K (.agg (IT.mk c es).cs) (H.set id (rdB data tail))) :
    ACalls Tryz.prog n_zq119 [.ptr id 0, .agg (VT.mk 5 tn tks).cs] H K := by
  refine ACalls.out (zq119_ok fun hs => ?_)
  have hl1 := lt_get hid
  obtain ⟨_, n0, c0, hn1, hc1, hnm⟩ := payT_con hp
  obtain ⟨tn, rfl⟩ : ∃ x : Nat, tn = x := ⟨tn.toNat, by omega⟩
  obtain ⟨c, rfl⟩ : ∃ x : Nat, c = x := ⟨c.toNat, by omega⟩
  simp only [Int.toNat_natCast] at hn1 hc1 hnm
  have hT' : (VT.mk 5 (tn : Int) tks).cs = [.int .i64 5, .int .i64 tn, .sl (VT.css tks) .none] := rfl
  have e1 : (data.map Dat.cs)[tn]? = some (data[tn]).cs := by simp [hn1]
  have hcl := (kd_fields hk).2.2 _ (List.getElem_mem hn1)
  rw [hnm] at hid hb
  have hnw := (con_name hD hn1 hc1).2
  generalize hmid : (if es.length = 0 then [] else [40] ++ fmtA data es ps true ++ [41]) = mid at *
  have hstop : ∀ b, (mid ++ tail).head? = some b → bIn b = false := by
    intro b hb
    by_cases hz : es.length = 0
    · rw [if_pos hz] at hmid; subst hmid; exact hst b (by simpa using hb)
    · rw [if_neg hz] at hmid; subst hmid; simp at hb; subst hb; decide
  have hwI : ∀ X : Heap, id < X.length → True := fun _ _ => trivial
  simp [zq119, VT.cs, Nat.add_assoc]
  refine word_spec (data := data) n_zq169 bIn callLetter letter_spec ((data[tn]).cons[c]).name (mid ++ tail) hnw hstop hb (by rw [List.getElem?_append_left hl1]; exact hid) _ ?_
  simp only [List.length_append] at hb
  have hX0 : ∀ J : Heap, (H.set id (rdB data (mid ++ tail)) ++ J)[id]? = some (.cells [.sl (data.map Dat.cs) .none, .str (mid ++ tail), .bool false]) := fun J => by simp [List.getElem?_append, hl1, rdB]
  have hset : ∀ b J, (H ++ J).set id b = H.set id b ++ J := fun b J => List.set_append_left _ _ hl1
  rw [hset]
  simp [hX0, e1, hn1, Dat.cs, Nat.add_assoc, List.getElem?_append]
  have hsc0 : HSc (H.set id (rdB data (mid ++ tail)) ++ [.cells [.int .i64 5, .int .i64 tn, .sl (VT.css tks) .none], .cells [.int .i64 0, .snil]]) := (hs.set (rdB_sc _ _ _)).append (by simp [AB.sc, AV.scA, AV.scB])
  refine zq119_loop3 (Inv := fun q t23 H' => ∃ (i : Nat), i ≤ c ∧ q = c - i ∧ t23 = .int .i64 i ∧
    H' = H.set id (rdB data (mid ++ tail)) ++ [.cells [.int .i64 5, .int .i64 tn, .sl (VT.css tks) .none], .cells [.int .i64 0, .snil]]) c ?_ ?_
  · intro _; exact ⟨0, by omega, by omega, rfl, rfl⟩
  · rintro q t23 H' ⟨i, hi, rfl, rfl, rfl⟩ hsc' hlen' hsF Kb hKb
    have hlt : i < (data[tn]).cons.length := by omega
    by_cases hic : i < c
    · have hdf := con_diff hD hn1 hc1 hic
      have hdf' : (((data[tn]).cons[i]).name == ((data[tn]).cons[c]).name) = false := by simpa using hdf
      simp [zq119_b3, hlt, Con.cs, hdf']
      rw [wrap_in (by omega) (by omega)]
      refine hKb _ _ ⟨c - (i + 1), by omega, Back.at (J := [.cells [.str ((data[tn]).cons[i]).name, .sl (VT.css ((data[tn]).cons[i]).args) .none]]) (H2 := H.set id (rdB data (mid ++ tail)) ++ [.cells [.int .i64 5, .int .i64 tn, .sl (VT.css tks) .none], .cells [.int .i64 0, .snil]]) (by simp) (by simp) hsc0 ?_ ⟨_, rfl, i + 1, by omega, rfl, by simp, rfl⟩⟩
      simp [zq119_fr3, AV.sc, AV.scV, AV.scA, AV.scB]
      try omega
    · obtain rfl : i = c := by omega
      simp [zq119_b3, hlt, Con.cs, hX0]
      rw [← hT']
      refine aPureX_call (fieldsR (payT data (.mk 5 tn tks) i)) (fun J => zq107_spec data hk (.mk 5 tn tks) ht i _ _ ⟨rfl, rfl⟩) ?_
      rw [hp]
      simp [fieldsR, hT']
      by_cases hz : es.length = 0
      · have : ¬ 0 < ps.length := by omega
        rw [if_pos hz] at hmid
        subst hmid
        obtain rfl : es = [] := List.eq_nil_of_length_eq_zero hz
        simp [this, aBuild, fillA, zq119_j3, AV.known, List.set_append, List.getElem?_append]
        exact Out.at (H2 := H.set id (rdB data tail)) (b := .agg [.int .i64 i, .sl (IT.css []) .none]) rfl (by simp) (hs.set (rdB_sc _ _ _)) (.agg ⟨.refl _, .snil, trivial⟩) rfl (by simp [AV.scV, AV.scA, AV.scB]) (by simpa [IT.cs] using hK)
      · have : 0 < ps.length := by omega
        rw [if_neg hz] at hmid
        subst hmid
        simp [this, aBuild, fillA, AV.known, List.set_append, List.getElem?_append]
        refine index_row_spec es hes hel ps hpl (payT_nodes hp) hra _ id tail ?_ ?_ _ ?_
        · simp [List.getElem?_append, hl1]
        · simp at hb ⊢; omega
        · simp [zq119_j3, AV.known, List.set_append, hl1, List.getElem?_append, Nat.add_assoc]
          exact Out.at (H2 := H.set id (rdB data tail)) (b := .agg [.int .i64 i, .sl (IT.css es) .none]) rfl (by simp) (hs.set (rdB_sc _ _ _)) .rfl' rfl (by simp [AV.scV, AV.scA, AV.scB]) (by simpa [IT.cs] using hK)
end Go.Proofs.YtfpmdpldabopjaaGreatDoor
