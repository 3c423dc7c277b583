/- ValueTypes: awake, and the law. -/
import Derived.Test.YtfpmdpldabopjaaGreatDoorKBa
import Derived.Test.YtfpmdpldabopjaaGreatDoorKVb
namespace Go.Proofs.YtfpmdpldabopjaaGreatDoor
open Go Go.Abs
set_option linter.unusedSimpArgs false
set_option linter.unusedVariables false
set_option maxRecDepth 8000
theorem kdata_nil : KData [] := by
  refine ⟨by simp, fun D hD => by simp at hD⟩
def v37 : AV := .agg [.int .i64 3, .int .i64 7, .snil]
def t10 : AV := .agg [.int .i64 1, .int .i64 0, .snil]
theorem HasType_37 (H : Heap) (K : Kt) (hK : K (.bool true) H) : ACalls Tryz.prog n_value_HasType [.snil, v37, t10] H K := by
  refine ACalls.wk (args' := [.sl (([] : List Dat).map Dat.cs) .none, .agg (VT.mk 3 7 []).cs, .agg (VT.mk 1 0 []).cs]) ?_ ⟨.atom .snil, .agg ⟨.refl _, .refl _, .snil, trivial⟩, .agg ⟨.refl _, .refl _, .snil, trivial⟩, trivial⟩
  refine value_HasType_spec [] kdata_nil _ _ (by decide) (by decide) _ _ ?_
  have : hasT [] (.mk 3 7 []) (.mk 1 0 []) = true := by decide
  rw [this]
  exact hK
theorem Format_37 (H : Heap) (K : Kt) (hK : K (.str [55]) H) : ACalls Tryz.prog n_value_Format [.snil, v37, t10] H K := by
  refine ACalls.out (value_Format_ok fun hs => ?_)
  simp [value_Format, v37, t10, Nat.add_assoc]
  refine HasType_37 _ _ ?_
  simp [aNewB, Nat.add_assoc]
  refine value_write_ok fun hs2 => ?_
  simp [value_write, Nat.add_assoc]
  refine FormatInt_spec 7 (by omega) _ _ ?_
  refine ACalls.ownB (id := H.length + 2) (t := 73) (p := .nilp) 5 1 (by simp) ?_
  refine WriteString_spec (id2 := H.length + 5) (l := []) (.inl rfl) (by simp [bcs]) (by simp) (by simp [small]) ?_
  have e7 : small 7 = [55] := by decide
  have e1 : ∀ F : AV → Heap → Prop, ∀ X, value_write_j1 X F = F (.tup []) X := fun F X => by simp [value_write_j1, aRet]
  rw [e1, e7]
  refine String_spec (id2 := H.length + 5) (l := [55]) (p := .ptr (H.length + 2) 0) ?_ ?_ ?_
  · simp
  · simp
  · exact Out.at (H2 := H) (J := [.cells [.int .i64 3, .int .i64 7, .snil], .cells [.int .i64 1, .int .i64 0, .snil], .bld 73 [.ptr (H.length + 2) 0, .sl (bcs [55]) (.own (H.length + 5))], .cells [.int .i64 3, .int .i64 7, .snil], .cells [.int .i64 1, .int .i64 0, .snil], .dead]) (by simp [List.set_append_right]) (Nat.le_refl _) hs .rfl' rfl rfl hK
theorem awake_spec (H : Heap) (K : Kt) (hK : K (.bool true) H) : ACalls Tryz.prog n_law10_awake [] H K := by
  refine ACalls.out (law10_awake_ok fun hs => ?_)
  simp [law10_awake, aBuild, fillA, Nat.add_assoc]
  refine HasType_37 _ _ ?_
  simp [Nat.add_assoc]
  refine Format_37 _ _ ?_
  simp
  exact Out.bool rfl (Nat.le_refl _) hs hK
theorem ValueTypes_spec (data : List Dat) (hlen : data.length ≤ 9223372036854775807) (v t : VT) (H : Heap) (K : Kt) (hK : K (.bool true) H) :
    ACalls Tryz.prog n_law10_ValueTypes [.sl (data.map Dat.cs) .none, .agg v.cs, .agg t.cs] H K := by
  refine ACalls.out (law10_ValueTypes_ok fun hs => ?_)
  have hO : ∀ J, Out H.length K (.bool true) (H ++ J) := fun J => Out.bool rfl (Nat.le_refl _) hs hK
  obtain ⟨x, y, z, hvx, hx, hy, hz⟩ := vt3' v
  obtain ⟨x2, y2, z2, hvx2, hx2, hy2, hz2⟩ := vt3' t
  simp [law10_ValueTypes, hvx, hvx2, Nat.add_assoc]
  refine keep_Data_spec data _ _ hlen fun b1 hb1 => ?_
  cases b1 with
  | false =>
    simp
    exact hO _
  | true =>
    simp [Nat.add_assoc]
    rw [← hvx]
    refine keep_Value_spec v _ _ fun b2 hb2 => ?_
    cases b2 with
    | false =>
      simp
      exact hO _
    | true =>
      simp [Nat.add_assoc]
      rw [← hvx2]
      refine keep_Type_spec t _ _ fun b3 hb3 => ?_
      cases b3 with
      | false =>
        simp
        exact hO _
      | true =>
        have hk := hb1 rfl
        have hv := hb2 rfl
        have ht := hb3 rfl
        simp [Nat.add_assoc]
        refine aPureX_call (.bool (hasT data v t)) (fun J => ?_) ?_
        · refine value_HasType_spec data hk v t (by omega) (by omega) _ _ ⟨rfl, rfl⟩
        · refine aPureX_call (.bool (hasT data v t)) (fun J => ?_) ?_
          · refine ref10_HasType_spec data hk v t (by omega) (by omega) _ _ ⟨rfl, rfl⟩
          · simp
            refine aPureX_call (.bool true) (fun J => ?_) ?_
            · exact awake_spec _ _ ⟨rfl, rfl⟩
            · exact hO _
end Go.Proofs.YtfpmdpldabopjaaGreatDoor
