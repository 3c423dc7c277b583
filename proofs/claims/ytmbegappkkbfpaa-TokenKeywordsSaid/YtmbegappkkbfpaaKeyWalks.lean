/- TokenKeywords: the walks: Keyword of the program and of the reference both report membership in one list of words. No condition. -/
import Derived.Test.YtmbegappkkbfpaaProg
import Derived.WalkKit
import Derived.WalkLawsBesides
import Derived.WalkSpells
import Derived.Lib.Hide
namespace Go.Proofs.Ytmbegappkkbfpaa
open Go.RowKit
def kwords : List (List UInt8) := [[97, 114, 114, 97, 121],[98, 111, 111, 108],[99, 97, 116, 99, 104],[100, 97, 116, 97],[101, 108, 115, 101],[101, 110, 100],[102, 97, 108, 115, 101],[102, 110],[102, 117, 110],[103, 101, 116],[105, 102],[105, 110],[105, 110, 116],[108, 101, 110],[108, 101, 116],[109, 97, 116, 99, 104],[110, 101, 119],[114, 97, 105, 115, 101],[114, 101, 97, 100],[114, 101, 102],[115, 101, 116],[116, 104, 101, 110],[116, 105, 99, 107],[116, 114, 117, 101],[116, 114, 121],[117, 110, 105, 116],[119, 105, 116, 104],[119, 114, 105, 116, 101]]
def kwcells : Array Value := (kwords.map fun l => Value.string ⟨l.toArray⟩).toArray
def kwAt (k : Nat) : List UInt8 := kwords.getD k []
def kw (s : List UInt8) : Bool := decide (s ∈ kwords)
theorem kwcells_at (k : Nat) (h : k < 28) : kwcells[k]? = some (.string ⟨(kwAt k).toArray⟩) := by
  simp [kwcells, kwAt]
  rw [List.getElem?_eq_getElem (by simpa [kwords] using h)]
  simp
theorem kw_snoc (s : List UInt8) (k : Nat) (h : k < 28) : (s ∈ kwords.take (k+1)) ↔ (s ∈ kwords.take k ∨ s = kwAt k) := by
  have h' : k < kwords.length := by simpa [kwords] using h
  rw [List.take_succ_eq_append_getElem h', List.mem_append, List.mem_singleton, kwAt, List.getD_eq_getElem?_getD, List.getElem?_eq_getElem h', Option.getD_some]
theorem kwAt_mem (k : Nat) (h : k < 28) : kwAt k ∈ kwords := by
  have h' : k < kwords.length := by simpa [kwords] using h
  rw [kwAt, List.getD_eq_getElem?_getD, List.getElem?_eq_getElem h', Option.getD_some]
  exact List.getElem_mem h'
set_option maxRecDepth 100000 in
set_option maxHeartbeats 4000000 in
theorem kw_any (s : ByteArray) (w : World) :
    Calls Try.prog 11 #[.string s] w fun e w' => e = .returned (.bool (kw s.toList)) ∧ w = w' := by
  go_enter Try.func11, Try.ntmps11
  go_wp2
  all_goals go_ret
  all_goals (refine ⟨congrArg (fun b => Ending.returned (.bool b)) ?_, rfl⟩; simp_all [kw, kwords])
set_option maxRecDepth 100000 in
theorem refkw_any (s : ByteArray) (w : World) :
    Calls Try.prog 12 #[.string s] w fun e w' => e = .returned (.bool (kw s.toList)) ∧ Below w.heap.size w w' := by
  go_enter Try.func12, Try.ntmps12
  go_wp2
  have hB : Below w.heap.size w (w.alloc (.cells kwcells 9)) := (Below.refl _ _).alloc (Nat.le_refl _) _
  have hc : ∀ k, k < 28 → (w.alloc (.cells kwcells 9)).cell? ⟨w.heap.size, k, none⟩ = some (.string ⟨(kwAt k).toArray⟩) := by
    intro k hk; rw [World.cell?_alloc_new]; exact kwcells_at k hk
  change Code.wp _ _ _ _ (w.alloc (.cells kwcells 9))
  generalize (w.alloc (.cells kwcells 9)) = W at *
  have HC := Lib.hid hc
  clear hc
  go_loop [4] (fun i => ∃ k : Nat, k ≤ 28 ∧ i = .int .i64 k ∧ s.toList ∉ kwords.take k) (fun i => 28 - (intOf i).toNat)
  case atStart => exact ⟨0, by omega, rfl, by simp⟩
  case round =>
    obtain ⟨k, hk, rfl, hn⟩ := hrel
    have HN := Lib.hid hn
    clear hn
    by_cases hlt : k < 28
    · have hcell := HC.out k hlt
      by_cases hs : (kwAt k == s.toList) = true
      · go_wp2
        go_ret
        refine ⟨congrArg (fun b => Ending.returned (.bool b)) ?_, hB⟩
        have e : s.toList = kwAt k := by simpa using (beq_iff_eq.1 hs).symm
        have m := kwAt_mem k hlt
        rw [← e] at m
        exact (decide_eq_true m).symm
      · have hs' : (kwAt k == s.toList) = false := by simpa using hs
        clear hs
        go_wp2
        go_round
        case rel =>
          refine ⟨k + 1, by omega, by go_num, ?_⟩
          rw [kw_snoc _ _ hlt]
          rintro (h | h)
          · exact HN.out h
          · rw [h] at hs'; simp at hs'
        case measure => simp [intOf]; omega
    · go_wp2
      go_ret
      obtain rfl : k = 28 := by omega
      refine ⟨congrArg (fun b => Ending.returned (.bool b)) ?_, hB⟩
      have := HN.out
      rw [List.take_of_length_le (by simp [kwords])] at this
      simp [kw, this]
theorem kw_let : kw (ByteArray.toList { data := #[108, 101, 116] }) = true := by decide +kernel
theorem kw_lets : kw (ByteArray.toList { data := #[108, 101, 116, 115] }) = false := by decide +kernel
set_option maxRecDepth 100000 in
theorem law_any (s : ByteArray) (w : World) :
    Calls Try.prog 3 #[.string s] w fun e w' => e = .returned (.bool true) ∧ Below w.heap.size w w' := by
  go_enter Try.func3, Try.ntmps3
  go_wp2_with fail
  refine (kw_any _ _).mono ?_
  rintro e w' ⟨rfl, rfl⟩
  go_wp2_with fail
  refine (refkw_any _ _).mono ?_
  rintro e w1 ⟨rfl, hb⟩
  go_wp2_with fail
  refine (kw_any _ _).mono ?_
  rintro e w' ⟨rfl, rfl⟩
  rw [kw_let]
  go_wp2_with fail
  refine (kw_any _ _).mono ?_
  rintro e w' ⟨rfl, rfl⟩
  rw [kw_lets]
  go_wp2_with fail
  go_ret
  exact ⟨rfl, hb⟩
end Go.Proofs.Ytmbegappkkbfpaa
