/- strings.Builder: what its methods do, at the model's level. -/
import Derived.Test.YtfpmdpldabopjaaGreatDoorKNum
import Derived.Test.YtfpmdpldabopjaaGreatDoorProg
import Derived.KernelRfl
import Derived.WalkKit
import Derived.BigCall
import Derived.Laws.Externs
import Derived.Laws.Entries
import Derived.Lib.Builder
import Derived.Lib.AppendStr
import Derived.Lib.UnsafeStr
import Derived.Test.YtfpmdpldabopjaaGreatDoorA3
import Derived.RegionTactic
import Derived.Test.YtfpmdpldabopjaaGreatDoorKGB
import Derived.Test.YtfpmdpldabopjaaGreatDoorKTWa
namespace Go.Proofs.YtfpmdpldabopjaaGreatDoor
open Go Go.RowKit
set_option linter.unusedVariables false
set_option maxHeartbeats 1000000 in
set_option maxRecDepth 100000 in
theorem copyCheck_used (b : Nat) (w : World) (h0 : w.cell? ⟨b, 0, none⟩ = some (.pointer (some ⟨b, 0, none⟩))) :
    Calls Tryz.prog n_zq162 #[.pointer (some ⟨b, 0, none⟩)] w fun e w' => e = .returned (.tuple #[]) ∧ w' = w := by
  obtain ⟨j, hj⟩ : ∃ j, Tryz.prog.info? 73 = some j := Option.isSome_iff_exists.1 (by kernel_rfl)
  go_enter Tryz.func164, Tryz.ntmps164
  go_wp2
  rw [Lib.run_neq_ptr_same w _ Tryz.underlying70 hj]
  go_wp2
  go_end0
  exact ⟨rfl, rfl⟩
set_option maxHeartbeats 1000000 in
set_option maxRecDepth 100000 in
theorem copyCheck_fresh (b : Nat) (w : World) (h0 : w.cell? ⟨b, 0, none⟩ = some (.pointer none)) (hsh : w.shape? b = some (73, 2)) (hfz : w.frozen? ⟨b, 0, none⟩ = false) :
    Calls Tryz.prog n_zq162 #[.pointer (some ⟨b, 0, none⟩)] w fun e w' => e = .returned (.tuple #[]) ∧ w' = w.setCell ⟨b, 0, none⟩ (.pointer (some ⟨b, 0, none⟩)) := by
  obtain ⟨j, hj⟩ : ∃ j, Tryz.prog.info? 73 = some j := Option.isSome_iff_exists.1 (by kernel_rfl)
  have hjs : j.size = 2 := by
    have : (Tryz.prog.info? 73).map (·.size) = some 2 := by kernel_rfl
    rw [hj] at this
    simpa using this
  go_enter Tryz.func164, Tryz.ntmps164
  go_wp2
  rw [Lib.run_to_unsafe w ⟨b, 0, none⟩ Tryz.underlying70 Tryz.underlying211 hj (by rw [hjs]; decide) hsh (Nat.zero_lt_succ 1)]
  simp only [Result.andThen]
  rw [Oper.upon_value]
  go_wp2
  rw [run_callFunc_extern Tryz.func206 (by kernel_rfl) (by kernel_rfl) (by kernel_rfl) (e := Extern.AbiNoEscape.same) (by kernel_rfl)]
  rw [Lib.run_noEscape]
  simp only [Result.andThen]
  rw [Oper.upon_value]
  go_wp2
  rw [Lib.run_from_unsafe w ⟨b, 0, none⟩ Tryz.underlying211 Tryz.underlying70 hj hsh (by kernel_rfl)]
  simp only [Result.andThen]
  rw [Oper.upon_value]
  go_wp2
  go_end0
  exact ⟨rfl, rfl⟩
end Go.Proofs.YtfpmdpldabopjaaGreatDoor
namespace Go.Proofs.YtfpmdpldabopjaaGreatDoor
open Go Go.RowKit
set_option linter.unusedVariables false
set_option maxHeartbeats 2000000 in
set_option maxRecDepth 100000 in
theorem writeString_model (b : Nat) (s : ByteArray) (v v' : Value) (w w1 w2 : World)
    (hcc : Calls Tryz.prog n_zq162 #[.pointer (some ⟨b, 0, none⟩)] w fun e w' => e = .returned (.tuple #[]) ∧ w' = w1)
    (hb1 : w1.heap[b]? = some (.cells #[.pointer (some ⟨b, 0, none⟩), v] 73 (0, 0)))
    (hr : ∀ ty, (Builtin.append_ #[71, 9] ty #[v, .string s]).run Tryz.prog w1 = .ok v' w2)
    (hb2 : w2.heap[b]? = some (.cells #[.pointer (some ⟨b, 0, none⟩), v] 73 (0, 0))) (hv' : ∃ ao n cap, v' = .slice ao n cap) :
    Calls Tryz.prog n_zq97 #[.pointer (some ⟨b, 0, none⟩), .string s] w fun e w' => e = .returned (.tuple #[.int .i64 s.size, .nilIface]) ∧ w' = w2.setCell ⟨b, 1, none⟩ v' := by
  obtain ⟨ao, n', cap, rfl⟩ := hv'
  have c1 : w1.cell? ⟨b, 1, none⟩ = some v := by rw [Lib.cell_of_heap hb1]; rfl
  have d1 : w2.cell? ⟨b, 1, none⟩ = some v := by rw [Lib.cell_of_heap hb2]; rfl
  have f1 : w2.frozen? ⟨b, 1, none⟩ = false := Lib.frozen_of_heap hb2 1
  go_enter Tryz.func99, Tryz.ntmps99
  go_wp2_with (go_at_call 164; refine hcc.mono ?_)
  rintro e w1' ⟨rfl, rfl⟩
  go_wp2_with (at_builtin; refine Go.Abs.wpList_append_str rfl _ _ 71 9 rfl rfl rfl hr ?_)
  go_wp2
  go_ret2
  exact ⟨rfl, rfl⟩
end Go.Proofs.YtfpmdpldabopjaaGreatDoor
namespace Go.Proofs.YtfpmdpldabopjaaGreatDoor
open Go Go.RowKit Go.Abs
set_option linter.unusedVariables false
set_option linter.unusedSimpArgs false
theorem byte_info : ∃ i, Tryz.prog.info? 5 = some i ∧ i.zero = some (.int .u8 0) ∧ i.size = 1 ∧ i.bytes = 1 := by
  obtain ⟨i, hi⟩ : ∃ i, Tryz.prog.info? 5 = some i := Option.isSome_iff_exists.1 (by kernel_rfl)
  have h1 : (Tryz.prog.info? 5).map (·.size) = some 1 := by kernel_rfl
  have h2 : (Tryz.prog.info? 5).map (·.bytes) = some 1 := by kernel_rfl
  have h3 : (Tryz.prog.info? 5).bind (·.zero) = some (.int .u8 0) := by kernel_rfl
  rw [hi] at h1 h2 h3
  exact ⟨i, hi, by simpa using h3, by simpa using h1, by simpa using h2⟩
theorem copyCheck_step {B : Nat} {w : World} {G : Gh} {H : Heap} (hH : HRel B w G H) {id b : Nat} {p c : AV} (hp : p = .nilp ∨ p = .ptr id 0) (h1 : H[id]? = some (.bld 73 [p, c])) (hμ : G.μ[id]? = some (.blk b)) :
    ∃ w1 v, Calls Tryz.prog n_zq162 #[.pointer (some ⟨b, 0, none⟩)] w (fun e w' => e = .returned (.tuple #[]) ∧ w' = w1) ∧ Ext B w G w1 G ∧ HRel B w1 G (H.set id (.bld 73 [.ptr id 0, c])) ∧
      w1.heap[b]? = some (.cells #[.pointer (some ⟨b, 0, none⟩), v] 73 (0, 0)) ∧ ARel w1 G v c := by
  obtain ⟨hB, hL, ⟨vs⟩, hw, hc⟩ := hH.ok id _ _ h1 hμ
  match vs, hc with
  | [vp, v], ⟨hvp, hv, _⟩ =>
    have hvp' : vp = .pointer none ∨ vp = .pointer (some ⟨b, 0, none⟩) := by
      rcases hp with rfl | rfl
      · exact .inl hvp
      · obtain ⟨b', k1, k2⟩ := hvp
        rw [hμ] at k1
        cases k1
        exact .inr k2
    have hstep := hH.storeB (cs' := [.ptr id 0, c]) (vs' := #[.pointer (some ⟨b, 0, none⟩), v]) h1 hμ hw ⟨⟨b, hμ, rfl⟩, hv, trivial⟩
    rcases hvp' with rfl | rfl
    · refine ⟨_, v, ?_, hstep.1, hstep.2, setRow_heap w b _ _ _ _ hw, hstep.1.arel hv⟩
      refine (copyCheck_fresh b w (by rw [Lib.cell_of_heap hw]; rfl) (by simp [World.shape?, hw]) (Lib.frozen_of_heap hw 0)).mono ?_
      rintro e w' ⟨rfl, rfl⟩
      refine ⟨rfl, ?_⟩
      rw [setCell_eq_setRow w b 0 _ _ _ _ hw]
      rfl
    · refine ⟨w, v, copyCheck_used b w (by rw [Lib.cell_of_heap hw]; rfl), Ext.refl _ _ _, ?_, hw, hv⟩
      refine hH.reCellB h1 fun us hus => ?_
      match us, hus with
      | [u1, u2], ⟨k1, k2⟩ =>
        refine ⟨?_, k2⟩
        rcases hp with rfl | rfl
        · cases hvp
        · exact k1
theorem WriteString_spec {H : Heap} {id id2 : Nat} {l s : List UInt8} {p : AV} (hp : p = .nilp ∨ p = .ptr id 0) (h1 : H[id]? = some (.bld 73 [p, .sl (bcs l) (.own id2)])) (h2 : H[id2]? = some (.perm 5 1 l.length))
    (hn : l.length + s.length ≤ 140737488355328) {K : AV → Heap → Prop}
    (hK : K (.tup [.int .i64 s.length, .nili]) ((H.set id2 (.perm 5 1 (l.length + s.length))).set id (.bld 73 [.ptr id 0, .sl (bcs (l ++ s)) (.own id2)]))) :
    ACalls Tryz.prog n_zq97 [.ptr id 0, .str s] H K := by
  intro B w G ⟨vs⟩ hH hv
  match vs, hv with
  | [v0, v1], ⟨⟨b, hμ, hv0⟩, hv1, _⟩ =>
    have hv1 : v1 = .string ⟨s.toArray⟩ := hv1
    subst hv0 hv1
    obtain ⟨w1, v, hcc, hE1, hH1, hw1, hva⟩ := copyCheck_step hH hp h1 hμ
    obtain ⟨hd, v', size, n', hμ2, hle, heq⟩ := hva
    have hne : id ≠ id2 := by
      rintro rfl
      rw [h1] at h2
      cases h2
    have h21 : (H.set id (.bld 73 [.ptr id 0, .sl (bcs l) (.own id2)]))[id2]? = some (.perm 5 1 l.length) := by rw [List.getElem?_set_ne hne]; exact h2
    have hok := hH1.ok id2 _ _ h21 hμ2
    obtain ⟨hs1, hn1, ⟨xs, hown⟩, hL2⟩ := hok
    subst hs1 hn1
    obtain ⟨rfl, hall⟩ := heq (bcs_len l)
    have hbne : v.ownBlock ≠ some b := fun h => hne (hH1.dist id id2 _ _ b hμ hμ2 rfl h)
    have hblt : b < w1.heap.size := hH1.lt id _ b hμ rfl
    obtain ⟨i, hi, hz, hsz, hby⟩ := byte_info
    have hmx : maxLen = 9223372036854775807 := rfl
    have key : ∃ v' w2 G2, (∀ ty, (Builtin.append_ #[71, 9] ty #[v, .string ⟨s.toArray⟩]).run Tryz.prog w1 = .ok v' w2) ∧ Ext B w1 G w2 G2 ∧
        HRel B w2 G2 ((H.set id (.bld 73 [.ptr id 0, .sl (bcs l) (.own id2)])).set id2 (.perm 5 1 (l.length + s.length))) ∧ ARel w2 G2 v' (.sl (bcs (l ++ s)) (.own id2)) ∧ w2.heap[b]? = w1.heap[b]? := by
      by_cases hs : s = []
      · subst hs
        refine ⟨v, w1, G, fun ty => own_run_string0 Tryz.underlying71 Tryz.underlying9 hi hsz hown _ rfl, Ext.refl _ _ _, ?_, ?_, rfl⟩
        · have : (H.set id (.bld 73 [.ptr id 0, .sl (bcs l) (.own id2)])).set id2 (.perm 5 1 (l.length + ([] : List UInt8).length)) = H.set id (.bld 73 [.ptr id 0, .sl (bcs l) (.own id2)]) := by
            apply List.ext_getElem?
            intro k
            by_cases hk : k = id2
            · subst hk; rw [List.getElem?_set_self (List.getElem?_eq_some_iff.1 h21).1, h21]; rfl
            · rw [List.getElem?_set_ne (fun h => hk h.symm)]
          rw [this]
          exact hH1
        · rw [List.append_nil]
          exact ⟨hd, v, 1, _, hμ2, hle, heq⟩
      · have hpos : 0 < s.length := List.length_pos_iff.2 hs
        obtain ⟨v', w2, hrun, hown', hcase⟩ := own_run_string (P := Tryz.prog) (ty := 71) (B := B) Tryz.underlying71 Tryz.underlying9 hi hz hsz hby hown ⟨s.toArray⟩ (by simpa [ByteArray.size] using hpos) (by simp [ByteArray.size]; omega) (by simpa [ByteArray.size] using hn) hH1.base
        have hss : (⟨s.toArray⟩ : ByteArray).size = s.length := rfl
        rw [hss] at hown'
        have hx : All2 (DRel w1 G.L) xs (bcs l).flatten := xs_rel hown hd (bcs_len l) (bcs_one l)
        obtain ⟨G2, hE2, hH2, hT⟩ := own_step hH1 h21 hμ2 hown hown' hcase (bcs_len s) hpos (bcs_len l) (bcs_one l) (bcs_one s) hx (bcs_rel s)
        refine ⟨v', w2, G2, fun ty => hrun, hE2, hH2, by rw [← bcs_app]; exact hT, ?_⟩
        rcases hcase with ⟨g, k1, _, k3⟩ | ⟨_, k3⟩
        · exact k3.block b hblt (fun h => hbne (by rw [k1, h]))
        · exact k3.block b hblt (by simp)
    obtain ⟨v', w2, G2, hrun, hE2, hH2, hva', hb2⟩ := key
    have hw2 := hb2.trans hw1
    have hμ' := (hE2.blk hμ)
    obtain ⟨hE3, hH3⟩ := hH2.storeB (id := id) (cs' := [.ptr id 0, .sl (bcs (l ++ s)) (.own id2)]) (vs' := #[.pointer (some ⟨b, 0, none⟩), v']) (by rw [List.getElem?_set_ne (fun h => hne h.symm)]; exact List.getElem?_set_self (List.getElem?_eq_some_iff.1 h1).1) hμ' hw2 ⟨⟨b, hμ', rfl⟩, hva', trivial⟩
    refine (writeString_model b ⟨s.toArray⟩ v v' w w1 w2 hcc hw1 hrun hw2 ?_).mono ?_
    · obtain ⟨hd', _⟩ := hva'
      generalize bcs (l ++ s) = cs at hd'
      cases hd' with
      | slE a c => exact ⟨_, _, _, rfl⟩
      | sl => exact ⟨_, _, _, rfl⟩
    · rintro e w' ⟨rfl, rfl⟩
      have hset : w2.setCell ⟨b, 1, none⟩ v' = w2.setRow b #[.pointer (some ⟨b, 0, none⟩), v'] := by
        rw [setCell_eq_setRow w2 b 1 _ _ _ _ hw2]
        rfl
      rw [hset]
      refine ⟨_, _, _, G2, rfl, (hE1.trans hE2).trans hE3, ?_, ?_, hK⟩
      · rw [List.set_comm _ _ hne, List.set_set] at hH3
        exact hH3
      · exact ⟨#[.int .i64 s.length, .nilIface], rfl, rfl, rfl, trivial⟩
end Go.Proofs.YtfpmdpldabopjaaGreatDoor
namespace Go.Proofs.YtfpmdpldabopjaaGreatDoor
open Go Go.RowKit
set_option linter.unusedVariables false
theorem byte_cells : Tryz.prog.cellsOf 5 = 1 := by kernel_rfl
set_option maxHeartbeats 2000000 in
set_option maxRecDepth 100000 in
theorem string_model (b g cap n : Nat) (p : Value) (cur : Array Value) (l : List UInt8) (w : World) (h0 : l ≠ []) (hbk : w.heap[b]? = some (.cells #[p, .slice (some ⟨g, 0, none⟩) l.length cap] 73 (0, 0)))
    (hg : w.heap[g]? = some (.cells cur 5 (0, 0))) (hc1 : l.length ≤ cap) (hc2 : cap ≤ maxLen) (hcs : cur.size = cap)
    (hcell : ∀ j x, l[j]? = some x → w.cell? ((⟨g, 0, none⟩ : Addr).add j) = some (.int .u8 x.toNat)) :
    Calls Tryz.prog n_zq56 #[.pointer (some ⟨b, 0, none⟩)] w fun e w' => e = .returned (.string ⟨l.toArray⟩) ∧ w' = w.drew.freeze ⟨g, 0, none⟩ l.length := by
  have hl0 : l.length ≠ 0 := by simpa using h0
  have c1 : w.drew.cell? ⟨b, 1, none⟩ = some (.slice (some ⟨g, 0, none⟩) l.length cap) := by
    have : w.drew.heap[b]? = some (.cells #[p, .slice (some ⟨g, 0, none⟩) l.length cap] 73 (0, 0)) := hbk
    rw [Lib.cell_of_heap this]; rfl
  have hSD : (Builtin.unsafeSliceData_ #[71] 130 #[.slice (some ⟨g, 0, none⟩) l.length cap]).run Tryz.prog w.drew = .ok (.pointer (some ⟨g, 0, none⟩)) w.drew :=
    Lib.run_unsafeSliceData_row _ _ _ _ _ _ (by omega)
  have hUS : (Builtin.unsafeString_ #[130, 3] 9 #[.pointer (some ⟨g, 0, none⟩), .int .i64 l.length]).run Tryz.prog w.drew = .ok (.string ⟨l.toArray⟩) (w.drew.freeze ⟨g, 0, none⟩ l.length) := by
    refine Lib.run_unsafeString_row w.drew 130 3 9 5 Tryz.underlying130 byte_cells g cur.size (by have hg' : w.drew.heap[g]? = some (.cells cur 5 (0, 0)) := hg; simp [World.shape?, hg']) l h0 (by omega) (by unfold maxLen at hc2; omega) ?_
    intro j x hx
    exact hcell j x hx
  go_enter Tryz.func58, Tryz.ntmps58
  go_wp2
  go_region
  all_goals (go_wp2; go_ret; exact ⟨rfl, rfl⟩)
set_option maxHeartbeats 2000000 in
set_option maxRecDepth 100000 in
theorem string_model_nil (b : Nat) (p : Value) (w : World) (hbk : w.heap[b]? = some (.cells #[p, .slice none 0 0] 73 (0, 0))) :
    Calls Tryz.prog n_zq56 #[.pointer (some ⟨b, 0, none⟩)] w fun e w' => e = .returned (.string ⟨#[]⟩) ∧ w' = w.drew := by
  have hUS : ∀ (W : World) (q : Option Addr), (Builtin.unsafeString_ #[130, 3] 9 #[.pointer q, .int .i64 0]).run Tryz.prog W = .ok (.string .empty) W := fun W q => Lib.run_unsafeString_none W _ _ _ q
  have c1 : w.drew.cell? ⟨b, 1, none⟩ = some (.slice none 0 0) := by
    have : w.drew.heap[b]? = some (.cells #[p, .slice none 0 0] 73 (0, 0)) := hbk
    rw [Lib.cell_of_heap this]; rfl
  have hSD : (Builtin.unsafeSliceData_ #[71] 130 #[.slice none 0 0]).run Tryz.prog w.drew = .ok (.pointer none) w.drew := rfl
  go_enter Tryz.func58, Tryz.ntmps58
  go_wp2
  go_region
  all_goals (go_wp2; go_ret; exact ⟨rfl, rfl⟩)
set_option maxHeartbeats 2000000 in
set_option maxRecDepth 100000 in
theorem string_model_room (b g cap : Nat) (p : Value) (w : World) (hc0 : cap ≠ 0) (hbk : w.heap[b]? = some (.cells #[p, .slice (some ⟨g, 0, none⟩) 0 cap] 73 (0, 0))) :
    Calls Tryz.prog n_zq56 #[.pointer (some ⟨b, 0, none⟩)] w fun e w' => e = .returned (.string ⟨#[]⟩) ∧ w' = w.drew := by
  have hUS : ∀ (W : World) (q : Option Addr), (Builtin.unsafeString_ #[130, 3] 9 #[.pointer q, .int .i64 0]).run Tryz.prog W = .ok (.string .empty) W := fun W q => Lib.run_unsafeString_none W _ _ _ q
  have c1 : w.drew.cell? ⟨b, 1, none⟩ = some (.slice (some ⟨g, 0, none⟩) 0 cap) := by
    have : w.drew.heap[b]? = some (.cells #[p, .slice (some ⟨g, 0, none⟩) 0 cap] 73 (0, 0)) := hbk
    rw [Lib.cell_of_heap this]; rfl
  have hSD : (Builtin.unsafeSliceData_ #[71] 130 #[.slice (some ⟨g, 0, none⟩) 0 cap]).run Tryz.prog w.drew = .ok (.pointer (some ⟨g, 0, none⟩)) w.drew :=
    Lib.run_unsafeSliceData_row _ _ _ _ _ _ hc0
  clear hc0
  go_enter Tryz.func58, Tryz.ntmps58
  go_wp2
  go_region
  all_goals (go_wp2; go_ret; exact ⟨rfl, rfl⟩)
set_option maxHeartbeats 2000000 in
set_option maxRecDepth 100000 in
theorem string_model_noroom (b g : Nat) (p : Value) (cur : Array Value) (w : World) (hbk : w.heap[b]? = some (.cells #[p, .slice (some ⟨g, 0, none⟩) 0 0] 73 (0, 0))) (hg : w.heap[g]? = some (.cells cur 5 (0, 0))) :
    Calls Tryz.prog n_zq56 #[.pointer (some ⟨b, 0, none⟩)] w fun e w' => e = .returned (.string ⟨#[]⟩) ∧ w' = (w.alloc (.view ⟨g, 0, none⟩ 5)).drew := by
  have hUS : ∀ (W : World) (q : Option Addr), (Builtin.unsafeString_ #[130, 3] 9 #[.pointer q, .int .i64 0]).run Tryz.prog W = .ok (.string .empty) W := fun W q => Lib.run_unsafeString_none W _ _ _ q
  have hlt : b < w.heap.size := by
    rcases Nat.lt_or_ge b w.heap.size with h' | h'
    · exact h'
    · simp [Array.getElem?_eq_none h'] at hbk
  have c1 : w.drew.cell? ⟨b, 1, none⟩ = some (.slice (some ⟨g, 0, none⟩) 0 0) := by
    have : w.drew.heap[b]? = some (.cells #[p, .slice (some ⟨g, 0, none⟩) 0 0] 73 (0, 0)) := hbk
    rw [Lib.cell_of_heap this]; rfl
  have hSD : (Builtin.unsafeSliceData_ #[71] 130 #[.slice (some ⟨g, 0, none⟩) 0 0]).run Tryz.prog w.drew = .ok (.pointer (some ⟨w.drew.heap.size, 0, none⟩)) (w.drew.alloc (.view ⟨g, 0, none⟩ 5)) :=
    Lib.run_unsafeSliceData_zero w.drew _ _ 5 Tryz.underlying130 ⟨g, 0, none⟩ 0 (5, cur.size) (by have hg' : w.drew.heap[g]? = some (.cells cur 5 (0, 0)) := hg; simp [World.shape?, hg'])
  have c2 : (w.drew.alloc (.view ⟨g, 0, none⟩ 5)).cell? ⟨b, 1, none⟩ = some (.slice (some ⟨g, 0, none⟩) 0 0) := by
    have : (w.drew.alloc (.view ⟨g, 0, none⟩ 5)).heap[b]? = _ := (Lib.alloc_old w.drew _ b hlt).trans hbk
    rw [Lib.cell_of_heap this]; rfl
  have c3 : (w.alloc (.view ⟨g, 0, none⟩ 5)).drew.cell? ⟨b, 1, none⟩ = some (.slice (some ⟨g, 0, none⟩) 0 0) := c2
  have c0 : w.cell? ⟨b, 1, none⟩ = some (.slice (some ⟨g, 0, none⟩) 0 0) := c1
  go_enter Tryz.func58, Tryz.ntmps58
  go_wp2
  go_region
  all_goals (go_wp2; go_ret; exact ⟨rfl, rfl⟩)
end Go.Proofs.YtfpmdpldabopjaaGreatDoor
namespace Go.Proofs.YtfpmdpldabopjaaGreatDoor
open Go Go.RowKit Go.Abs
set_option linter.unusedVariables false
set_option linter.unusedSimpArgs false
theorem bcs_vals {w : World} {L : Nat → Nat} : ∀ {l : List UInt8} {xs : List Value}, All2 (DRel w L) xs (bcs l).flatten → xs = l.map fun b => Value.int .u8 b.toNat
  | [], [], _ => rfl
  | [], _ :: _, h => h.elim
  | _ :: _, [], h => h.elim
  | c :: l, x :: xs, ⟨hx1, hx2⟩ => by
    cases hx1
    rw [List.map_cons, bcs_vals (l := l) hx2]
theorem String_spec {H : Heap} {id id2 : Nat} {l : List UInt8} {p : AV} (h1 : H[id]? = some (.bld 73 [p, .sl (bcs l) (.own id2)])) (h2 : H[id2]? = some (.perm 5 1 l.length)) {K : AV → Heap → Prop}
    (hK : K (.str l) (H.set id2 .dead)) : ACalls Tryz.prog n_zq56 [.ptr id 0] H K := by
  intro B w G ⟨vs⟩ hH hv
  match vs, hv with
  | [v0], ⟨⟨b, hμ, hv0⟩, _⟩ =>
    subst hv0
    obtain ⟨hB, hL, ⟨us⟩, hw, hc⟩ := hH.ok id _ _ h1 hμ
    match us, hc with
    | [vp, v], ⟨hvp, ⟨hd, v', size, n', hμ2, hle, heq⟩, _⟩ =>
      obtain ⟨hs1, hn1, ⟨xs, hown⟩, hL2⟩ := hH.ok id2 _ _ h2 hμ2
      subst hs1 hn1
      obtain ⟨rfl, hall⟩ := heq (bcs_len l)
      have hdr := Ext.drew B w G (w.drawn + 1)
      have hHd := hH.drew (w.drawn + 1)
      by_cases hl : l = []
      · subst hl
        rcases hown.2 with ⟨rfl, _⟩ | ⟨g, cap, cur, rfl, k1, k2, k3, k4, k5, k6⟩
        · refine (string_model_nil b vp w hw).mono ?_
          rintro e w' ⟨rfl, rfl⟩
          exact ⟨_, (.str []), _, G, rfl, hdr, hHd.dead h2, rfl, hK⟩
        · by_cases hc0 : cap = 0
          · subst hc0
            refine (string_model_noroom b g vp cur w hw k2).mono ?_
            rintro e w' ⟨rfl, rfl⟩
            obtain ⟨hE1, hH1⟩ := hH.other (.view ⟨g, 0, none⟩ 5)
            exact ⟨_, (.str []), _, G, rfl, hE1.trans (Ext.drew B _ G _), (hH1.drew _).dead h2, rfl, hK⟩
          · refine (string_model_room b g cap vp w hc0 hw).mono ?_
            rintro e w' ⟨rfl, rfl⟩
            exact ⟨_, (.str []), _, G, rfl, hdr, hHd.dead h2, rfl, hK⟩
      · rcases hown.2 with ⟨_, hz⟩ | ⟨g, cap, cur, rfl, k1, k2, k3, k4, k5, k6⟩
        · exact absurd (List.eq_nil_of_length_eq_zero hz) hl
        · have hx : All2 (DRel w G.L) xs (bcs l).flatten := xs_rel hown hd (bcs_len l) (bcs_one l)
          have hxs : xs = l.map fun b => Value.int .u8 b.toNat := by
            exact bcs_vals hx
          refine (string_model b g cap l.length vp cur l w hl hw k2 k3 k4 (by omega) ?_).mono ?_
          · intro j x hj
            exact hown.cells (g := g) rfl j _ (by rw [hxs, List.getElem?_map, hj]; rfl)
          · rintro e w' ⟨rfl, rfl⟩
            obtain ⟨hE1, hH1⟩ := hHd.freezeB h2 hμ2 l.length
            exact ⟨_, (.str l), _, G, rfl, hdr.trans hE1, hH1, rfl, hK⟩
end Go.Proofs.YtfpmdpldabopjaaGreatDoor
namespace Go.Proofs.YtfpmdpldabopjaaGreatDoor
open Go Go.RowKit Go.Abs
set_option linter.unusedVariables false
set_option linter.unusedSimpArgs false
set_option maxRecDepth 8000
def small (n : Nat) : List UInt8 := if n < 10 then [48 + UInt8.ofNat n] else [48 + UInt8.ofNat (n / 10), 48 + UInt8.ofNat (n % 10)]
def digs : List UInt8 := [48, 49, 50, 51, 52, 53, 54, 55, 56, 57, 97, 98, 99, 100, 101, 102, 103, 104, 105, 106, 107, 108, 109, 110, 111, 112, 113, 114, 115, 116, 117, 118, 119, 120, 121, 122]
def pairs : List UInt8 := (List.range 100).flatMap fun n => [48 + UInt8.ofNat (n / 10), 48 + UInt8.ofNat (n % 10)]
theorem digs_at : ∀ n, n < 10 → (digs.take (n + 1)).drop n = small n := by decide
theorem pairs_at : ∀ n, n < 100 → 10 ≤ n → (pairs.take (2 * n + 2)).drop (2 * n) = small n := by decide
theorem small_spec (n : Nat) (hn : n < 100) (H : Heap) (K : Kt) (hK : K (.str (small n)) H) : ACalls Tryz.prog n_zq204 [.int .i64 n] H K := by
  refine zq204_ok fun hs => ?_
  by_cases h10 : n < 10
  · have : (n : Int) < 10 := by omega
    have e1 : IntKind.i64.wrap ((n : Int) + 1) = ((n + 1 : Nat) : Int) := by rw [wrap_in (by omega) (by omega)]; omega
    simp [zq204, this]
    rw [e1]
    refine ⟨by omega, ⟨by omega, by omega⟩, ?_⟩
    have hK' : K (.str ((digs.take (n + 1)).drop n)) H := by rw [digs_at n h10]; exact hK
    rw [Int.toNat_natCast]
    exact hK'
  · have : ¬ (n : Int) < 10 := by omega
    have e1 : IntKind.i64.wrap ((n : Int) * 2) = ((2 * n : Nat) : Int) := by rw [wrap_in (by omega) (by omega)]; omega
    have e2 : IntKind.i64.wrap (((2 * n : Nat) : Int) + 2) = ((2 * n + 2 : Nat) : Int) := by rw [wrap_in (by omega) (by omega)]; omega
    simp [zq204, this]
    rw [e1, e2]
    refine ⟨by omega, by omega, ⟨by omega, by omega⟩, ?_⟩
    have hK' : K (.str ((pairs.take (2 * n + 2)).drop (2 * n))) H := by rw [pairs_at n hn (by omega)]; exact hK
    have hp : pairs = [48, 48, 48, 49, 48, 50, 48, 51, 48, 52, 48, 53, 48, 54, 48, 55, 48, 56, 48, 57, 49, 48, 49, 49, 49, 50, 49, 51, 49, 52, 49, 53, 49, 54, 49, 55, 49, 56, 49, 57, 50, 48, 50, 49, 50, 50, 50, 51, 50, 52, 50, 53, 50, 54, 50, 55, 50, 56, 50, 57, 51, 48, 51, 49, 51, 50, 51, 51, 51, 52, 51, 53, 51, 54, 51, 55, 51, 56, 51, 57, 52, 48, 52, 49, 52, 50, 52, 51, 52, 52, 52, 53, 52, 54, 52, 55, 52, 56, 52, 57, 53, 48, 53, 49, 53, 50, 53, 51, 53, 52, 53, 53, 53, 54, 53, 55, 53, 56, 53, 57, 54, 48, 54, 49, 54, 50, 54, 51, 54, 52, 54, 53, 54, 54, 54, 55, 54, 56, 54, 57, 55, 48, 55, 49, 55, 50, 55, 51, 55, 52, 55, 53, 55, 54, 55, 55, 55, 56, 55, 57, 56, 48, 56, 49, 56, 50, 56, 51, 56, 52, 56, 53, 56, 54, 56, 55, 56, 56, 56, 57, 57, 48, 57, 49, 57, 50, 57, 51, 57, 52, 57, 53, 57, 54, 57, 55, 57, 56, 57, 57] := by decide
    rw [hp] at hK'
    rw [Int.toNat_natCast, Int.toNat_natCast]
    exact hK'
theorem internal_FormatInt_model (n : Nat) (hn : n < 100) (w : World) (R : World → Prop) (s : ByteArray)
    (hs : Calls Tryz.prog n_zq204 #[.int .i64 n] w fun e w' => e = .returned (.string s) ∧ R w') :
    Calls Tryz.prog n_zq163 #[.int .i64 n, .int .i64 10] w fun e w' => e = .returned (.string s) ∧ R w' := by
  have a1 : ((0 : Int) ≤ (n : Int)) := by omega
  have a2 : ((n : Int) < 100) := by omega
  go_enter Tryz.func165, Tryz.ntmps165
  go_wp2_with (go_at_call 207; refine hs.mono ?_)
  rintro e w1 ⟨rfl, hR⟩
  go_wp2
  go_ret
  exact ⟨rfl, hR⟩
theorem internal_FormatInt_spec (n : Nat) (hn : n < 100) (H : Heap) (K : Kt) (hK : K (.str (small n)) H) : ACalls Tryz.prog n_zq163 [.int .i64 n, .int .i64 10] H K := by
  intro B w G ⟨vs⟩ hH hv
  match vs, hv with
  | [v0, v1], ⟨h0, h1, _⟩ =>
    have h0 : v0 = .int .i64 n := h0
    have h1 : v1 = .int .i64 10 := h1
    subst h0 h1
    have hs := small_spec n hn H (fun r H' => r = .str (small n) ∧ H' = H) ⟨rfl, rfl⟩ B w G #[.int .i64 n] hH ⟨rfl, trivial⟩
    refine (internal_FormatInt_model n hn w (fun w' => ∃ G', Ext B w G w' G' ∧ HRel B w' G' H) ⟨(small n).toArray⟩ (hs.mono ?_)).mono ?_
    · rintro e w1 ⟨v, r, H', G', rfl, hE, hH', hT, rfl, rfl⟩
      have hT : v = .string ⟨(small n).toArray⟩ := hT
      exact ⟨by rw [hT], G', hE, hH'⟩
    · rintro e w1 ⟨rfl, G', hE, hH'⟩
      exact ⟨_, .str (small n), _, G', rfl, hE, hH', rfl, hK⟩
theorem Itoa_spec (n : Nat) (hn : n < 100) (H : Heap) (K : Kt) (hK : K (.str (small n)) H) : ACalls Tryz.prog n_zq110 [.int .i64 n] H K :=
  zq110_ok fun hs => zq165_ok fun hs => internal_FormatInt_spec n hn _ _ hK
end Go.Proofs.YtfpmdpldabopjaaGreatDoor
