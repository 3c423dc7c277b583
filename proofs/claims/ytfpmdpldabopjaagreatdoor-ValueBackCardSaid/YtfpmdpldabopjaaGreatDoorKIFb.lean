/- A builder that holds a text: its state, and how it goes on. -/
import Derived.Test.YtfpmdpldabopjaaGreatDoorKBa
namespace Go.Proofs.YtfpmdpldabopjaaGreatDoor
open Go Go.Abs
set_option linter.unusedSimpArgs false
set_option linter.unusedVariables false
@[congr] theorem aDet_cg {m : WM} {g : Bool} {H : Heap} {p : (AV → Heap → Prop) → Prop} {k : AV → Heap → Prop} : aDet m g H p k = aDet m g H p k := rfl
theorem aDet_call {H : Heap} {p : (AV → Heap → Prop) → Prop} {k : AV → Heap → Prop} (r : AV) (H' : Heap) (h : p fun v H2 => v = r ∧ H2 = H') (hk : k r H') : aDet .w false H p k := ⟨r, H', h, (fun h => by cases h), hk⟩
theorem aDet_callC {H : Heap} {p : (AV → Heap → Prop) → Prop} {k : AV → Heap → Prop} (r : AV) (H' : Heap) (h : p fun v H2 => v = r ∧ H2 = H') (hk : k r H') : aDet .c false H p k := ⟨r, H', h, (fun h => by cases h), hk⟩
@[simp] theorem aRet_nil (k : AV → Prop) : aRet [] k = k (.tup []) := by simp [aRet]
/-- The heap with the builder's text set. -/
def bw (H : Heap) (id id2 : Nat) (l : List UInt8) : Heap := (H.set id2 (.perm 5 1 l.length)).set id (.bld 73 [.ptr id 0, .sl (bcs l) (.own id2)])
structure Bw (H : Heap) (id id2 : Nat) (l : List UInt8) : Prop where
  ne : id ≠ id2
  h1 : ∃ p, (p = .nilp ∨ p = .ptr id 0) ∧ H[id]? = some (.bld 73 [p, .sl (bcs l) (.own id2)])
  h2 : H[id2]? = some (.perm 5 1 l.length)
section
variable {H J : Heap} {id id2 : Nat} {l l' s : List UInt8}
theorem Bw.lt1 (h : Bw H id id2 l) : id < H.length := by obtain ⟨p, _, h⟩ := h.h1; exact (List.getElem?_eq_some_iff.1 h).1
theorem Bw.lt2 (h : Bw H id id2 l) : id2 < H.length := (List.getElem?_eq_some_iff.1 h.h2).1
@[simp] theorem bw_len : (bw H id id2 l).length = H.length := by simp [bw]
theorem bw_bw (hne : id ≠ id2) : bw (bw H id id2 l) id id2 l' = bw H id id2 l' := by
  unfold bw
  rw [List.set_comm _ _ hne, List.set_set, List.set_set]
theorem Bw.app (h : Bw H id id2 l) : Bw (H ++ J) id id2 l := by
  obtain ⟨p, hp, h1⟩ := h.h1
  exact ⟨h.ne, ⟨p, hp, by rw [List.getElem?_append_left h.lt1]; exact h1⟩, by rw [List.getElem?_append_left h.lt2]; exact h.h2⟩
theorem Bw.bw_app (h : Bw H id id2 l) : bw (H ++ J) id id2 l' = bw H id id2 l' ++ J := by
  unfold bw
  rw [List.set_append_left _ _ h.lt2, List.set_append_left _ _ (by simpa using h.lt1)]
theorem Bw.next (h : Bw H id id2 l) : Bw (bw H id id2 l') id id2 l' := by
  refine ⟨h.ne, ⟨_, .inr rfl, ?_⟩, ?_⟩
  · unfold bw; rw [List.getElem?_set_self (by simpa using h.lt1)]
  · unfold bw; rw [List.getElem?_set_ne h.ne, List.getElem?_set_self h.lt2]
theorem Bw.hsc (h : Bw H id id2 l) (hs : HSc H) : HSc (bw H id id2 l') := by
  refine HSc.set (HSc.set hs rfl) ?_
  have := h.lt1
  have := h.lt2
  simp [AB.sc, AV.scA, AV.scB]
  try omega
theorem Ws (h : Bw H id id2 l) (hn : l.length + s.length ≤ 140737488355328) {K : AV → Heap → Prop} (hK : K (.tup [.int .i64 s.length, .nili]) (bw H id id2 (l ++ s))) :
    ACalls Tryz.prog n_strings_Builder_WriteString [.ptr id 0, .str s] H K := by
  obtain ⟨p, hp, h1⟩ := h.h1
  refine WriteString_spec hp h1 h.h2 hn ?_
  unfold bw at hK
  rwa [List.length_append] at hK
theorem Ws2 (h : Bw H id id2 l) (hn : l.length + s.length ≤ 1000000000) {K : AV → Heap → Prop} (hK : ∀ Y, Y.length = H.length → Y = bw H id id2 (l ++ s) → Bw Y id id2 (l ++ s) → K (.tup [.int .i64 s.length, .nili]) (Y ++ J)) :
    ACalls Tryz.prog n_strings_Builder_WriteString [.ptr id 0, .str s] (H ++ J) K :=
  Ws h.app (by omega) (by rw [h.bw_app]; exact hK _ bw_len rfl h.next)
theorem Ws3 (h : Bw H id id2 l) (hn : l.length + s.length ≤ 1000000000) {K : AV → Heap → Prop} (hK : ∀ Y, Y.length = H.length → Y = bw H id id2 (l ++ s) → Bw Y id id2 (l ++ s) → K (.tup [.int .i64 s.length, .nili]) Y) :
    ACalls Tryz.prog n_strings_Builder_WriteString [.ptr id 0, .str s] H K :=
  Ws h (by omega) (hK _ bw_len rfl h.next)
end
end Go.Proofs.YtfpmdpldabopjaaGreatDoor
