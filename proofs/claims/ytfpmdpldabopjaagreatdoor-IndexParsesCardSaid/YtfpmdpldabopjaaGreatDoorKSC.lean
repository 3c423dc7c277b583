/- The contract of strconv.Atoi at every text, laid over this program. -/
import Derived.Shelf.LaysC
import Derived.Shelf.Strconv.AtoiAll
import Derived.Test.YtfpmdpldabopjaaGreatDoorKSA
namespace Go.Proofs.YtfpmdpldabopjaaGreatDoor
open Go Go.Shelf Go.Abs Go.RowKit
set_option linter.unusedSimpArgs false
set_option linter.unusedVariables false
theorem zlayD : Go.Proofs.LaysC.n172 Tryz.prog zlayA_ren := {
  zlayA with
  t80 := Tryz.underlying75
  a80 := Tryz.isAgg75
  z80 := Tryz.sizeOf75
  v80 := Tryz.zeroValue75
  i0 := by kernel_rfl
  i2 := by kernel_rfl
  i3 := by kernel_rfl
  i4 := by kernel_rfl
  i5 := by kernel_rfl
  i9 := by kernel_rfl
  i20 := by kernel_rfl
  i21 := by kernel_rfl
  i37 := by kernel_rfl
  i46 := by kernel_rfl
  i51 := by kernel_rfl
  i53 := by kernel_rfl
  i75 := by kernel_rfl
  i76 := by kernel_rfl
  i80 := by kernel_rfl
  i85 := by kernel_rfl
  i127 := by kernel_rfl
  i143 := by kernel_rfl
  i145 := by kernel_rfl
  i167 := by kernel_rfl
  i168 := by kernel_rfl
  i171 := by kernel_rfl
  i173 := by kernel_rfl
  i175 := by kernel_rfl
  i210 := by kernel_rfl
  i212 := by kernel_rfl
  i232 := by kernel_rfl
  i233 := by kernel_rfl
  m15 := by kernel_rfl
  m16 := by kernel_rfl
  m17 := by kernel_rfl
  m18 := by kernel_rfl
  m19 := by kernel_rfl
  c0 := by kernel_rfl
  c2 := by kernel_rfl
  c3 := by kernel_rfl
  c4 := by kernel_rfl
  c5 := by kernel_rfl
  c9 := by kernel_rfl
  c20 := by kernel_rfl
  c21 := by kernel_rfl
  c37 := by kernel_rfl
  c46 := by kernel_rfl
  c51 := by kernel_rfl
  c53 := by kernel_rfl
  c75 := by kernel_rfl
  c76 := by kernel_rfl
  c80 := by kernel_rfl
  c85 := by kernel_rfl
  c127 := by kernel_rfl
  c143 := by kernel_rfl
  c145 := by kernel_rfl
  c167 := by kernel_rfl
  c168 := by kernel_rfl
  c171 := by kernel_rfl
  c173 := by kernel_rfl
  c175 := by kernel_rfl
  c210 := by kernel_rfl
  c212 := by kernel_rfl
  c213 := by kernel_rfl
  c232 := by kernel_rfl
  c233 := by kernel_rfl }
def EF (w : World) : Prop := ∃ e1 e2, (w.cell? ⟨1, 0, none⟩ = some e1 ∧ (e1 = .nilIface ∨ ∃ te pe, e1 = .iface te pe)) ∧ (w.cell? ⟨2, 0, none⟩ = some e2 ∧ (e2 = .nilIface ∨ ∃ te pe, e2 = .iface te pe))
theorem hrel_below {B : Nat} {w w' : World} {G : Gh} {H : Heap} (h : HRel B w G H) (hb : Below w.heap.size w w') : Ext B w G w' G ∧ HRel B w' G H := by
  have he : Ext B w G w' G := ⟨hb.mono h.base, fun _ => Nat.le_refl _, fun b off ho => hb.cell (p := ⟨b, off, none⟩) (L_lt h ho), fun _ gi hg => ⟨gi, hg, gi.le_refl⟩⟩
  exact ⟨he, h.keep he rfl (fun id gi b h1 h2 => ⟨hb.block b (h.lt id gi b h1 h2), rfl⟩) fun b hbb => h.fresh b (Nat.le_trans hb.size hbb)⟩
theorem Atoi_any (s : List UInt8) (hl : s.length ≤ 1000000000) (H : Heap) (i : Nat) (hf : H[i]? = some (.fact EF)) (K : AV → Heap → Prop) (hK : s ≠ [] → ∀ n, K (.tup [.int .i64 n, .nili]) H) (hK2 : ∀ n, K (.tup [.int .i64 n, .ifc]) H) : ACalls Tryz.prog n_zq114 [.str s] H K := by
  intro B w G ⟨vs⟩ hH hv
  match vs, hv with
  | [v0], ⟨e0, _⟩ =>
    have e0 : v0 = .string ⟨s.toArray⟩ := e0
    subst e0
    obtain ⟨e1, e2, ⟨c1, i1⟩, c2, i2⟩ := fact_use hH hf
    have hsz : (⟨s.toArray⟩ : ByteArray).size = s.length := by simp [ByteArray.size]
    rcases ha : Lib.atoiAll s with n | _ | _
    · refine ((Any.strconv_Atoi_ok zlayD ⟨s.toArray⟩ (by rw [hsz]; omega) n (by simpa using ha) w : Calls Tryz.prog 116 _ _ _)).mono ?_
      rintro e w' ⟨rfl, hW⟩
      have hb : Below w.heap.size w w' := by
        rcases hW with rfl | ⟨t, rfl⟩
        · exact Below.refl _ _
        · exact Lib.bytesWorld_below _ _ _
      obtain ⟨h1, h2⟩ := hrel_below hH hb
      exact ⟨_, .tup [.int .i64 n, .nili], H, G, rfl, h1, h2, ⟨_, rfl, rfl, rfl, trivial⟩, hK (fun h => by subst h; revert ha; simp [Lib.atoiAll]) n⟩
    · refine ((Any.strconv_Atoi_syntax zlayD ⟨s.toArray⟩ (by rw [hsz]; omega) (by simpa using ha) e1 w c1 i1 : Calls Tryz.prog 116 _ _ _)).mono ?_
      rintro e w' ⟨N, rfl, _, _, hb⟩
      obtain ⟨h1, h2⟩ := hrel_below hH hb
      exact ⟨_, .tup [.int .i64 0, .ifc], H, G, rfl, h1, h2, ⟨_, rfl, rfl, ⟨_, _, rfl⟩, trivial⟩, hK2 0⟩
    · refine ((Any.strconv_Atoi_range zlayD ⟨s.toArray⟩ (by rw [hsz]; omega) (by simpa using ha) e2 w c2 i2 : Calls Tryz.prog 116 _ _ _)).mono ?_
      rintro e w' ⟨N, rfl, _, _, hb⟩
      obtain ⟨h1, h2⟩ := hrel_below hH hb
      exact ⟨_, .tup [.int .i64 (Lib.atoiSat s), .ifc], H, G, rfl, h1, h2, ⟨_, rfl, rfl, ⟨_, _, rfl⟩, trivial⟩, hK2 _⟩
end Go.Proofs.YtfpmdpldabopjaaGreatDoor
