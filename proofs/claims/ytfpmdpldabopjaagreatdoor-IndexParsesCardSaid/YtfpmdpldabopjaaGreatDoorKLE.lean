/- The variables of strconv's errors hold errors where the row says how they are laid. -/
import Derived.Test.YtfpmdpldabopjaaGreatDoorKSC
import Derived.Test.YtfpmdpldabopjaaGreatDoorRows
import Derived.LaidSub
import Derived.MakeChecks
import Derived.Stop.LaidErr
namespace Go.Proofs.YtfpmdpldabopjaaGreatDoor
open Go Go.Abs Go.RowKit
theorem starE : "*" ++ "errors.errorString" = "*errors.errorString" := by decide
theorem row261 (u : TypeId) (h : Tryz.prog.typeName? 3 u = some "*errors.errorString") : u = 261 :=
  typeName_ptr_named (nm := "errors.errorString") (by rw [starE]; kernel_rfl) (by kernel_rfl) (by decide) u (by rw [starE]; exact h)
theorem laidE_one {l : List (String × DataW Unit)} {W : World} (h : laidMetH Tryz.prog l W) {n : String} {text : List UInt8} (g : Nat) (h2 : l.filter (fun x => x.1 == n) = [(n, .iface "*errors.errorString" (.ptr (.agg [.lit (.string text)])))]) (hg : Tryz.prog.globalNamed n = some g) (ht : (Tryz.prog.globals[g]?).map (·.type) = some 123) :
    ∀ w', Below W.heap.size W w' → ∃ e, w'.cell? ⟨g, 0, none⟩ = some e ∧ (e = .nilIface ∨ ∃ te pe, e = .iface te pe) := by
  have h1 := h.filter (fun x => x.1 == n)
  rw [h2, Go.MakeChecks.laidMetH_plain _ _ _ rfl] at h1
  obtain ⟨a, s, hv, _, _, _⟩ := laid_sentinel (ti := 123) (tp := 261) (te := 263) (ts := 9) h1 hg ht Tryz.underlying123 row261 Tryz.underlying261 Tryz.underlying263 rfl rfl Tryz.underlying9 (by kernel_rfl) (by kernel_rfl)
  intro w' hb
  have hc := World.var?_cell hg hv 0
  have hlt : g < W.heap.size := Lib.lt_of_cell hc
  refine ⟨_, (hb.cell (p := ⟨g, 0, none⟩) hlt).trans hc, .inr ⟨_, _, rfl⟩⟩
theorem laidE_of {l : List (String × DataW Unit)} {W : World} (h : laidMetH Tryz.prog l W) (h1 : l.filter (fun x => x.1 == "strconv.ErrSyntax") = [("strconv.ErrSyntax", Rows.laid_strconv_ErrSyntax)]) (h2 : l.filter (fun x => x.1 == "strconv.ErrRange") = [("strconv.ErrRange", Rows.laid_strconv_ErrRange)]) :
    ∀ w', Below W.heap.size W w' → EF w' := fun w' hb => by
  obtain ⟨e1, c1⟩ := laidE_one h 1 h1 (by kernel_rfl) (by kernel_rfl) w' hb
  obtain ⟨e2, c2⟩ := laidE_one h 2 h2 (by kernel_rfl) (by kernel_rfl) w' hb
  exact ⟨e1, e2, c1, c2⟩
end Go.Proofs.YtfpmdpldabopjaaGreatDoor
