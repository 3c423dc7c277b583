import Derived.Test.YtfpmdpldabopjaaGreatDoorKSH
import Derived.Test.YtfpmdpldabopjaaGreatDoorRows
import Derived.LaidSub
import Derived.MakeChecks
import Derived.Lib.AppendIntMem
import Derived.Test.YtfpmdpldabopjaaGreatDoorA3
import Derived.Test.YtfpmdpldabopjaaGreatDoorKGY
import Derived.Stop.LaidErr
namespace Go.Proofs.YtfpmdpldabopjaaGreatDoor
open Go Go.Abs Go.RowKit
theorem laidF_of {l : List (String × DataW Unit)} {W : World} (h : laidMetH Tryz.prog l W) (h2 : l.filter (fun x => x.1 == "internal/strconv.uint64pow10") = [("internal/strconv.uint64pow10", Lib.tabData .u64 Lib.pow10Tab)]) :
  ∀ w', Below W.heap.size W w' → LF w' := by
 have h1 := h.filter (fun x => x.1 == "internal/strconv.uint64pow10")
 rw [h2, Go.MakeChecks.laidMetH_plain _ _ _ rfl] at h1
 exact Lib.tabBelow_of_tabIs (Lib.tabIs_of_head (g := 0) (t := 240) (e := 189) (n := 20) (by kernel_rfl) (by kernel_rfl) Tryz.underlying240 (by kernel_rfl) (by kernel_rfl) (by kernel_rfl) h1)
end Go.Proofs.YtfpmdpldabopjaaGreatDoor
namespace Go.Abs
open Go Go.RowKit
variable {P : Program}
theorem hrelF2 (w : World) (φ ψ : World → Prop) (hφ : ∀ w', Below w.heap.size w w' → φ w') (hψ : ∀ w', Below w.heap.size w w' → ψ w') :
  Ext w.heap.size w (G0 w) w ⟨(G0 w).L, [.gap, .gap]⟩ ∧ HRel w.heap.size w ⟨(G0 w).L, [.gap, .gap]⟩ [.fact φ, .fact ψ] := by
 have h0 := hrel0 w
 have hk := (HRel.keepGaps h0 2).1
 refine ⟨hk, rfl, fun id ab gi h1 h2 => ?_, fun id id' gi gi' b h1 h2 h3 => ?_, h0.fresh, fun id gi b h1 h2 => ?_, Nat.le_refl _⟩
 ·match id, h1, h2 with
  | 0, h1, h2 =>
   simp at h1 h2
   subst h1 h2
   exact hφ
  | 1, h1, h2 =>
   simp at h1 h2
   subst h1 h2
   exact hψ
 ·match id, h1 with
  | 0, h1 => simp at h1; subst h1; cases h3
  | 1, h1 => simp at h1; subst h1; cases h3
 ·match id, h1 with
  | 0, h1 => simp at h1; subst h1; cases h2
  | 1, h1 => simp at h1; subst h1; cases h2
theorem top_ofF2 {f : FuncId} {args : List AV} {φ ψ : World → Prop} (h : ACalls P f args [.fact φ, .fact ψ] fun r _ => r = .bool true) (w : World) (vs : Array Value) (hv : All2 (TRel w (G0 w)) vs.toList args) (hφ : ∀ w', Below w.heap.size w w' → φ w') (hψ : ∀ w', Below w.heap.size w w' → ψ w') :
  Calls P f vs w fun e w' => e = .returned (.bool true) ∧ Below w.heap.size w w' := by
 obtain ⟨he, hH⟩ := hrelF2 w φ ψ hφ hψ
 refine (h _ w _ vs hH (hv.mono fun _ _ => he.trel)).mono fun e w' ⟨v, r, H', G', h1, h2, h3, h4, h5⟩ => ?_
 subst h5
 have h4 : v = .bool true := h4
 subst h4
 exact ⟨h1, h2.below⟩
end Go.Abs
namespace Go.Proofs.YtfpmdpldabopjaaGreatDoor
open Go Go.Abs Go.RowKit
theorem starE : "*" ++ "errors.errorString" = "*errors.errorString" := by decide
theorem row261 (u : TypeId) (h : Tryz.prog.typeName? 3 u = some "*errors.errorString") : u = 261 :=
 typeName_ptr_named (nm := "errors.errorString") (by rw [starE]; kernel_rfl) (by kernel_rfl) (by decide) u (by rw [starE]; exact h)
theorem laidE_one {l : List (String × DataW Unit)} {W : World} (h : laidMetH Tryz.prog l W) {n : String} {text : List UInt8} (g : Nat) (h2 : l.filter (fun x => x.1 == n) = [(n, .iface "*errors.errorString" (.ptr (.agg [.lit (.string text)])))]) (hg : Tryz.prog.globalNamed n = some g) (ht : (Tryz.prog.globals[g]?).map (·.type) = some 123) :
  ∀ w', Below W.heap.size W w' → ∃ e, w'.cell? ⟨g, 0, none⟩ = some e ∧ (e = .nilIface ∨ ∃ te pe, e = .iface te pe) := by
 have h1 := h.filter (fun x => x.1 == n)
 rw [h2, Go.MakeChecks.laidMetH_plain _ _ _ rfl] at h1
 obtain ⟨a, s, hv, _, _, _⟩ := laid_sentinel (ti := 123) (tp := 261) (te := 263) (ts := 9) h1 hg ht Tryz.underlying123 row261 Tryz.underlying261 Tryz.underlying263 rfl rfl Tryz.underlying9 (by kernel_rfl) (by kernel_rfl)
 intro w' hb
 have hc := World.var?_cell hg hv 0
 have hlt : g < W.heap.size := Lib.lt_of_cell hc
 refine ⟨_, (hb.cell (p := ⟨g, 0, none⟩) hlt).trans hc, .inr ⟨_, _, rfl⟩⟩
theorem laidE_of {l : List (String × DataW Unit)} {W : World} (h : laidMetH Tryz.prog l W) (h1 : l.filter (fun x => x.1 == "strconv.ErrSyntax") = [("strconv.ErrSyntax", Rows.laid_strconv_ErrSyntax)]) (h2 : l.filter (fun x => x.1 == "strconv.ErrRange") = [("strconv.ErrRange", Rows.laid_strconv_ErrRange)]) :
  ∀ w', Below W.heap.size W w' → EF w' := fun w' hb => by
 obtain ⟨e1, c1⟩ := laidE_one h 1 h1 (by kernel_rfl) (by kernel_rfl) w' hb
 obtain ⟨e2, c2⟩ := laidE_one h 2 h2 (by kernel_rfl) (by kernel_rfl) w' hb
 exact ⟨e1, e2, c1, c2⟩
end Go.Proofs.YtfpmdpldabopjaaGreatDoor
