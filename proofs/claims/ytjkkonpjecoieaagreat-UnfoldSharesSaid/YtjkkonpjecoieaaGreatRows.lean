/-
  NARROWER THAN 'FOR EVERY INPUT', by the rows' own cells (each row's printed sentence says how): BasisCounts: loops · UnfoldConserves: loops · UnfoldShares: loops · UnfoldChecks: loops.
  DERIVED. THE GIVEN ROWS OF THIS SEAT. 4 by the template 'for every input the law returns true; each argument reads behind the call as it read before'; 0 by the template 'total and deterministic' (their statements: YtjkkonpjecoieaaGreatTotals.lean).
  GIVEN WITH THE SEED: the statements are not yours to turn. If you find one false, say at which input.
  Laid BY PROGRAM, IN A SANDBOX (cutbox-rows.mjs): the forced cells as the released guide's own fill.sh prints them over the translation 5ba17d42c3e24d6f… (all of the seat's roots in one cut). By AI agents, Wed Nov 11 2026. No macro, syntax, notation, axiom, sorry.
-/
import Derived.Test.YtjkkonpjecoieaaGreatChecked
import GoSem.Claim
import GoSem.ClaimJoined
import GoSem.ClaimMapViews
import Derived.JoinedTies
import Derived.KernelRfl
namespace Go.Proofs.YtjkkonpjecoieaaGreat
/- THE CELL 'sum', in the pinned program and in every row, IS THE sha256 OF THE DUMP (.gsa) THAT YtjkkonpjecoieaaGreatProg.lean LOADS. Nothing in Lean hashes anything: it is a label: what it is worth is what the hold of that sum in a sandbox is worth. -/
noncomputable def Tryz.pinned : Pinned := { name := "ytjkkonpjecoieaagreat", sum := "5ba17d42c3e24d6f2eb3d669a29313151b94252727a0e417e8f1dfd9427e0bbd", checked := Tryz.checked }
namespace Rows
def none {H : Type} : Left H := { results := [], args := [] }

/-- 'amortcostlaw16.BasisCounts': WHATEVER THE INPUT: true; the input reads as it did. -/
def basisCountsSpec : ChangeSpec := { name := "basisCounts", fn := fun _ => fun
  | [d1, d2, d3, d4] => { results := [.lit (.bool true)], args := [d1, d2, d3, d4] }
  | _ => none }
def basisCountsRow : OpenClaim := { program := "ytjkkonpjecoieaagreat", sum := "5ba17d42c3e24d6f2eb3d669a29313151b94252727a0e417e8f1dfd9427e0bbd", func := "amortcost/amortcostlaw16.BasisCounts", spec := "basisCounts", unfollowed := true, recurses := true, loops := true, apart := false }
def BasisCountsSaid : Prop := basisCountsRow.holds Tryz.pinned (OpenSpec.ofChange basisCountsSpec)

/-- ITS FALSE NEIGHBOUR: 'it returns false'. Refute it at one input. -/
def basisCountsWrong : ChangeSpec := { name := "basisCounts", fn := fun _ => fun
  | [d1, d2, d3, d4] => { results := [.lit (.bool false)], args := [d1, d2, d3, d4] }
  | _ => none }
def BasisCountsWrongFalsely : Prop := basisCountsRow.holds Tryz.pinned (OpenSpec.ofChange basisCountsWrong)

/-- 'amortcostlaw18.UnfoldConserves': WHATEVER THE INPUT: true; the input reads as it did. -/
def unfoldConservesSpec : ChangeSpec := { name := "unfoldConserves", fn := fun _ => fun
  | [d1, d2, d3, d4] => { results := [.lit (.bool true)], args := [d1, d2, d3, d4] }
  | _ => none }
def unfoldConservesRow : OpenClaim := { program := "ytjkkonpjecoieaagreat", sum := "5ba17d42c3e24d6f2eb3d669a29313151b94252727a0e417e8f1dfd9427e0bbd", func := "amortcost/amortcostlaw18.UnfoldConserves", spec := "unfoldConserves", unfollowed := true, recurses := true, loops := true, apart := false }
def UnfoldConservesSaid : Prop := unfoldConservesRow.holds Tryz.pinned (OpenSpec.ofChange unfoldConservesSpec)

/-- ITS FALSE NEIGHBOUR: 'it returns false'. Refute it at one input. -/
def unfoldConservesWrong : ChangeSpec := { name := "unfoldConserves", fn := fun _ => fun
  | [d1, d2, d3, d4] => { results := [.lit (.bool false)], args := [d1, d2, d3, d4] }
  | _ => none }
def UnfoldConservesWrongFalsely : Prop := unfoldConservesRow.holds Tryz.pinned (OpenSpec.ofChange unfoldConservesWrong)

/-- 'amortcostlaw18.UnfoldShares': WHATEVER THE INPUT: true; the input reads as it did. -/
def unfoldSharesSpec : ChangeSpec := { name := "unfoldShares", fn := fun _ => fun
  | [d1, d2, d3, d4, d5] => { results := [.lit (.bool true)], args := [d1, d2, d3, d4, d5] }
  | _ => none }
def unfoldSharesRow : OpenClaim := { program := "ytjkkonpjecoieaagreat", sum := "5ba17d42c3e24d6f2eb3d669a29313151b94252727a0e417e8f1dfd9427e0bbd", func := "amortcost/amortcostlaw18.UnfoldShares", spec := "unfoldShares", unfollowed := true, recurses := true, loops := true, apart := false }
def UnfoldSharesSaid : Prop := unfoldSharesRow.holds Tryz.pinned (OpenSpec.ofChange unfoldSharesSpec)

/-- ITS FALSE NEIGHBOUR: 'it returns false'. Refute it at one input. -/
def unfoldSharesWrong : ChangeSpec := { name := "unfoldShares", fn := fun _ => fun
  | [d1, d2, d3, d4, d5] => { results := [.lit (.bool false)], args := [d1, d2, d3, d4, d5] }
  | _ => none }
def UnfoldSharesWrongFalsely : Prop := unfoldSharesRow.holds Tryz.pinned (OpenSpec.ofChange unfoldSharesWrong)

/-- 'amortcostlaw18.UnfoldChecks': WHATEVER THE INPUT: true; the input reads as it did. -/
def unfoldChecksSpec : ChangeSpec := { name := "unfoldChecks", fn := fun _ => fun
  | [d1, d2, d3, d4] => { results := [.lit (.bool true)], args := [d1, d2, d3, d4] }
  | _ => none }
def unfoldChecksRow : OpenClaim := { program := "ytjkkonpjecoieaagreat", sum := "5ba17d42c3e24d6f2eb3d669a29313151b94252727a0e417e8f1dfd9427e0bbd", func := "amortcost/amortcostlaw18.UnfoldChecks", spec := "unfoldChecks", unfollowed := true, recurses := true, loops := true, apart := false }
def UnfoldChecksSaid : Prop := unfoldChecksRow.holds Tryz.pinned (OpenSpec.ofChange unfoldChecksSpec)

/-- ITS FALSE NEIGHBOUR: 'it returns false'. Refute it at one input. -/
def unfoldChecksWrong : ChangeSpec := { name := "unfoldChecks", fn := fun _ => fun
  | [d1, d2, d3, d4] => { results := [.lit (.bool false)], args := [d1, d2, d3, d4] }
  | _ => none }
def UnfoldChecksWrongFalsely : Prop := unfoldChecksRow.holds Tryz.pinned (OpenSpec.ofChange unfoldChecksWrong)

/- THE SECOND FORM. 'bulk': how many values and letters a reading holds, each counted each time it is reached (what is shared counts as often as it is met; a slice's spare places count too). A statement '..UptoSaid' is the law's where the arguments, and the package variables that the reading takes, are together of bulk at most 1048576: NARROWER than '..Said'. Prove '..Said' where nothing that the law and all that it calls make is longer than what came in: it says more and counts as full. Else prove '..UptoSaid'. A law counts once. -/
mutual
def uptoBulk {H : Type} : DataW H → Nat
  | .lit (.string bytes) => bytes.length + 1
  | .lit _ => 1
  | .nil => 1
  | .ptr d => uptoBulk d + 1
  | .slice elems spare => uptoBulkAll elems + uptoBulkAll spare + 1
  | .agg parts => uptoBulkAll parts + 1
  | .iface _ d => uptoBulk d + 1
  | .map entries => uptoBulkEntries entries + 1
  | .held _ => 1
def uptoBulkAll {H : Type} : List (DataW H) → Nat
  | [] => 0
  | d :: r => uptoBulk d + uptoBulkAll r
def uptoBulkEntries {H : Type} : List (Lit × DataW H) → Nat
  | [] => 0
  | x :: r => uptoBulkEntry x + uptoBulkEntries r
def uptoBulkEntry {H : Type} : Lit × DataW H → Nat
  | (.string bytes, d) => bytes.length + uptoBulk d + 1
  | (_, d) => uptoBulk d + 1
 end
def uptoSmall : (H : Type) → List (DataW H) → Bool := fun _ ds => decide (uptoBulkAll ds ≤ 1048576)
def OpenSpec.upto (s : _root_.Go.ChangeSpec) : _root_.Go.OpenSpec := { _root_.Go.OpenSpec.ofChange s with cond := some uptoSmall }

/-- 'amortcostlaw16.BasisCounts', WHERE WHAT IT READS IS OF BULK AT MOST 1048576: true; the input reads as it did. -/
def basisCountsUptoRow : OpenClaim := { program := "ytjkkonpjecoieaagreat", sum := "5ba17d42c3e24d6f2eb3d669a29313151b94252727a0e417e8f1dfd9427e0bbd", func := "amortcost/amortcostlaw16.BasisCounts", spec := "basisCounts", unfollowed := true, recurses := true, loops := true, apart := false, narrowed := true }
def BasisCountsUptoSaid : Prop := basisCountsUptoRow.holds Tryz.pinned (OpenSpec.upto basisCountsSpec)

/-- 'amortcostlaw18.UnfoldConserves', WHERE WHAT IT READS IS OF BULK AT MOST 1048576: true; the input reads as it did. -/
def unfoldConservesUptoRow : OpenClaim := { program := "ytjkkonpjecoieaagreat", sum := "5ba17d42c3e24d6f2eb3d669a29313151b94252727a0e417e8f1dfd9427e0bbd", func := "amortcost/amortcostlaw18.UnfoldConserves", spec := "unfoldConserves", unfollowed := true, recurses := true, loops := true, apart := false, narrowed := true }
def UnfoldConservesUptoSaid : Prop := unfoldConservesUptoRow.holds Tryz.pinned (OpenSpec.upto unfoldConservesSpec)

/-- 'amortcostlaw18.UnfoldShares', WHERE WHAT IT READS IS OF BULK AT MOST 1048576: true; the input reads as it did. -/
def unfoldSharesUptoRow : OpenClaim := { program := "ytjkkonpjecoieaagreat", sum := "5ba17d42c3e24d6f2eb3d669a29313151b94252727a0e417e8f1dfd9427e0bbd", func := "amortcost/amortcostlaw18.UnfoldShares", spec := "unfoldShares", unfollowed := true, recurses := true, loops := true, apart := false, narrowed := true }
def UnfoldSharesUptoSaid : Prop := unfoldSharesUptoRow.holds Tryz.pinned (OpenSpec.upto unfoldSharesSpec)

/-- 'amortcostlaw18.UnfoldChecks', WHERE WHAT IT READS IS OF BULK AT MOST 1048576: true; the input reads as it did. -/
def unfoldChecksUptoRow : OpenClaim := { program := "ytjkkonpjecoieaagreat", sum := "5ba17d42c3e24d6f2eb3d669a29313151b94252727a0e417e8f1dfd9427e0bbd", func := "amortcost/amortcostlaw18.UnfoldChecks", spec := "unfoldChecks", unfollowed := true, recurses := true, loops := true, apart := false, narrowed := true }
def UnfoldChecksUptoSaid : Prop := unfoldChecksUptoRow.holds Tryz.pinned (OpenSpec.upto unfoldChecksSpec)

end Rows
end Go.Proofs.YtjkkonpjecoieaaGreat
