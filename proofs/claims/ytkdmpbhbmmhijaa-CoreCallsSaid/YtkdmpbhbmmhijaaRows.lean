/-
  NARROWER THAN 'FOR EVERY INPUT', by the rows' own cells (each row's printed sentence says how): CoreValid: loops · CoreFinds: loops · CoreOwners: loops · CoreTails: loops · CoreNests: loops · CoreFrees: loops · CoreScopes: loops · CoreInside: loops · CoreCalls: loops.
  DERIVED. THE GIVEN ROWS OF THIS SEAT. 9 by the template 'for every input the law returns true; each argument reads behind the call as it read before'; 0 by the template 'total and deterministic' (their statements: YtkdmpbhbmmhijaaTotals.lean).
  GIVEN WITH THE SEED: the statements are not yours to turn. If you find one false, say at which input.
  Laid BY PROGRAM, IN A SANDBOX (cutbox-rows.mjs): the forced cells as the released guide's own fill.sh prints them over the translation 7bb41166fe610d59… (all of the seat's roots in one cut). By AI agents, Wed Nov 11 2026. No macro, syntax, notation, axiom, sorry.
-/
import Derived.Test.YtkdmpbhbmmhijaaChecked
import GoSem.Claim
import GoSem.ClaimJoined
import GoSem.ClaimMapViews
import Derived.JoinedTies
import Derived.KernelRfl
namespace Go.Proofs.Ytkdmpbhbmmhijaa
/- THE CELL 'sum', in the pinned program and in every row, IS THE sha256 OF THE DUMP (.gsa) THAT YtkdmpbhbmmhijaaProg.lean LOADS. Nothing in Lean hashes anything: it is a label: what it is worth is what the hold of that sum in a sandbox is worth. -/
noncomputable def Try.pinned : Pinned := { name := "ytkdmpbhbmmhijaa", sum := "7bb41166fe610d59b321581c1458cb501fc6c6b2a491c69f058bd370610e19fe", checked := Try.checked }
namespace Rows
def none {H : Type} : Left H := { results := [], args := [] }

/-- 'amortcostlaw09.CoreValid': WHATEVER THE INPUT: true; the input reads as it did. -/
def coreValidSpec : ChangeSpec := { name := "coreValid", fn := fun _ => fun
  | [d] => { results := [.lit (.bool true)], args := [d] }
  | _ => none }
def coreValidRow : OpenClaim := { program := "ytkdmpbhbmmhijaa", sum := "7bb41166fe610d59b321581c1458cb501fc6c6b2a491c69f058bd370610e19fe", func := "amortcost/amortcostlaw09.CoreValid", spec := "coreValid", unfollowed := true, recurses := true, loops := true, apart := false }
def CoreValidSaid : Prop := coreValidRow.holds Try.pinned (OpenSpec.ofChange coreValidSpec)

/-- ITS FALSE NEIGHBOUR: 'it returns false'. Refute it at one input. -/
def coreValidWrong : ChangeSpec := { name := "coreValid", fn := fun _ => fun
  | [d] => { results := [.lit (.bool false)], args := [d] }
  | _ => none }
def CoreValidWrongFalsely : Prop := coreValidRow.holds Try.pinned (OpenSpec.ofChange coreValidWrong)

/-- 'amortcostlaw09.CoreFinds': WHATEVER THE INPUT: true; the input reads as it did. -/
def coreFindsSpec : ChangeSpec := { name := "coreFinds", fn := fun _ => fun
  | [d1, d2, d3] => { results := [.lit (.bool true)], args := [d1, d2, d3] }
  | _ => none }
def coreFindsRow : OpenClaim := { program := "ytkdmpbhbmmhijaa", sum := "7bb41166fe610d59b321581c1458cb501fc6c6b2a491c69f058bd370610e19fe", func := "amortcost/amortcostlaw09.CoreFinds", spec := "coreFinds", unfollowed := true, recurses := true, loops := true, apart := false }
def CoreFindsSaid : Prop := coreFindsRow.holds Try.pinned (OpenSpec.ofChange coreFindsSpec)

/-- ITS FALSE NEIGHBOUR: 'it returns false'. Refute it at one input. -/
def coreFindsWrong : ChangeSpec := { name := "coreFinds", fn := fun _ => fun
  | [d1, d2, d3] => { results := [.lit (.bool false)], args := [d1, d2, d3] }
  | _ => none }
def CoreFindsWrongFalsely : Prop := coreFindsRow.holds Try.pinned (OpenSpec.ofChange coreFindsWrong)

/-- 'amortcostlaw09.CoreOwners': WHATEVER THE INPUT: true; the input reads as it did. -/
def coreOwnersSpec : ChangeSpec := { name := "coreOwners", fn := fun _ => fun
  | [d] => { results := [.lit (.bool true)], args := [d] }
  | _ => none }
def coreOwnersRow : OpenClaim := { program := "ytkdmpbhbmmhijaa", sum := "7bb41166fe610d59b321581c1458cb501fc6c6b2a491c69f058bd370610e19fe", func := "amortcost/amortcostlaw09.CoreOwners", spec := "coreOwners", unfollowed := true, recurses := true, loops := true, apart := false }
def CoreOwnersSaid : Prop := coreOwnersRow.holds Try.pinned (OpenSpec.ofChange coreOwnersSpec)

/-- ITS FALSE NEIGHBOUR: 'it returns false'. Refute it at one input. -/
def coreOwnersWrong : ChangeSpec := { name := "coreOwners", fn := fun _ => fun
  | [d] => { results := [.lit (.bool false)], args := [d] }
  | _ => none }
def CoreOwnersWrongFalsely : Prop := coreOwnersRow.holds Try.pinned (OpenSpec.ofChange coreOwnersWrong)

/-- 'amortcostlaw09.CoreTails': WHATEVER THE INPUT: true; the input reads as it did. -/
def coreTailsSpec : ChangeSpec := { name := "coreTails", fn := fun _ => fun
  | [d1, d2] => { results := [.lit (.bool true)], args := [d1, d2] }
  | _ => none }
def coreTailsRow : OpenClaim := { program := "ytkdmpbhbmmhijaa", sum := "7bb41166fe610d59b321581c1458cb501fc6c6b2a491c69f058bd370610e19fe", func := "amortcost/amortcostlaw09.CoreTails", spec := "coreTails", unfollowed := true, recurses := true, loops := true, apart := false }
def CoreTailsSaid : Prop := coreTailsRow.holds Try.pinned (OpenSpec.ofChange coreTailsSpec)

/-- ITS FALSE NEIGHBOUR: 'it returns false'. Refute it at one input. -/
def coreTailsWrong : ChangeSpec := { name := "coreTails", fn := fun _ => fun
  | [d1, d2] => { results := [.lit (.bool false)], args := [d1, d2] }
  | _ => none }
def CoreTailsWrongFalsely : Prop := coreTailsRow.holds Try.pinned (OpenSpec.ofChange coreTailsWrong)

/-- 'amortcostlaw09.CoreNests': WHATEVER THE INPUT: true; the input reads as it did. -/
def coreNestsSpec : ChangeSpec := { name := "coreNests", fn := fun _ => fun
  | [d1, d2] => { results := [.lit (.bool true)], args := [d1, d2] }
  | _ => none }
def coreNestsRow : OpenClaim := { program := "ytkdmpbhbmmhijaa", sum := "7bb41166fe610d59b321581c1458cb501fc6c6b2a491c69f058bd370610e19fe", func := "amortcost/amortcostlaw09.CoreNests", spec := "coreNests", unfollowed := true, recurses := true, loops := true, apart := false }
def CoreNestsSaid : Prop := coreNestsRow.holds Try.pinned (OpenSpec.ofChange coreNestsSpec)

/-- ITS FALSE NEIGHBOUR: 'it returns false'. Refute it at one input. -/
def coreNestsWrong : ChangeSpec := { name := "coreNests", fn := fun _ => fun
  | [d1, d2] => { results := [.lit (.bool false)], args := [d1, d2] }
  | _ => none }
def CoreNestsWrongFalsely : Prop := coreNestsRow.holds Try.pinned (OpenSpec.ofChange coreNestsWrong)

/-- 'amortcostlaw09.CoreFrees': WHATEVER THE INPUT: true; the input reads as it did. -/
def coreFreesSpec : ChangeSpec := { name := "coreFrees", fn := fun _ => fun
  | [d1, d2] => { results := [.lit (.bool true)], args := [d1, d2] }
  | _ => none }
def coreFreesRow : OpenClaim := { program := "ytkdmpbhbmmhijaa", sum := "7bb41166fe610d59b321581c1458cb501fc6c6b2a491c69f058bd370610e19fe", func := "amortcost/amortcostlaw09.CoreFrees", spec := "coreFrees", unfollowed := true, recurses := true, loops := true, apart := false }
def CoreFreesSaid : Prop := coreFreesRow.holds Try.pinned (OpenSpec.ofChange coreFreesSpec)

/-- ITS FALSE NEIGHBOUR: 'it returns false'. Refute it at one input. -/
def coreFreesWrong : ChangeSpec := { name := "coreFrees", fn := fun _ => fun
  | [d1, d2] => { results := [.lit (.bool false)], args := [d1, d2] }
  | _ => none }
def CoreFreesWrongFalsely : Prop := coreFreesRow.holds Try.pinned (OpenSpec.ofChange coreFreesWrong)

/-- 'amortcostlaw09.CoreScopes': WHATEVER THE INPUT: true; the input reads as it did. -/
def coreScopesSpec : ChangeSpec := { name := "coreScopes", fn := fun _ => fun
  | [d1, d2] => { results := [.lit (.bool true)], args := [d1, d2] }
  | _ => none }
def coreScopesRow : OpenClaim := { program := "ytkdmpbhbmmhijaa", sum := "7bb41166fe610d59b321581c1458cb501fc6c6b2a491c69f058bd370610e19fe", func := "amortcost/amortcostlaw09.CoreScopes", spec := "coreScopes", unfollowed := true, recurses := true, loops := true, apart := false }
def CoreScopesSaid : Prop := coreScopesRow.holds Try.pinned (OpenSpec.ofChange coreScopesSpec)

/-- ITS FALSE NEIGHBOUR: 'it returns false'. Refute it at one input. -/
def coreScopesWrong : ChangeSpec := { name := "coreScopes", fn := fun _ => fun
  | [d1, d2] => { results := [.lit (.bool false)], args := [d1, d2] }
  | _ => none }
def CoreScopesWrongFalsely : Prop := coreScopesRow.holds Try.pinned (OpenSpec.ofChange coreScopesWrong)

/-- 'amortcostlaw09.CoreInside': WHATEVER THE INPUT: true; the input reads as it did. -/
def coreInsideSpec : ChangeSpec := { name := "coreInside", fn := fun _ => fun
  | [d1, d2] => { results := [.lit (.bool true)], args := [d1, d2] }
  | _ => none }
def coreInsideRow : OpenClaim := { program := "ytkdmpbhbmmhijaa", sum := "7bb41166fe610d59b321581c1458cb501fc6c6b2a491c69f058bd370610e19fe", func := "amortcost/amortcostlaw09.CoreInside", spec := "coreInside", unfollowed := true, recurses := true, loops := true, apart := false }
def CoreInsideSaid : Prop := coreInsideRow.holds Try.pinned (OpenSpec.ofChange coreInsideSpec)

/-- ITS FALSE NEIGHBOUR: 'it returns false'. Refute it at one input. -/
def coreInsideWrong : ChangeSpec := { name := "coreInside", fn := fun _ => fun
  | [d1, d2] => { results := [.lit (.bool false)], args := [d1, d2] }
  | _ => none }
def CoreInsideWrongFalsely : Prop := coreInsideRow.holds Try.pinned (OpenSpec.ofChange coreInsideWrong)

/-- 'amortcostlaw09.CoreCalls': WHATEVER THE INPUT: true; the input reads as it did. -/
def coreCallsSpec : ChangeSpec := { name := "coreCalls", fn := fun _ => fun
  | [d] => { results := [.lit (.bool true)], args := [d] }
  | _ => none }
def coreCallsRow : OpenClaim := { program := "ytkdmpbhbmmhijaa", sum := "7bb41166fe610d59b321581c1458cb501fc6c6b2a491c69f058bd370610e19fe", func := "amortcost/amortcostlaw09.CoreCalls", spec := "coreCalls", unfollowed := true, recurses := true, loops := true, apart := false }
def CoreCallsSaid : Prop := coreCallsRow.holds Try.pinned (OpenSpec.ofChange coreCallsSpec)

/-- ITS FALSE NEIGHBOUR: 'it returns false'. Refute it at one input. -/
def coreCallsWrong : ChangeSpec := { name := "coreCalls", fn := fun _ => fun
  | [d] => { results := [.lit (.bool false)], args := [d] }
  | _ => none }
def CoreCallsWrongFalsely : Prop := coreCallsRow.holds Try.pinned (OpenSpec.ofChange coreCallsWrong)

/- THE SECOND FORM. 'bulk': how many values and letters a reading holds, each counted each time it is reached (what is shared counts as often as it is met; a slice's spare places count too). A statement '..UptoSaid' is the law's where the arguments, and the package variables that the reading takes, are together of bulk at most 1048576: NARROWER than '..Said'. Prove '..Said' where nothing that the law and all that it calls make is longer than what came in: it says more and counts as full. Else prove '..UptoSaid'. A law counts once. -/
mutual
def uptoBulk {H : Type} : DataW H → Nat
  | .lit (.string bytes) => bytes.length + 1
  | .lit _ => 1
  | .nil => 1
  | .ptr d => uptoBulk d + 1
  | .slice elems spare => uptoBulkAll elems + uptoBulkAll spare + 1
  | .agg parts => uptoBulkAll parts + 1
  | .iface _ d => uptoBulk d + 1
  | .map entries => uptoBulkEntries entries + 1
  | .held _ => 1
def uptoBulkAll {H : Type} : List (DataW H) → Nat
  | [] => 0
  | d :: r => uptoBulk d + uptoBulkAll r
def uptoBulkEntries {H : Type} : List (Lit × DataW H) → Nat
  | [] => 0
  | x :: r => uptoBulkEntry x + uptoBulkEntries r
def uptoBulkEntry {H : Type} : Lit × DataW H → Nat
  | (.string bytes, d) => bytes.length + uptoBulk d + 1
  | (_, d) => uptoBulk d + 1
 end
def uptoSmall : (H : Type) → List (DataW H) → Bool := fun _ ds => decide (uptoBulkAll ds ≤ 1048576)
def OpenSpec.upto (s : _root_.Go.ChangeSpec) : _root_.Go.OpenSpec := { _root_.Go.OpenSpec.ofChange s with cond := some uptoSmall }

/-- 'amortcostlaw09.CoreValid', WHERE WHAT IT READS IS OF BULK AT MOST 1048576: true; the input reads as it did. -/
def coreValidUptoRow : OpenClaim := { program := "ytkdmpbhbmmhijaa", sum := "7bb41166fe610d59b321581c1458cb501fc6c6b2a491c69f058bd370610e19fe", func := "amortcost/amortcostlaw09.CoreValid", spec := "coreValid", unfollowed := true, recurses := true, loops := true, apart := false, narrowed := true }
def CoreValidUptoSaid : Prop := coreValidUptoRow.holds Try.pinned (OpenSpec.upto coreValidSpec)

/-- 'amortcostlaw09.CoreFinds', WHERE WHAT IT READS IS OF BULK AT MOST 1048576: true; the input reads as it did. -/
def coreFindsUptoRow : OpenClaim := { program := "ytkdmpbhbmmhijaa", sum := "7bb41166fe610d59b321581c1458cb501fc6c6b2a491c69f058bd370610e19fe", func := "amortcost/amortcostlaw09.CoreFinds", spec := "coreFinds", unfollowed := true, recurses := true, loops := true, apart := false, narrowed := true }
def CoreFindsUptoSaid : Prop := coreFindsUptoRow.holds Try.pinned (OpenSpec.upto coreFindsSpec)

/-- 'amortcostlaw09.CoreOwners', WHERE WHAT IT READS IS OF BULK AT MOST 1048576: true; the input reads as it did. -/
def coreOwnersUptoRow : OpenClaim := { program := "ytkdmpbhbmmhijaa", sum := "7bb41166fe610d59b321581c1458cb501fc6c6b2a491c69f058bd370610e19fe", func := "amortcost/amortcostlaw09.CoreOwners", spec := "coreOwners", unfollowed := true, recurses := true, loops := true, apart := false, narrowed := true }
def CoreOwnersUptoSaid : Prop := coreOwnersUptoRow.holds Try.pinned (OpenSpec.upto coreOwnersSpec)

/-- 'amortcostlaw09.CoreTails', WHERE WHAT IT READS IS OF BULK AT MOST 1048576: true; the input reads as it did. -/
def coreTailsUptoRow : OpenClaim := { program := "ytkdmpbhbmmhijaa", sum := "7bb41166fe610d59b321581c1458cb501fc6c6b2a491c69f058bd370610e19fe", func := "amortcost/amortcostlaw09.CoreTails", spec := "coreTails", unfollowed := true, recurses := true, loops := true, apart := false, narrowed := true }
def CoreTailsUptoSaid : Prop := coreTailsUptoRow.holds Try.pinned (OpenSpec.upto coreTailsSpec)

/-- 'amortcostlaw09.CoreNests', WHERE WHAT IT READS IS OF BULK AT MOST 1048576: true; the input reads as it did. -/
def coreNestsUptoRow : OpenClaim := { program := "ytkdmpbhbmmhijaa", sum := "7bb41166fe610d59b321581c1458cb501fc6c6b2a491c69f058bd370610e19fe", func := "amortcost/amortcostlaw09.CoreNests", spec := "coreNests", unfollowed := true, recurses := true, loops := true, apart := false, narrowed := true }
def CoreNestsUptoSaid : Prop := coreNestsUptoRow.holds Try.pinned (OpenSpec.upto coreNestsSpec)

/-- 'amortcostlaw09.CoreFrees', WHERE WHAT IT READS IS OF BULK AT MOST 1048576: true; the input reads as it did. -/
def coreFreesUptoRow : OpenClaim := { program := "ytkdmpbhbmmhijaa", sum := "7bb41166fe610d59b321581c1458cb501fc6c6b2a491c69f058bd370610e19fe", func := "amortcost/amortcostlaw09.CoreFrees", spec := "coreFrees", unfollowed := true, recurses := true, loops := true, apart := false, narrowed := true }
def CoreFreesUptoSaid : Prop := coreFreesUptoRow.holds Try.pinned (OpenSpec.upto coreFreesSpec)

/-- 'amortcostlaw09.CoreScopes', WHERE WHAT IT READS IS OF BULK AT MOST 1048576: true; the input reads as it did. -/
def coreScopesUptoRow : OpenClaim := { program := "ytkdmpbhbmmhijaa", sum := "7bb41166fe610d59b321581c1458cb501fc6c6b2a491c69f058bd370610e19fe", func := "amortcost/amortcostlaw09.CoreScopes", spec := "coreScopes", unfollowed := true, recurses := true, loops := true, apart := false, narrowed := true }
def CoreScopesUptoSaid : Prop := coreScopesUptoRow.holds Try.pinned (OpenSpec.upto coreScopesSpec)

/-- 'amortcostlaw09.CoreInside', WHERE WHAT IT READS IS OF BULK AT MOST 1048576: true; the input reads as it did. -/
def coreInsideUptoRow : OpenClaim := { program := "ytkdmpbhbmmhijaa", sum := "7bb41166fe610d59b321581c1458cb501fc6c6b2a491c69f058bd370610e19fe", func := "amortcost/amortcostlaw09.CoreInside", spec := "coreInside", unfollowed := true, recurses := true, loops := true, apart := false, narrowed := true }
def CoreInsideUptoSaid : Prop := coreInsideUptoRow.holds Try.pinned (OpenSpec.upto coreInsideSpec)

/-- 'amortcostlaw09.CoreCalls', WHERE WHAT IT READS IS OF BULK AT MOST 1048576: true; the input reads as it did. -/
def coreCallsUptoRow : OpenClaim := { program := "ytkdmpbhbmmhijaa", sum := "7bb41166fe610d59b321581c1458cb501fc6c6b2a491c69f058bd370610e19fe", func := "amortcost/amortcostlaw09.CoreCalls", spec := "coreCalls", unfollowed := true, recurses := true, loops := true, apart := false, narrowed := true }
def CoreCallsUptoSaid : Prop := coreCallsUptoRow.holds Try.pinned (OpenSpec.upto coreCallsSpec)

end Rows
end Go.Proofs.Ytkdmpbhbmmhijaa
