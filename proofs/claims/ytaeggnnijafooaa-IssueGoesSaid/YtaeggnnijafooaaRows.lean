/-
  No cell of these rows narrows 'for every input' (looked for: loops, veiled, ifaces, maps, wideKeys, modest, calm, conditions, laid).
  DERIVED. THE GIVEN ROWS OF THIS SEAT. 5 by the template 'for every input the law returns true; each argument reads behind the call as it read before'; 0 by the template 'total and deterministic' (their statements: YtaeggnnijafooaaTotals.lean).
  GIVEN WITH THE SEED: the statements are not yours to turn. If you find one false, say at which input.
  Laid BY PROGRAM, IN A SANDBOX (cutbox-rows.mjs): the forced cells as the released guide's own fill.sh prints them over the translation e14498fd61b35994… (all of the seat's roots in one cut). By AI agents, Wed Nov 11 2026. No macro, syntax, notation, axiom, sorry.
-/
import Derived.Test.YtaeggnnijafooaaChecked
import GoSem.Claim
import GoSem.ClaimJoined
import GoSem.ClaimMapViews
import Derived.JoinedTies
import Derived.KernelRfl
namespace Go.Proofs.Ytaeggnnijafooaa
/- THE CELL 'sum', in the pinned program and in every row, IS THE sha256 OF THE DUMP (.gsa) THAT YtaeggnnijafooaaProg.lean LOADS. Nothing in Lean hashes anything: it is a label: what it is worth is what the hold of that sum in a sandbox is worth. -/
noncomputable def Try.pinned : Pinned := { name := "ytaeggnnijafooaa", sum := "e14498fd61b35994e0b0fc66e2876642b0bb4f1baa77ea825e96cb8be3c6755d", checked := Try.checked }
namespace Rows
def none {H : Type} : Left H := { results := [], args := [] }

/-- 'tandemlaw22.IssueDoes': WHATEVER THE INPUT: true; the input reads as it did. -/
def issueDoesSpec : ChangeSpec := { name := "issueDoes", fn := fun _ => fun
  | [d1, d2] => { results := [.lit (.bool true)], args := [d1, d2] }
  | _ => none }
def issueDoesRow : OpenClaim := { program := "ytaeggnnijafooaa", sum := "e14498fd61b35994e0b0fc66e2876642b0bb4f1baa77ea825e96cb8be3c6755d", func := "tandem/tandemlaw22.IssueDoes", spec := "issueDoes", recurses := true, apart := false }
def IssueDoesSaid : Prop := issueDoesRow.holds Try.pinned (OpenSpec.ofChange issueDoesSpec)

/-- ITS FALSE NEIGHBOUR: 'it returns false'. Refute it at one input. -/
def issueDoesWrong : ChangeSpec := { name := "issueDoes", fn := fun _ => fun
  | [d1, d2] => { results := [.lit (.bool false)], args := [d1, d2] }
  | _ => none }
def IssueDoesWrongFalsely : Prop := issueDoesRow.holds Try.pinned (OpenSpec.ofChange issueDoesWrong)

/-- 'tandemlaw22.IssueUnits': WHATEVER THE INPUT: true; the input reads as it did. -/
def issueUnitsSpec : ChangeSpec := { name := "issueUnits", fn := fun _ => fun
  | [d] => { results := [.lit (.bool true)], args := [d] }
  | _ => none }
def issueUnitsRow : OpenClaim := { program := "ytaeggnnijafooaa", sum := "e14498fd61b35994e0b0fc66e2876642b0bb4f1baa77ea825e96cb8be3c6755d", func := "tandem/tandemlaw22.IssueUnits", spec := "issueUnits", recurses := true, apart := false }
def IssueUnitsSaid : Prop := issueUnitsRow.holds Try.pinned (OpenSpec.ofChange issueUnitsSpec)

/-- ITS FALSE NEIGHBOUR: 'it returns false'. Refute it at one input. -/
def issueUnitsWrong : ChangeSpec := { name := "issueUnits", fn := fun _ => fun
  | [d] => { results := [.lit (.bool false)], args := [d] }
  | _ => none }
def IssueUnitsWrongFalsely : Prop := issueUnitsRow.holds Try.pinned (OpenSpec.ofChange issueUnitsWrong)

/-- 'tandemlaw22.IssueGoes': WHATEVER THE INPUT: true; the input reads as it did. -/
def issueGoesSpec : ChangeSpec := { name := "issueGoes", fn := fun _ => fun
  | [d] => { results := [.lit (.bool true)], args := [d] }
  | _ => none }
def issueGoesRow : OpenClaim := { program := "ytaeggnnijafooaa", sum := "e14498fd61b35994e0b0fc66e2876642b0bb4f1baa77ea825e96cb8be3c6755d", func := "tandem/tandemlaw22.IssueGoes", spec := "issueGoes", recurses := true, apart := false }
def IssueGoesSaid : Prop := issueGoesRow.holds Try.pinned (OpenSpec.ofChange issueGoesSpec)

/-- ITS FALSE NEIGHBOUR: 'it returns false'. Refute it at one input. -/
def issueGoesWrong : ChangeSpec := { name := "issueGoes", fn := fun _ => fun
  | [d] => { results := [.lit (.bool false)], args := [d] }
  | _ => none }
def IssueGoesWrongFalsely : Prop := issueGoesRow.holds Try.pinned (OpenSpec.ofChange issueGoesWrong)

/-- 'tandemlaw22.IssueTurns': WHATEVER THE INPUT: true; the input reads as it did. -/
def issueTurnsSpec : ChangeSpec := { name := "issueTurns", fn := fun _ => fun
  | [d1, d2, d3] => { results := [.lit (.bool true)], args := [d1, d2, d3] }
  | _ => none }
def issueTurnsRow : OpenClaim := { program := "ytaeggnnijafooaa", sum := "e14498fd61b35994e0b0fc66e2876642b0bb4f1baa77ea825e96cb8be3c6755d", func := "tandem/tandemlaw22.IssueTurns", spec := "issueTurns", recurses := true, apart := false }
def IssueTurnsSaid : Prop := issueTurnsRow.holds Try.pinned (OpenSpec.ofChange issueTurnsSpec)

/-- ITS FALSE NEIGHBOUR: 'it returns false'. Refute it at one input. -/
def issueTurnsWrong : ChangeSpec := { name := "issueTurns", fn := fun _ => fun
  | [d1, d2, d3] => { results := [.lit (.bool false)], args := [d1, d2, d3] }
  | _ => none }
def IssueTurnsWrongFalsely : Prop := issueTurnsRow.holds Try.pinned (OpenSpec.ofChange issueTurnsWrong)

/-- 'tandemlaw22.IssueWakes': WHATEVER THE INPUT: true; the input reads as it did. -/
def issueWakesSpec : ChangeSpec := { name := "issueWakes", fn := fun _ => fun
  | [d1, d2] => { results := [.lit (.bool true)], args := [d1, d2] }
  | _ => none }
def issueWakesRow : OpenClaim := { program := "ytaeggnnijafooaa", sum := "e14498fd61b35994e0b0fc66e2876642b0bb4f1baa77ea825e96cb8be3c6755d", func := "tandem/tandemlaw22.IssueWakes", spec := "issueWakes", recurses := true, apart := false }
def IssueWakesSaid : Prop := issueWakesRow.holds Try.pinned (OpenSpec.ofChange issueWakesSpec)

/-- ITS FALSE NEIGHBOUR: 'it returns false'. Refute it at one input. -/
def issueWakesWrong : ChangeSpec := { name := "issueWakes", fn := fun _ => fun
  | [d1, d2] => { results := [.lit (.bool false)], args := [d1, d2] }
  | _ => none }
def IssueWakesWrongFalsely : Prop := issueWakesRow.holds Try.pinned (OpenSpec.ofChange issueWakesWrong)

/- THE SECOND FORM. 'bulk': how many values and letters a reading holds, each counted each time it is reached (what is shared counts as often as it is met; a slice's spare places count too). A statement '..UptoSaid' is the law's where the arguments, and the package variables that the reading takes, are together of bulk at most 1048576: NARROWER than '..Said'. Prove '..Said' where nothing that the law and all that it calls make is longer than what came in: it says more and counts as full. Else prove '..UptoSaid'. A law counts once. -/
mutual
def uptoBulk {H : Type} : DataW H → Nat
  | .lit (.string bytes) => bytes.length + 1
  | .lit _ => 1
  | .nil => 1
  | .ptr d => uptoBulk d + 1
  | .slice elems spare => uptoBulkAll elems + uptoBulkAll spare + 1
  | .agg parts => uptoBulkAll parts + 1
  | .iface _ d => uptoBulk d + 1
  | .map entries => uptoBulkEntries entries + 1
  | .held _ => 1
def uptoBulkAll {H : Type} : List (DataW H) → Nat
  | [] => 0
  | d :: r => uptoBulk d + uptoBulkAll r
def uptoBulkEntries {H : Type} : List (Lit × DataW H) → Nat
  | [] => 0
  | x :: r => uptoBulkEntry x + uptoBulkEntries r
def uptoBulkEntry {H : Type} : Lit × DataW H → Nat
  | (.string bytes, d) => bytes.length + uptoBulk d + 1
  | (_, d) => uptoBulk d + 1
 end
def uptoSmall : (H : Type) → List (DataW H) → Bool := fun _ ds => decide (uptoBulkAll ds ≤ 1048576)
def OpenSpec.upto (s : _root_.Go.ChangeSpec) : _root_.Go.OpenSpec := { _root_.Go.OpenSpec.ofChange s with cond := some uptoSmall }

/-- 'tandemlaw22.IssueDoes', WHERE WHAT IT READS IS OF BULK AT MOST 1048576: true; the input reads as it did. -/
def issueDoesUptoRow : OpenClaim := { program := "ytaeggnnijafooaa", sum := "e14498fd61b35994e0b0fc66e2876642b0bb4f1baa77ea825e96cb8be3c6755d", func := "tandem/tandemlaw22.IssueDoes", spec := "issueDoes", recurses := true, apart := false, narrowed := true }
def IssueDoesUptoSaid : Prop := issueDoesUptoRow.holds Try.pinned (OpenSpec.upto issueDoesSpec)

/-- 'tandemlaw22.IssueUnits', WHERE WHAT IT READS IS OF BULK AT MOST 1048576: true; the input reads as it did. -/
def issueUnitsUptoRow : OpenClaim := { program := "ytaeggnnijafooaa", sum := "e14498fd61b35994e0b0fc66e2876642b0bb4f1baa77ea825e96cb8be3c6755d", func := "tandem/tandemlaw22.IssueUnits", spec := "issueUnits", recurses := true, apart := false, narrowed := true }
def IssueUnitsUptoSaid : Prop := issueUnitsUptoRow.holds Try.pinned (OpenSpec.upto issueUnitsSpec)

/-- 'tandemlaw22.IssueGoes', WHERE WHAT IT READS IS OF BULK AT MOST 1048576: true; the input reads as it did. -/
def issueGoesUptoRow : OpenClaim := { program := "ytaeggnnijafooaa", sum := "e14498fd61b35994e0b0fc66e2876642b0bb4f1baa77ea825e96cb8be3c6755d", func := "tandem/tandemlaw22.IssueGoes", spec := "issueGoes", recurses := true, apart := false, narrowed := true }
def IssueGoesUptoSaid : Prop := issueGoesUptoRow.holds Try.pinned (OpenSpec.upto issueGoesSpec)

/-- 'tandemlaw22.IssueTurns', WHERE WHAT IT READS IS OF BULK AT MOST 1048576: true; the input reads as it did. -/
def issueTurnsUptoRow : OpenClaim := { program := "ytaeggnnijafooaa", sum := "e14498fd61b35994e0b0fc66e2876642b0bb4f1baa77ea825e96cb8be3c6755d", func := "tandem/tandemlaw22.IssueTurns", spec := "issueTurns", recurses := true, apart := false, narrowed := true }
def IssueTurnsUptoSaid : Prop := issueTurnsUptoRow.holds Try.pinned (OpenSpec.upto issueTurnsSpec)

/-- 'tandemlaw22.IssueWakes', WHERE WHAT IT READS IS OF BULK AT MOST 1048576: true; the input reads as it did. -/
def issueWakesUptoRow : OpenClaim := { program := "ytaeggnnijafooaa", sum := "e14498fd61b35994e0b0fc66e2876642b0bb4f1baa77ea825e96cb8be3c6755d", func := "tandem/tandemlaw22.IssueWakes", spec := "issueWakes", recurses := true, apart := false, narrowed := true }
def IssueWakesUptoSaid : Prop := issueWakesUptoRow.holds Try.pinned (OpenSpec.upto issueWakesSpec)

end Rows
end Go.Proofs.Ytaeggnnijafooaa
