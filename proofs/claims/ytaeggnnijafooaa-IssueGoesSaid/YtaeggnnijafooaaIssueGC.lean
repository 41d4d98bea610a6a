/-
  IssueGoes: its walk under its frame's names.
-/
import Derived.Test.YtaeggnnijafooaaIssueDC
import Derived.Test.YtaeggnnijafooaaIssueGB
namespace Go.Proofs.Ytaeggnnijafooaa
set_option linter.unusedVariables false
open Go.RowKit Go.WideShapes

theorem Goes_walk (W : World) (oa : Option Addr) (l : List Sx) (cap : Nat) (hl : StepsAt W oa l) :
    Calls Try.prog 5 #[.slice oa l.length cap] W fun e w' => e = .returned (.bool true) ∧ Below W.heap.size W w' := Goes_fine W oa l cap hl
end Go.Proofs.Ytaeggnnijafooaa
