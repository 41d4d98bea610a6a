/-
  The body of IssueGoes' loop, taken out of the program's own text.
-/
import Derived.Test.YtaeggnnijafooaaIssueGH
namespace Go.Proofs.Ytaeggnnijafooaa
set_option linter.unusedVariables false

/-- The first loop of a text. -/
def firstLoop : Code → Option Code
  | .loop c => some c
  | .seq a b => match firstLoop a with
    | some c => some c
    | none => firstLoop b
  | .block _ c => firstLoop c
  | .scope c => firstLoop c
  | .cond _ a b => match firstLoop a with
    | some c => some c
    | none => firstLoop b
  | _ => none
noncomputable def goesBody : Code := (Try.f5.body.bind firstLoop).getD .skip
end Go.Proofs.Ytaeggnnijafooaa
