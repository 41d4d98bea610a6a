/-
  No cell of these rows narrows 'for every input' (looked for: loops, veiled, ifaces, maps, wideKeys, modest, calm, conditions, laid).
  DERIVED. THE GIVEN ROWS OF THIS SEAT. 4 by the template 'for every input the law returns true; each argument reads behind the call as it read before'; 0 by the template 'total and deterministic' (their statements: YtnbifbllemcjfaaTotals.lean).
  GIVEN WITH THE SEED: the statements are not yours to turn. If you find one false, say at which input.
  Laid BY PROGRAM, IN A SANDBOX (cutbox-rows.mjs): the forced cells as the released guide's own fill.sh prints them over the translation ccd4c92f0da42816… (all of the seat's roots in one cut). By AI agents, Wed Nov 11 2026. No macro, syntax, notation, axiom, sorry.
-/
import Derived.Test.YtnbifbllemcjfaaChecked
import GoSem.Claim
import GoSem.ClaimJoined
import GoSem.ClaimMapViews
import Derived.JoinedTies
import Derived.KernelRfl
namespace Go.Proofs.Ytnbifbllemcjfaa
/- THE CELL 'sum', in the pinned program and in every row, IS THE sha256 OF THE DUMP (.gsa) THAT YtnbifbllemcjfaaProg.lean LOADS. Nothing in Lean hashes anything: it is a label: what it is worth is what the hold of that sum in a sandbox is worth. -/
noncomputable def Try.pinned : Pinned := { name := "ytnbifbllemcjfaa", sum := "ccd4c92f0da428165bdfa95105eaa7a0062e56c8ce2a3d27eeb73d3923c11c10", checked := Try.checked }
namespace Rows
def none {H : Type} : Left H := { results := [], args := [] }

/-- 'tandemlaw06.RamDoes': WHATEVER THE INPUT: true; the input reads as it did. -/
def ramDoesSpec : ChangeSpec := { name := "ramDoes", fn := fun _ => fun
  | [d1, d2] => { results := [.lit (.bool true)], args := [d1, d2] }
  | _ => none }
def ramDoesRow : OpenClaim := { program := "ytnbifbllemcjfaa", sum := "ccd4c92f0da428165bdfa95105eaa7a0062e56c8ce2a3d27eeb73d3923c11c10", func := "tandem/tandemlaw06.RamDoes", spec := "ramDoes", inPlace := ["internal/reflectlite.ValueOf", "internal/reflectlite.Swapper", "(internal/reflectlite.Value).Len"], unfollowed := true, recurses := true, plainKeys := false, apart := false }
def RamDoesSaid : Prop := ramDoesRow.holds Try.pinned (OpenSpec.ofChange ramDoesSpec)

/-- ITS FALSE NEIGHBOUR: 'it returns false'. Refute it at one input. -/
def ramDoesWrong : ChangeSpec := { name := "ramDoes", fn := fun _ => fun
  | [d1, d2] => { results := [.lit (.bool false)], args := [d1, d2] }
  | _ => none }
def RamDoesWrongFalsely : Prop := ramDoesRow.holds Try.pinned (OpenSpec.ofChange ramDoesWrong)

/-- 'tandemlaw06.RamKeeps': WHATEVER THE INPUT: true; the input reads as it did. -/
def ramKeepsSpec : ChangeSpec := { name := "ramKeeps", fn := fun _ => fun
  | [d1, d2] => { results := [.lit (.bool true)], args := [d1, d2] }
  | _ => none }
def ramKeepsRow : OpenClaim := { program := "ytnbifbllemcjfaa", sum := "ccd4c92f0da428165bdfa95105eaa7a0062e56c8ce2a3d27eeb73d3923c11c10", func := "tandem/tandemlaw06.RamKeeps", spec := "ramKeeps", inPlace := ["internal/reflectlite.ValueOf", "internal/reflectlite.Swapper", "(internal/reflectlite.Value).Len"], unfollowed := true, recurses := true, plainKeys := false, apart := false }
def RamKeepsSaid : Prop := ramKeepsRow.holds Try.pinned (OpenSpec.ofChange ramKeepsSpec)

/-- ITS FALSE NEIGHBOUR: 'it returns false'. Refute it at one input. -/
def ramKeepsWrong : ChangeSpec := { name := "ramKeeps", fn := fun _ => fun
  | [d1, d2] => { results := [.lit (.bool false)], args := [d1, d2] }
  | _ => none }
def RamKeepsWrongFalsely : Prop := ramKeepsRow.holds Try.pinned (OpenSpec.ofChange ramKeepsWrong)

/-- 'tandemlaw06.RamApart': WHATEVER THE INPUT: true; the input reads as it did. -/
def ramApartSpec : ChangeSpec := { name := "ramApart", fn := fun _ => fun
  | [d1, d2] => { results := [.lit (.bool true)], args := [d1, d2] }
  | _ => none }
def ramApartRow : OpenClaim := { program := "ytnbifbllemcjfaa", sum := "ccd4c92f0da428165bdfa95105eaa7a0062e56c8ce2a3d27eeb73d3923c11c10", func := "tandem/tandemlaw06.RamApart", spec := "ramApart", inPlace := ["internal/reflectlite.ValueOf", "internal/reflectlite.Swapper", "(internal/reflectlite.Value).Len"], unfollowed := true, recurses := true, plainKeys := false, apart := false }
def RamApartSaid : Prop := ramApartRow.holds Try.pinned (OpenSpec.ofChange ramApartSpec)

/-- ITS FALSE NEIGHBOUR: 'it returns false'. Refute it at one input. -/
def ramApartWrong : ChangeSpec := { name := "ramApart", fn := fun _ => fun
  | [d1, d2] => { results := [.lit (.bool false)], args := [d1, d2] }
  | _ => none }
def RamApartWrongFalsely : Prop := ramApartRow.holds Try.pinned (OpenSpec.ofChange ramApartWrong)

/-- 'tandemlaw06.RamEqual': WHATEVER THE INPUT: true; the input reads as it did. -/
def ramEqualSpec : ChangeSpec := { name := "ramEqual", fn := fun _ => fun
  | [d1, d2, d3, d4] => { results := [.lit (.bool true)], args := [d1, d2, d3, d4] }
  | _ => none }
def ramEqualRow : OpenClaim := { program := "ytnbifbllemcjfaa", sum := "ccd4c92f0da428165bdfa95105eaa7a0062e56c8ce2a3d27eeb73d3923c11c10", func := "tandem/tandemlaw06.RamEqual", spec := "ramEqual", inPlace := ["internal/reflectlite.ValueOf", "internal/reflectlite.Swapper", "(internal/reflectlite.Value).Len"], unfollowed := true, recurses := true, plainKeys := false, apart := false }
def RamEqualSaid : Prop := ramEqualRow.holds Try.pinned (OpenSpec.ofChange ramEqualSpec)

/-- ITS FALSE NEIGHBOUR: 'it returns false'. Refute it at one input. -/
def ramEqualWrong : ChangeSpec := { name := "ramEqual", fn := fun _ => fun
  | [d1, d2, d3, d4] => { results := [.lit (.bool false)], args := [d1, d2, d3, d4] }
  | _ => none }
def RamEqualWrongFalsely : Prop := ramEqualRow.holds Try.pinned (OpenSpec.ofChange ramEqualWrong)

/- THE SECOND FORM. 'bulk': how many values and letters a reading holds, each counted each time it is reached (what is shared counts as often as it is met; a slice's spare places count too). A statement '..UptoSaid' is the law's where the arguments, and the package variables that the reading takes, are together of bulk at most 1048576: NARROWER than '..Said'. Prove '..Said' where nothing that the law and all that it calls make is longer than what came in: it says more and counts as full. Else prove '..UptoSaid'. A law counts once. -/
mutual
def uptoBulk {H : Type} : DataW H → Nat
  | .lit (.string bytes) => bytes.length + 1
  | .lit _ => 1
  | .nil => 1
  | .ptr d => uptoBulk d + 1
  | .slice elems spare => uptoBulkAll elems + uptoBulkAll spare + 1
  | .agg parts => uptoBulkAll parts + 1
  | .iface _ d => uptoBulk d + 1
  | .map entries => uptoBulkEntries entries + 1
  | .held _ => 1
def uptoBulkAll {H : Type} : List (DataW H) → Nat
  | [] => 0
  | d :: r => uptoBulk d + uptoBulkAll r
def uptoBulkEntries {H : Type} : List (Lit × DataW H) → Nat
  | [] => 0
  | x :: r => uptoBulkEntry x + uptoBulkEntries r
def uptoBulkEntry {H : Type} : Lit × DataW H → Nat
  | (.string bytes, d) => bytes.length + uptoBulk d + 1
  | (_, d) => uptoBulk d + 1
 end
def uptoSmall : (H : Type) → List (DataW H) → Bool := fun _ ds => decide (uptoBulkAll ds ≤ 1048576)
def OpenSpec.upto (s : _root_.Go.ChangeSpec) : _root_.Go.OpenSpec := { _root_.Go.OpenSpec.ofChange s with cond := some uptoSmall }

/-- 'tandemlaw06.RamDoes', WHERE WHAT IT READS IS OF BULK AT MOST 1048576: true; the input reads as it did. -/
def ramDoesUptoRow : OpenClaim := { program := "ytnbifbllemcjfaa", sum := "ccd4c92f0da428165bdfa95105eaa7a0062e56c8ce2a3d27eeb73d3923c11c10", func := "tandem/tandemlaw06.RamDoes", spec := "ramDoes", inPlace := ["internal/reflectlite.ValueOf", "internal/reflectlite.Swapper", "(internal/reflectlite.Value).Len"], unfollowed := true, recurses := true, plainKeys := false, apart := false, narrowed := true }
def RamDoesUptoSaid : Prop := ramDoesUptoRow.holds Try.pinned (OpenSpec.upto ramDoesSpec)

/-- 'tandemlaw06.RamKeeps', WHERE WHAT IT READS IS OF BULK AT MOST 1048576: true; the input reads as it did. -/
def ramKeepsUptoRow : OpenClaim := { program := "ytnbifbllemcjfaa", sum := "ccd4c92f0da428165bdfa95105eaa7a0062e56c8ce2a3d27eeb73d3923c11c10", func := "tandem/tandemlaw06.RamKeeps", spec := "ramKeeps", inPlace := ["internal/reflectlite.ValueOf", "internal/reflectlite.Swapper", "(internal/reflectlite.Value).Len"], unfollowed := true, recurses := true, plainKeys := false, apart := false, narrowed := true }
def RamKeepsUptoSaid : Prop := ramKeepsUptoRow.holds Try.pinned (OpenSpec.upto ramKeepsSpec)

/-- 'tandemlaw06.RamApart', WHERE WHAT IT READS IS OF BULK AT MOST 1048576: true; the input reads as it did. -/
def ramApartUptoRow : OpenClaim := { program := "ytnbifbllemcjfaa", sum := "ccd4c92f0da428165bdfa95105eaa7a0062e56c8ce2a3d27eeb73d3923c11c10", func := "tandem/tandemlaw06.RamApart", spec := "ramApart", inPlace := ["internal/reflectlite.ValueOf", "internal/reflectlite.Swapper", "(internal/reflectlite.Value).Len"], unfollowed := true, recurses := true, plainKeys := false, apart := false, narrowed := true }
def RamApartUptoSaid : Prop := ramApartUptoRow.holds Try.pinned (OpenSpec.upto ramApartSpec)

/-- 'tandemlaw06.RamEqual', WHERE WHAT IT READS IS OF BULK AT MOST 1048576: true; the input reads as it did. -/
def ramEqualUptoRow : OpenClaim := { program := "ytnbifbllemcjfaa", sum := "ccd4c92f0da428165bdfa95105eaa7a0062e56c8ce2a3d27eeb73d3923c11c10", func := "tandem/tandemlaw06.RamEqual", spec := "ramEqual", inPlace := ["internal/reflectlite.ValueOf", "internal/reflectlite.Swapper", "(internal/reflectlite.Value).Len"], unfollowed := true, recurses := true, plainKeys := false, apart := false, narrowed := true }
def RamEqualUptoSaid : Prop := ramEqualUptoRow.holds Try.pinned (OpenSpec.upto ramEqualSpec)

end Rows
end Go.Proofs.Ytnbifbllemcjfaa
