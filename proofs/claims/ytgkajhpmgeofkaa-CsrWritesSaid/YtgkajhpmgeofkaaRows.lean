/-
  No cell of these rows narrows 'for every input' (looked for: loops, veiled, ifaces, maps, wideKeys, modest, calm, conditions, laid).
  DERIVED. THE GIVEN ROWS OF THIS SEAT. 8 by the template 'for every input the law returns true; each argument reads behind the call as it read before'; 0 by the template 'total and deterministic' (their statements: YtgkajhpmgeofkaaTotals.lean).
  GIVEN WITH THE SEED: the statements are not yours to turn. If you find one false, say at which input.
  Laid BY PROGRAM, IN A SANDBOX (cutbox-rows.mjs): the forced cells as the released guide's own fill.sh prints them over the translation 0d2dc9d4a070846f… (all of the seat's roots in one cut). By AI agents, Wed Nov 11 2026. No macro, syntax, notation, axiom, sorry.
-/
import Derived.Test.YtgkajhpmgeofkaaChecked
import GoSem.Claim
import GoSem.ClaimJoined
import GoSem.ClaimMapViews
import Derived.JoinedTies
import Derived.KernelRfl
namespace Go.Proofs.Ytgkajhpmgeofkaa
/- THE CELL 'sum', in the pinned program and in every row, IS THE sha256 OF THE DUMP (.gsa) THAT YtgkajhpmgeofkaaProg.lean LOADS. Nothing in Lean hashes anything: it is a label: what it is worth is what the hold of that sum in a sandbox is worth. -/
noncomputable def Try.pinned : Pinned := { name := "ytgkajhpmgeofkaa", sum := "0d2dc9d4a070846f7e062ef999c893495feb8b87daff515f956b5dc6145bec96", checked := Try.checked }
namespace Rows
def none {H : Type} : Left H := { results := [], args := [] }

/-- 'tandemlaw12.CsrMay': WHATEVER THE INPUT: true; the input reads as it did. -/
def csrMaySpec : ChangeSpec := { name := "csrMay", fn := fun _ => fun
  | [d1, d2, d3, d4] => { results := [.lit (.bool true)], args := [d1, d2, d3, d4] }
  | _ => none }
def csrMayRow : OpenClaim := { program := "ytgkajhpmgeofkaa", sum := "0d2dc9d4a070846f7e062ef999c893495feb8b87daff515f956b5dc6145bec96", func := "tandem/tandemlaw12.CsrMay", spec := "csrMay", apart := false }
def CsrMaySaid : Prop := csrMayRow.holds Try.pinned (OpenSpec.ofChange csrMaySpec)

/-- ITS FALSE NEIGHBOUR: 'it returns false'. Refute it at one input. -/
def csrMayWrong : ChangeSpec := { name := "csrMay", fn := fun _ => fun
  | [d1, d2, d3, d4] => { results := [.lit (.bool false)], args := [d1, d2, d3, d4] }
  | _ => none }
def CsrMayWrongFalsely : Prop := csrMayRow.holds Try.pinned (OpenSpec.ofChange csrMayWrong)

/-- 'tandemlaw12.CsrReads': WHATEVER THE INPUT: true; the input reads as it did. -/
def csrReadsSpec : ChangeSpec := { name := "csrReads", fn := fun _ => fun
  | [d1, d2, d3, d4] => { results := [.lit (.bool true)], args := [d1, d2, d3, d4] }
  | _ => none }
def csrReadsRow : OpenClaim := { program := "ytgkajhpmgeofkaa", sum := "0d2dc9d4a070846f7e062ef999c893495feb8b87daff515f956b5dc6145bec96", func := "tandem/tandemlaw12.CsrReads", spec := "csrReads", apart := false }
def CsrReadsSaid : Prop := csrReadsRow.holds Try.pinned (OpenSpec.ofChange csrReadsSpec)

/-- ITS FALSE NEIGHBOUR: 'it returns false'. Refute it at one input. -/
def csrReadsWrong : ChangeSpec := { name := "csrReads", fn := fun _ => fun
  | [d1, d2, d3, d4] => { results := [.lit (.bool false)], args := [d1, d2, d3, d4] }
  | _ => none }
def CsrReadsWrongFalsely : Prop := csrReadsRow.holds Try.pinned (OpenSpec.ofChange csrReadsWrong)

/-- 'tandemlaw12.CsrWrites': WHATEVER THE INPUT: true; the input reads as it did. -/
def csrWritesSpec : ChangeSpec := { name := "csrWrites", fn := fun _ => fun
  | [d1, d2, d3] => { results := [.lit (.bool true)], args := [d1, d2, d3] }
  | _ => none }
def csrWritesRow : OpenClaim := { program := "ytgkajhpmgeofkaa", sum := "0d2dc9d4a070846f7e062ef999c893495feb8b87daff515f956b5dc6145bec96", func := "tandem/tandemlaw12.CsrWrites", spec := "csrWrites", apart := false }
def CsrWritesSaid : Prop := csrWritesRow.holds Try.pinned (OpenSpec.ofChange csrWritesSpec)

/-- ITS FALSE NEIGHBOUR: 'it returns false'. Refute it at one input. -/
def csrWritesWrong : ChangeSpec := { name := "csrWrites", fn := fun _ => fun
  | [d1, d2, d3] => { results := [.lit (.bool false)], args := [d1, d2, d3] }
  | _ => none }
def CsrWritesWrongFalsely : Prop := csrWritesRow.holds Try.pinned (OpenSpec.ofChange csrWritesWrong)

/-- 'tandemlaw12.CsrSettles': WHATEVER THE INPUT: true; the input reads as it did. -/
def csrSettlesSpec : ChangeSpec := { name := "csrSettles", fn := fun _ => fun
  | [d1, d2] => { results := [.lit (.bool true)], args := [d1, d2] }
  | _ => none }
def csrSettlesRow : OpenClaim := { program := "ytgkajhpmgeofkaa", sum := "0d2dc9d4a070846f7e062ef999c893495feb8b87daff515f956b5dc6145bec96", func := "tandem/tandemlaw12.CsrSettles", spec := "csrSettles", apart := false }
def CsrSettlesSaid : Prop := csrSettlesRow.holds Try.pinned (OpenSpec.ofChange csrSettlesSpec)

/-- ITS FALSE NEIGHBOUR: 'it returns false'. Refute it at one input. -/
def csrSettlesWrong : ChangeSpec := { name := "csrSettles", fn := fun _ => fun
  | [d1, d2] => { results := [.lit (.bool false)], args := [d1, d2] }
  | _ => none }
def CsrSettlesWrongFalsely : Prop := csrSettlesRow.holds Try.pinned (OpenSpec.ofChange csrSettlesWrong)

/-- 'tandemlaw12.CsrLegal': WHATEVER THE INPUT: true; the input reads as it did. -/
def csrLegalSpec : ChangeSpec := { name := "csrLegal", fn := fun _ => fun
  | [d] => { results := [.lit (.bool true)], args := [d] }
  | _ => none }
def csrLegalRow : OpenClaim := { program := "ytgkajhpmgeofkaa", sum := "0d2dc9d4a070846f7e062ef999c893495feb8b87daff515f956b5dc6145bec96", func := "tandem/tandemlaw12.CsrLegal", spec := "csrLegal", apart := false }
def CsrLegalSaid : Prop := csrLegalRow.holds Try.pinned (OpenSpec.ofChange csrLegalSpec)

/-- ITS FALSE NEIGHBOUR: 'it returns false'. Refute it at one input. -/
def csrLegalWrong : ChangeSpec := { name := "csrLegal", fn := fun _ => fun
  | [d] => { results := [.lit (.bool false)], args := [d] }
  | _ => none }
def CsrLegalWrongFalsely : Prop := csrLegalRow.holds Try.pinned (OpenSpec.ofChange csrLegalWrong)

/-- 'tandemlaw12.CsrShows': WHATEVER THE INPUT: true; the input reads as it did. -/
def csrShowsSpec : ChangeSpec := { name := "csrShows", fn := fun _ => fun
  | [d1, d2, d3] => { results := [.lit (.bool true)], args := [d1, d2, d3] }
  | _ => none }
def csrShowsRow : OpenClaim := { program := "ytgkajhpmgeofkaa", sum := "0d2dc9d4a070846f7e062ef999c893495feb8b87daff515f956b5dc6145bec96", func := "tandem/tandemlaw12.CsrShows", spec := "csrShows", apart := false }
def CsrShowsSaid : Prop := csrShowsRow.holds Try.pinned (OpenSpec.ofChange csrShowsSpec)

/-- ITS FALSE NEIGHBOUR: 'it returns false'. Refute it at one input. -/
def csrShowsWrong : ChangeSpec := { name := "csrShows", fn := fun _ => fun
  | [d1, d2, d3] => { results := [.lit (.bool false)], args := [d1, d2, d3] }
  | _ => none }
def CsrShowsWrongFalsely : Prop := csrShowsRow.holds Try.pinned (OpenSpec.ofChange csrShowsWrong)

/-- 'tandemlaw12.CsrModes': WHATEVER THE INPUT: true; the input reads as it did. -/
def csrModesSpec : ChangeSpec := { name := "csrModes", fn := fun _ => fun
  | [d1, d2] => { results := [.lit (.bool true)], args := [d1, d2] }
  | _ => none }
def csrModesRow : OpenClaim := { program := "ytgkajhpmgeofkaa", sum := "0d2dc9d4a070846f7e062ef999c893495feb8b87daff515f956b5dc6145bec96", func := "tandem/tandemlaw12.CsrModes", spec := "csrModes", apart := false }
def CsrModesSaid : Prop := csrModesRow.holds Try.pinned (OpenSpec.ofChange csrModesSpec)

/-- ITS FALSE NEIGHBOUR: 'it returns false'. Refute it at one input. -/
def csrModesWrong : ChangeSpec := { name := "csrModes", fn := fun _ => fun
  | [d1, d2] => { results := [.lit (.bool false)], args := [d1, d2] }
  | _ => none }
def CsrModesWrongFalsely : Prop := csrModesRow.holds Try.pinned (OpenSpec.ofChange csrModesWrong)

/-- 'tandemlaw12.CsrOne': WHATEVER THE INPUT: true; the input reads as it did. -/
def csrOneSpec : ChangeSpec := { name := "csrOne", fn := fun _ => fun
  | [d1, d2, d3, d4] => { results := [.lit (.bool true)], args := [d1, d2, d3, d4] }
  | _ => none }
def csrOneRow : OpenClaim := { program := "ytgkajhpmgeofkaa", sum := "0d2dc9d4a070846f7e062ef999c893495feb8b87daff515f956b5dc6145bec96", func := "tandem/tandemlaw12.CsrOne", spec := "csrOne", apart := false }
def CsrOneSaid : Prop := csrOneRow.holds Try.pinned (OpenSpec.ofChange csrOneSpec)

/-- ITS FALSE NEIGHBOUR: 'it returns false'. Refute it at one input. -/
def csrOneWrong : ChangeSpec := { name := "csrOne", fn := fun _ => fun
  | [d1, d2, d3, d4] => { results := [.lit (.bool false)], args := [d1, d2, d3, d4] }
  | _ => none }
def CsrOneWrongFalsely : Prop := csrOneRow.holds Try.pinned (OpenSpec.ofChange csrOneWrong)

/- THE SECOND FORM. 'bulk': how many values and letters a reading holds, each counted each time it is reached (what is shared counts as often as it is met; a slice's spare places count too). A statement '..UptoSaid' is the law's where the arguments, and the package variables that the reading takes, are together of bulk at most 1048576: NARROWER than '..Said'. Prove '..Said' where nothing that the law and all that it calls make is longer than what came in: it says more and counts as full. Else prove '..UptoSaid'. A law counts once. -/
mutual
def uptoBulk {H : Type} : DataW H → Nat
  | .lit (.string bytes) => bytes.length + 1
  | .lit _ => 1
  | .nil => 1
  | .ptr d => uptoBulk d + 1
  | .slice elems spare => uptoBulkAll elems + uptoBulkAll spare + 1
  | .agg parts => uptoBulkAll parts + 1
  | .iface _ d => uptoBulk d + 1
  | .map entries => uptoBulkEntries entries + 1
  | .held _ => 1
def uptoBulkAll {H : Type} : List (DataW H) → Nat
  | [] => 0
  | d :: r => uptoBulk d + uptoBulkAll r
def uptoBulkEntries {H : Type} : List (Lit × DataW H) → Nat
  | [] => 0
  | x :: r => uptoBulkEntry x + uptoBulkEntries r
def uptoBulkEntry {H : Type} : Lit × DataW H → Nat
  | (.string bytes, d) => bytes.length + uptoBulk d + 1
  | (_, d) => uptoBulk d + 1
 end
def uptoSmall : (H : Type) → List (DataW H) → Bool := fun _ ds => decide (uptoBulkAll ds ≤ 1048576)
def OpenSpec.upto (s : _root_.Go.ChangeSpec) : _root_.Go.OpenSpec := { _root_.Go.OpenSpec.ofChange s with cond := some uptoSmall }

/-- 'tandemlaw12.CsrMay', WHERE WHAT IT READS IS OF BULK AT MOST 1048576: true; the input reads as it did. -/
def csrMayUptoRow : OpenClaim := { program := "ytgkajhpmgeofkaa", sum := "0d2dc9d4a070846f7e062ef999c893495feb8b87daff515f956b5dc6145bec96", func := "tandem/tandemlaw12.CsrMay", spec := "csrMay", apart := false, narrowed := true }
def CsrMayUptoSaid : Prop := csrMayUptoRow.holds Try.pinned (OpenSpec.upto csrMaySpec)

/-- 'tandemlaw12.CsrReads', WHERE WHAT IT READS IS OF BULK AT MOST 1048576: true; the input reads as it did. -/
def csrReadsUptoRow : OpenClaim := { program := "ytgkajhpmgeofkaa", sum := "0d2dc9d4a070846f7e062ef999c893495feb8b87daff515f956b5dc6145bec96", func := "tandem/tandemlaw12.CsrReads", spec := "csrReads", apart := false, narrowed := true }
def CsrReadsUptoSaid : Prop := csrReadsUptoRow.holds Try.pinned (OpenSpec.upto csrReadsSpec)

/-- 'tandemlaw12.CsrWrites', WHERE WHAT IT READS IS OF BULK AT MOST 1048576: true; the input reads as it did. -/
def csrWritesUptoRow : OpenClaim := { program := "ytgkajhpmgeofkaa", sum := "0d2dc9d4a070846f7e062ef999c893495feb8b87daff515f956b5dc6145bec96", func := "tandem/tandemlaw12.CsrWrites", spec := "csrWrites", apart := false, narrowed := true }
def CsrWritesUptoSaid : Prop := csrWritesUptoRow.holds Try.pinned (OpenSpec.upto csrWritesSpec)

/-- 'tandemlaw12.CsrSettles', WHERE WHAT IT READS IS OF BULK AT MOST 1048576: true; the input reads as it did. -/
def csrSettlesUptoRow : OpenClaim := { program := "ytgkajhpmgeofkaa", sum := "0d2dc9d4a070846f7e062ef999c893495feb8b87daff515f956b5dc6145bec96", func := "tandem/tandemlaw12.CsrSettles", spec := "csrSettles", apart := false, narrowed := true }
def CsrSettlesUptoSaid : Prop := csrSettlesUptoRow.holds Try.pinned (OpenSpec.upto csrSettlesSpec)

/-- 'tandemlaw12.CsrLegal', WHERE WHAT IT READS IS OF BULK AT MOST 1048576: true; the input reads as it did. -/
def csrLegalUptoRow : OpenClaim := { program := "ytgkajhpmgeofkaa", sum := "0d2dc9d4a070846f7e062ef999c893495feb8b87daff515f956b5dc6145bec96", func := "tandem/tandemlaw12.CsrLegal", spec := "csrLegal", apart := false, narrowed := true }
def CsrLegalUptoSaid : Prop := csrLegalUptoRow.holds Try.pinned (OpenSpec.upto csrLegalSpec)

/-- 'tandemlaw12.CsrShows', WHERE WHAT IT READS IS OF BULK AT MOST 1048576: true; the input reads as it did. -/
def csrShowsUptoRow : OpenClaim := { program := "ytgkajhpmgeofkaa", sum := "0d2dc9d4a070846f7e062ef999c893495feb8b87daff515f956b5dc6145bec96", func := "tandem/tandemlaw12.CsrShows", spec := "csrShows", apart := false, narrowed := true }
def CsrShowsUptoSaid : Prop := csrShowsUptoRow.holds Try.pinned (OpenSpec.upto csrShowsSpec)

/-- 'tandemlaw12.CsrModes', WHERE WHAT IT READS IS OF BULK AT MOST 1048576: true; the input reads as it did. -/
def csrModesUptoRow : OpenClaim := { program := "ytgkajhpmgeofkaa", sum := "0d2dc9d4a070846f7e062ef999c893495feb8b87daff515f956b5dc6145bec96", func := "tandem/tandemlaw12.CsrModes", spec := "csrModes", apart := false, narrowed := true }
def CsrModesUptoSaid : Prop := csrModesUptoRow.holds Try.pinned (OpenSpec.upto csrModesSpec)

/-- 'tandemlaw12.CsrOne', WHERE WHAT IT READS IS OF BULK AT MOST 1048576: true; the input reads as it did. -/
def csrOneUptoRow : OpenClaim := { program := "ytgkajhpmgeofkaa", sum := "0d2dc9d4a070846f7e062ef999c893495feb8b87daff515f956b5dc6145bec96", func := "tandem/tandemlaw12.CsrOne", spec := "csrOne", apart := false, narrowed := true }
def CsrOneUptoSaid : Prop := csrOneUptoRow.holds Try.pinned (OpenSpec.upto csrOneSpec)

end Rows
end Go.Proofs.Ytgkajhpmgeofkaa
