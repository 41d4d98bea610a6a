/-
  No cell of these rows narrows 'for every input' (looked for: loops, veiled, ifaces, maps, wideKeys, modest, calm, conditions, laid).
  DERIVED. THE GIVEN ROWS OF THIS SEAT. 8 by the template 'for every input the law returns true; each argument reads behind the call as it read before'; 0 by the template 'total and deterministic' (their statements: YtkmdahokomnjcaaTotals.lean).
  GIVEN WITH THE SEED: the statements are not yours to turn. If you find one false, say at which input.
  Laid BY PROGRAM, IN A SANDBOX (cutbox-rows.mjs): the forced cells as the released guide's own fill.sh prints them over the translation 87e1647fbdc2fc62… (all of the seat's roots in one cut). By AI agents, Wed Nov 11 2026. No macro, syntax, notation, axiom, sorry.
-/
import Derived.Test.YtkmdahokomnjcaaChecked
import GoSem.Claim
import GoSem.ClaimJoined
import GoSem.ClaimMapViews
import Derived.JoinedTies
import Derived.KernelRfl
namespace Go.Proofs.Ytkmdahokomnjcaa
/- THE CELL 'sum', in the pinned program and in every row, IS THE sha256 OF THE DUMP (.gsa) THAT YtkmdahokomnjcaaProg.lean LOADS. Nothing in Lean hashes anything: it is a label: what it is worth is what the hold of that sum in a sandbox is worth. -/
noncomputable def Try.pinned : Pinned := { name := "ytkmdahokomnjcaa", sum := "87e1647fbdc2fc62354ce40d4fdd5f84e80f301e6d03d574d6a1de2c8a8db5d0", checked := Try.checked }
namespace Rows
def none {H : Type} : Left H := { results := [], args := [] }

/-- 'tandemlaw05.AluDoes': WHATEVER THE INPUT: true; the input reads as it did. -/
def aluDoesSpec : ChangeSpec := { name := "aluDoes", fn := fun _ => fun
  | [d1, d2, d3, d4] => { results := [.lit (.bool true)], args := [d1, d2, d3, d4] }
  | _ => none }
def aluDoesRow : OpenClaim := { program := "ytkmdahokomnjcaa", sum := "87e1647fbdc2fc62354ce40d4fdd5f84e80f301e6d03d574d6a1de2c8a8db5d0", func := "tandem/tandemlaw05.AluDoes", spec := "aluDoes", apart := false }
def AluDoesSaid : Prop := aluDoesRow.holds Try.pinned (OpenSpec.ofChange aluDoesSpec)

/-- ITS FALSE NEIGHBOUR: 'it returns false'. Refute it at one input. -/
def aluDoesWrong : ChangeSpec := { name := "aluDoes", fn := fun _ => fun
  | [d1, d2, d3, d4] => { results := [.lit (.bool false)], args := [d1, d2, d3, d4] }
  | _ => none }
def AluDoesWrongFalsely : Prop := aluDoesRow.holds Try.pinned (OpenSpec.ofChange aluDoesWrong)

/-- 'tandemlaw05.AluBranches': WHATEVER THE INPUT: true; the input reads as it did. -/
def aluBranchesSpec : ChangeSpec := { name := "aluBranches", fn := fun _ => fun
  | [d1, d2, d3] => { results := [.lit (.bool true)], args := [d1, d2, d3] }
  | _ => none }
def aluBranchesRow : OpenClaim := { program := "ytkmdahokomnjcaa", sum := "87e1647fbdc2fc62354ce40d4fdd5f84e80f301e6d03d574d6a1de2c8a8db5d0", func := "tandem/tandemlaw05.AluBranches", spec := "aluBranches", apart := false }
def AluBranchesSaid : Prop := aluBranchesRow.holds Try.pinned (OpenSpec.ofChange aluBranchesSpec)

/-- ITS FALSE NEIGHBOUR: 'it returns false'. Refute it at one input. -/
def aluBranchesWrong : ChangeSpec := { name := "aluBranches", fn := fun _ => fun
  | [d1, d2, d3] => { results := [.lit (.bool false)], args := [d1, d2, d3] }
  | _ => none }
def AluBranchesWrongFalsely : Prop := aluBranchesRow.holds Try.pinned (OpenSpec.ofChange aluBranchesWrong)

/-- 'tandemlaw05.AluAtomics': WHATEVER THE INPUT: true; the input reads as it did. -/
def aluAtomicsSpec : ChangeSpec := { name := "aluAtomics", fn := fun _ => fun
  | [d1, d2, d3, d4] => { results := [.lit (.bool true)], args := [d1, d2, d3, d4] }
  | _ => none }
def aluAtomicsRow : OpenClaim := { program := "ytkmdahokomnjcaa", sum := "87e1647fbdc2fc62354ce40d4fdd5f84e80f301e6d03d574d6a1de2c8a8db5d0", func := "tandem/tandemlaw05.AluAtomics", spec := "aluAtomics", apart := false }
def AluAtomicsSaid : Prop := aluAtomicsRow.holds Try.pinned (OpenSpec.ofChange aluAtomicsSpec)

/-- ITS FALSE NEIGHBOUR: 'it returns false'. Refute it at one input. -/
def aluAtomicsWrong : ChangeSpec := { name := "aluAtomics", fn := fun _ => fun
  | [d1, d2, d3, d4] => { results := [.lit (.bool false)], args := [d1, d2, d3, d4] }
  | _ => none }
def AluAtomicsWrongFalsely : Prop := aluAtomicsRow.holds Try.pinned (OpenSpec.ofChange aluAtomicsWrong)

/-- 'tandemlaw05.AluExtends': WHATEVER THE INPUT: true; the input reads as it did. -/
def aluExtendsSpec : ChangeSpec := { name := "aluExtends", fn := fun _ => fun
  | [d1, d2, d3] => { results := [.lit (.bool true)], args := [d1, d2, d3] }
  | _ => none }
def aluExtendsRow : OpenClaim := { program := "ytkmdahokomnjcaa", sum := "87e1647fbdc2fc62354ce40d4fdd5f84e80f301e6d03d574d6a1de2c8a8db5d0", func := "tandem/tandemlaw05.AluExtends", spec := "aluExtends", apart := false }
def AluExtendsSaid : Prop := aluExtendsRow.holds Try.pinned (OpenSpec.ofChange aluExtendsSpec)

/-- ITS FALSE NEIGHBOUR: 'it returns false'. Refute it at one input. -/
def aluExtendsWrong : ChangeSpec := { name := "aluExtends", fn := fun _ => fun
  | [d1, d2, d3] => { results := [.lit (.bool false)], args := [d1, d2, d3] }
  | _ => none }
def AluExtendsWrongFalsely : Prop := aluExtendsRow.holds Try.pinned (OpenSpec.ofChange aluExtendsWrong)

/-- 'tandemlaw05.AluDivides': WHATEVER THE INPUT: true; the input reads as it did. -/
def aluDividesSpec : ChangeSpec := { name := "aluDivides", fn := fun _ => fun
  | [d1, d2] => { results := [.lit (.bool true)], args := [d1, d2] }
  | _ => none }
def aluDividesRow : OpenClaim := { program := "ytkmdahokomnjcaa", sum := "87e1647fbdc2fc62354ce40d4fdd5f84e80f301e6d03d574d6a1de2c8a8db5d0", func := "tandem/tandemlaw05.AluDivides", spec := "aluDivides", apart := false }
def AluDividesSaid : Prop := aluDividesRow.holds Try.pinned (OpenSpec.ofChange aluDividesSpec)

/-- ITS FALSE NEIGHBOUR: 'it returns false'. Refute it at one input. -/
def aluDividesWrong : ChangeSpec := { name := "aluDivides", fn := fun _ => fun
  | [d1, d2] => { results := [.lit (.bool false)], args := [d1, d2] }
  | _ => none }
def AluDividesWrongFalsely : Prop := aluDividesRow.holds Try.pinned (OpenSpec.ofChange aluDividesWrong)

/-- 'tandemlaw05.AluWords': WHATEVER THE INPUT: true; the input reads as it did. -/
def aluWordsSpec : ChangeSpec := { name := "aluWords", fn := fun _ => fun
  | [d1, d2, d3, d4] => { results := [.lit (.bool true)], args := [d1, d2, d3, d4] }
  | _ => none }
def aluWordsRow : OpenClaim := { program := "ytkmdahokomnjcaa", sum := "87e1647fbdc2fc62354ce40d4fdd5f84e80f301e6d03d574d6a1de2c8a8db5d0", func := "tandem/tandemlaw05.AluWords", spec := "aluWords", apart := false }
def AluWordsSaid : Prop := aluWordsRow.holds Try.pinned (OpenSpec.ofChange aluWordsSpec)

/-- ITS FALSE NEIGHBOUR: 'it returns false'. Refute it at one input. -/
def aluWordsWrong : ChangeSpec := { name := "aluWords", fn := fun _ => fun
  | [d1, d2, d3, d4] => { results := [.lit (.bool false)], args := [d1, d2, d3, d4] }
  | _ => none }
def AluWordsWrongFalsely : Prop := aluWordsRow.holds Try.pinned (OpenSpec.ofChange aluWordsWrong)

/-- 'tandemlaw05.AluUppers': WHATEVER THE INPUT: true; the input reads as it did. -/
def aluUppersSpec : ChangeSpec := { name := "aluUppers", fn := fun _ => fun
  | [d1, d2] => { results := [.lit (.bool true)], args := [d1, d2] }
  | _ => none }
def aluUppersRow : OpenClaim := { program := "ytkmdahokomnjcaa", sum := "87e1647fbdc2fc62354ce40d4fdd5f84e80f301e6d03d574d6a1de2c8a8db5d0", func := "tandem/tandemlaw05.AluUppers", spec := "aluUppers", apart := false }
def AluUppersSaid : Prop := aluUppersRow.holds Try.pinned (OpenSpec.ofChange aluUppersSpec)

/-- ITS FALSE NEIGHBOUR: 'it returns false'. Refute it at one input. -/
def aluUppersWrong : ChangeSpec := { name := "aluUppers", fn := fun _ => fun
  | [d1, d2] => { results := [.lit (.bool false)], args := [d1, d2] }
  | _ => none }
def AluUppersWrongFalsely : Prop := aluUppersRow.holds Try.pinned (OpenSpec.ofChange aluUppersWrong)

/-- 'tandemlaw05.AluTurns': WHATEVER THE INPUT: true; the input reads as it did. -/
def aluTurnsSpec : ChangeSpec := { name := "aluTurns", fn := fun _ => fun
  | [d1, d2] => { results := [.lit (.bool true)], args := [d1, d2] }
  | _ => none }
def aluTurnsRow : OpenClaim := { program := "ytkmdahokomnjcaa", sum := "87e1647fbdc2fc62354ce40d4fdd5f84e80f301e6d03d574d6a1de2c8a8db5d0", func := "tandem/tandemlaw05.AluTurns", spec := "aluTurns", apart := false }
def AluTurnsSaid : Prop := aluTurnsRow.holds Try.pinned (OpenSpec.ofChange aluTurnsSpec)

/-- ITS FALSE NEIGHBOUR: 'it returns false'. Refute it at one input. -/
def aluTurnsWrong : ChangeSpec := { name := "aluTurns", fn := fun _ => fun
  | [d1, d2] => { results := [.lit (.bool false)], args := [d1, d2] }
  | _ => none }
def AluTurnsWrongFalsely : Prop := aluTurnsRow.holds Try.pinned (OpenSpec.ofChange aluTurnsWrong)

/- THE SECOND FORM. 'bulk': how many values and letters a reading holds, each counted each time it is reached (what is shared counts as often as it is met; a slice's spare places count too). A statement '..UptoSaid' is the law's where the arguments, and the package variables that the reading takes, are together of bulk at most 1048576: NARROWER than '..Said'. Prove '..Said' where nothing that the law and all that it calls make is longer than what came in: it says more and counts as full. Else prove '..UptoSaid'. A law counts once. -/
mutual
def uptoBulk {H : Type} : DataW H → Nat
  | .lit (.string bytes) => bytes.length + 1
  | .lit _ => 1
  | .nil => 1
  | .ptr d => uptoBulk d + 1
  | .slice elems spare => uptoBulkAll elems + uptoBulkAll spare + 1
  | .agg parts => uptoBulkAll parts + 1
  | .iface _ d => uptoBulk d + 1
  | .map entries => uptoBulkEntries entries + 1
  | .held _ => 1
def uptoBulkAll {H : Type} : List (DataW H) → Nat
  | [] => 0
  | d :: r => uptoBulk d + uptoBulkAll r
def uptoBulkEntries {H : Type} : List (Lit × DataW H) → Nat
  | [] => 0
  | x :: r => uptoBulkEntry x + uptoBulkEntries r
def uptoBulkEntry {H : Type} : Lit × DataW H → Nat
  | (.string bytes, d) => bytes.length + uptoBulk d + 1
  | (_, d) => uptoBulk d + 1
 end
def uptoSmall : (H : Type) → List (DataW H) → Bool := fun _ ds => decide (uptoBulkAll ds ≤ 1048576)
def OpenSpec.upto (s : _root_.Go.ChangeSpec) : _root_.Go.OpenSpec := { _root_.Go.OpenSpec.ofChange s with cond := some uptoSmall }

/-- 'tandemlaw05.AluDoes', WHERE WHAT IT READS IS OF BULK AT MOST 1048576: true; the input reads as it did. -/
def aluDoesUptoRow : OpenClaim := { program := "ytkmdahokomnjcaa", sum := "87e1647fbdc2fc62354ce40d4fdd5f84e80f301e6d03d574d6a1de2c8a8db5d0", func := "tandem/tandemlaw05.AluDoes", spec := "aluDoes", apart := false, narrowed := true }
def AluDoesUptoSaid : Prop := aluDoesUptoRow.holds Try.pinned (OpenSpec.upto aluDoesSpec)

/-- 'tandemlaw05.AluBranches', WHERE WHAT IT READS IS OF BULK AT MOST 1048576: true; the input reads as it did. -/
def aluBranchesUptoRow : OpenClaim := { program := "ytkmdahokomnjcaa", sum := "87e1647fbdc2fc62354ce40d4fdd5f84e80f301e6d03d574d6a1de2c8a8db5d0", func := "tandem/tandemlaw05.AluBranches", spec := "aluBranches", apart := false, narrowed := true }
def AluBranchesUptoSaid : Prop := aluBranchesUptoRow.holds Try.pinned (OpenSpec.upto aluBranchesSpec)

/-- 'tandemlaw05.AluAtomics', WHERE WHAT IT READS IS OF BULK AT MOST 1048576: true; the input reads as it did. -/
def aluAtomicsUptoRow : OpenClaim := { program := "ytkmdahokomnjcaa", sum := "87e1647fbdc2fc62354ce40d4fdd5f84e80f301e6d03d574d6a1de2c8a8db5d0", func := "tandem/tandemlaw05.AluAtomics", spec := "aluAtomics", apart := false, narrowed := true }
def AluAtomicsUptoSaid : Prop := aluAtomicsUptoRow.holds Try.pinned (OpenSpec.upto aluAtomicsSpec)

/-- 'tandemlaw05.AluExtends', WHERE WHAT IT READS IS OF BULK AT MOST 1048576: true; the input reads as it did. -/
def aluExtendsUptoRow : OpenClaim := { program := "ytkmdahokomnjcaa", sum := "87e1647fbdc2fc62354ce40d4fdd5f84e80f301e6d03d574d6a1de2c8a8db5d0", func := "tandem/tandemlaw05.AluExtends", spec := "aluExtends", apart := false, narrowed := true }
def AluExtendsUptoSaid : Prop := aluExtendsUptoRow.holds Try.pinned (OpenSpec.upto aluExtendsSpec)

/-- 'tandemlaw05.AluDivides', WHERE WHAT IT READS IS OF BULK AT MOST 1048576: true; the input reads as it did. -/
def aluDividesUptoRow : OpenClaim := { program := "ytkmdahokomnjcaa", sum := "87e1647fbdc2fc62354ce40d4fdd5f84e80f301e6d03d574d6a1de2c8a8db5d0", func := "tandem/tandemlaw05.AluDivides", spec := "aluDivides", apart := false, narrowed := true }
def AluDividesUptoSaid : Prop := aluDividesUptoRow.holds Try.pinned (OpenSpec.upto aluDividesSpec)

/-- 'tandemlaw05.AluWords', WHERE WHAT IT READS IS OF BULK AT MOST 1048576: true; the input reads as it did. -/
def aluWordsUptoRow : OpenClaim := { program := "ytkmdahokomnjcaa", sum := "87e1647fbdc2fc62354ce40d4fdd5f84e80f301e6d03d574d6a1de2c8a8db5d0", func := "tandem/tandemlaw05.AluWords", spec := "aluWords", apart := false, narrowed := true }
def AluWordsUptoSaid : Prop := aluWordsUptoRow.holds Try.pinned (OpenSpec.upto aluWordsSpec)

/-- 'tandemlaw05.AluUppers', WHERE WHAT IT READS IS OF BULK AT MOST 1048576: true; the input reads as it did. -/
def aluUppersUptoRow : OpenClaim := { program := "ytkmdahokomnjcaa", sum := "87e1647fbdc2fc62354ce40d4fdd5f84e80f301e6d03d574d6a1de2c8a8db5d0", func := "tandem/tandemlaw05.AluUppers", spec := "aluUppers", apart := false, narrowed := true }
def AluUppersUptoSaid : Prop := aluUppersUptoRow.holds Try.pinned (OpenSpec.upto aluUppersSpec)

/-- 'tandemlaw05.AluTurns', WHERE WHAT IT READS IS OF BULK AT MOST 1048576: true; the input reads as it did. -/
def aluTurnsUptoRow : OpenClaim := { program := "ytkmdahokomnjcaa", sum := "87e1647fbdc2fc62354ce40d4fdd5f84e80f301e6d03d574d6a1de2c8a8db5d0", func := "tandem/tandemlaw05.AluTurns", spec := "aluTurns", apart := false, narrowed := true }
def AluTurnsUptoSaid : Prop := aluTurnsUptoRow.holds Try.pinned (OpenSpec.upto aluTurnsSpec)

end Rows
end Go.Proofs.Ytkmdahokomnjcaa
