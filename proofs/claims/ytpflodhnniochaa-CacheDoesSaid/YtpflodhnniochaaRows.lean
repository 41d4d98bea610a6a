/-
  No cell of these rows narrows 'for every input' (looked for: loops, veiled, ifaces, maps, wideKeys, modest, calm, conditions, laid).
  DERIVED. THE GIVEN ROWS OF THIS SEAT. 5 by the template 'for every input the law returns true; each argument reads behind the call as it read before'; 0 by the template 'total and deterministic' (their statements: YtpflodhnniochaaTotals.lean).
  GIVEN WITH THE SEED: the statements are not yours to turn. If you find one false, say at which input.
  Laid BY PROGRAM, IN A SANDBOX (cutbox-rows.mjs): the forced cells as the released guide's own fill.sh prints them over the translation c5966f5bd5cca311… (all of the seat's roots in one cut). By AI agents, Wed Nov 11 2026. No macro, syntax, notation, axiom, sorry.
-/
import Derived.Test.YtpflodhnniochaaChecked
import GoSem.Claim
import GoSem.ClaimJoined
import GoSem.ClaimMapViews
import Derived.JoinedTies
import Derived.KernelRfl
namespace Go.Proofs.Ytpflodhnniochaa
/- THE CELL 'sum', in the pinned program and in every row, IS THE sha256 OF THE DUMP (.gsa) THAT YtpflodhnniochaaProg.lean LOADS. Nothing in Lean hashes anything: it is a label: what it is worth is what the hold of that sum in a sandbox is worth. -/
noncomputable def Try.pinned : Pinned := { name := "ytpflodhnniochaa", sum := "c5966f5bd5cca311ec374bec7dca98669520cf210167ea4115c3e96697de0789", checked := Try.checked }
namespace Rows
def none {H : Type} : Left H := { results := [], args := [] }

/-- 'tandemlaw19.CacheDoes': WHATEVER THE INPUT: true; the input reads as it did. -/
def cacheDoesSpec : ChangeSpec := { name := "cacheDoes", fn := fun _ => fun
  | [d1, d2] => { results := [.lit (.bool true)], args := [d1, d2] }
  | _ => none }
def cacheDoesRow : OpenClaim := { program := "ytpflodhnniochaa", sum := "c5966f5bd5cca311ec374bec7dca98669520cf210167ea4115c3e96697de0789", func := "tandem/tandemlaw19.CacheDoes", spec := "cacheDoes", recurses := true, plainKeys := false, apart := false }
def CacheDoesSaid : Prop := cacheDoesRow.holds Try.pinned (OpenSpec.ofChange cacheDoesSpec)

/-- ITS FALSE NEIGHBOUR: 'it returns false'. Refute it at one input. -/
def cacheDoesWrong : ChangeSpec := { name := "cacheDoes", fn := fun _ => fun
  | [d1, d2] => { results := [.lit (.bool false)], args := [d1, d2] }
  | _ => none }
def CacheDoesWrongFalsely : Prop := cacheDoesRow.holds Try.pinned (OpenSpec.ofChange cacheDoesWrong)

/-- 'tandemlaw19.CacheComes': WHATEVER THE INPUT: true; the input reads as it did. -/
def cacheComesSpec : ChangeSpec := { name := "cacheComes", fn := fun _ => fun
  | [d1, d2, d3] => { results := [.lit (.bool true)], args := [d1, d2, d3] }
  | _ => none }
def cacheComesRow : OpenClaim := { program := "ytpflodhnniochaa", sum := "c5966f5bd5cca311ec374bec7dca98669520cf210167ea4115c3e96697de0789", func := "tandem/tandemlaw19.CacheComes", spec := "cacheComes", recurses := true, plainKeys := false, apart := false }
def CacheComesSaid : Prop := cacheComesRow.holds Try.pinned (OpenSpec.ofChange cacheComesSpec)

/-- ITS FALSE NEIGHBOUR: 'it returns false'. Refute it at one input. -/
def cacheComesWrong : ChangeSpec := { name := "cacheComes", fn := fun _ => fun
  | [d1, d2, d3] => { results := [.lit (.bool false)], args := [d1, d2, d3] }
  | _ => none }
def CacheComesWrongFalsely : Prop := cacheComesRow.holds Try.pinned (OpenSpec.ofChange cacheComesWrong)

/-- 'tandemlaw19.CacheOnce': WHATEVER THE INPUT: true; the input reads as it did. -/
def cacheOnceSpec : ChangeSpec := { name := "cacheOnce", fn := fun _ => fun
  | [d1, d2] => { results := [.lit (.bool true)], args := [d1, d2] }
  | _ => none }
def cacheOnceRow : OpenClaim := { program := "ytpflodhnniochaa", sum := "c5966f5bd5cca311ec374bec7dca98669520cf210167ea4115c3e96697de0789", func := "tandem/tandemlaw19.CacheOnce", spec := "cacheOnce", recurses := true, plainKeys := false, apart := false }
def CacheOnceSaid : Prop := cacheOnceRow.holds Try.pinned (OpenSpec.ofChange cacheOnceSpec)

/-- ITS FALSE NEIGHBOUR: 'it returns false'. Refute it at one input. -/
def cacheOnceWrong : ChangeSpec := { name := "cacheOnce", fn := fun _ => fun
  | [d1, d2] => { results := [.lit (.bool false)], args := [d1, d2] }
  | _ => none }
def CacheOnceWrongFalsely : Prop := cacheOnceRow.holds Try.pinned (OpenSpec.ofChange cacheOnceWrong)

/-- 'tandemlaw19.CacheSeeds': WHATEVER THE INPUT: true; the input reads as it did. -/
def cacheSeedsSpec : ChangeSpec := { name := "cacheSeeds", fn := fun _ => fun
  | [d1, d2, d3] => { results := [.lit (.bool true)], args := [d1, d2, d3] }
  | _ => none }
def cacheSeedsRow : OpenClaim := { program := "ytpflodhnniochaa", sum := "c5966f5bd5cca311ec374bec7dca98669520cf210167ea4115c3e96697de0789", func := "tandem/tandemlaw19.CacheSeeds", spec := "cacheSeeds", recurses := true, plainKeys := false, apart := false }
def CacheSeedsSaid : Prop := cacheSeedsRow.holds Try.pinned (OpenSpec.ofChange cacheSeedsSpec)

/-- ITS FALSE NEIGHBOUR: 'it returns false'. Refute it at one input. -/
def cacheSeedsWrong : ChangeSpec := { name := "cacheSeeds", fn := fun _ => fun
  | [d1, d2, d3] => { results := [.lit (.bool false)], args := [d1, d2, d3] }
  | _ => none }
def CacheSeedsWrongFalsely : Prop := cacheSeedsRow.holds Try.pinned (OpenSpec.ofChange cacheSeedsWrong)

/-- 'tandemlaw19.CacheStays': WHATEVER THE INPUT: true; the input reads as it did. -/
def cacheStaysSpec : ChangeSpec := { name := "cacheStays", fn := fun _ => fun
  | [d1, d2, d3, d4] => { results := [.lit (.bool true)], args := [d1, d2, d3, d4] }
  | _ => none }
def cacheStaysRow : OpenClaim := { program := "ytpflodhnniochaa", sum := "c5966f5bd5cca311ec374bec7dca98669520cf210167ea4115c3e96697de0789", func := "tandem/tandemlaw19.CacheStays", spec := "cacheStays", recurses := true, plainKeys := false, apart := false }
def CacheStaysSaid : Prop := cacheStaysRow.holds Try.pinned (OpenSpec.ofChange cacheStaysSpec)

/-- ITS FALSE NEIGHBOUR: 'it returns false'. Refute it at one input. -/
def cacheStaysWrong : ChangeSpec := { name := "cacheStays", fn := fun _ => fun
  | [d1, d2, d3, d4] => { results := [.lit (.bool false)], args := [d1, d2, d3, d4] }
  | _ => none }
def CacheStaysWrongFalsely : Prop := cacheStaysRow.holds Try.pinned (OpenSpec.ofChange cacheStaysWrong)

/- THE SECOND FORM. 'bulk': how many values and letters a reading holds, each counted each time it is reached (what is shared counts as often as it is met; a slice's spare places count too). A statement '..UptoSaid' is the law's where the arguments, and the package variables that the reading takes, are together of bulk at most 1048576: NARROWER than '..Said'. Prove '..Said' where nothing that the law and all that it calls make is longer than what came in: it says more and counts as full. Else prove '..UptoSaid'. A law counts once. -/
mutual
def uptoBulk {H : Type} : DataW H → Nat
  | .lit (.string bytes) => bytes.length + 1
  | .lit _ => 1
  | .nil => 1
  | .ptr d => uptoBulk d + 1
  | .slice elems spare => uptoBulkAll elems + uptoBulkAll spare + 1
  | .agg parts => uptoBulkAll parts + 1
  | .iface _ d => uptoBulk d + 1
  | .map entries => uptoBulkEntries entries + 1
  | .held _ => 1
def uptoBulkAll {H : Type} : List (DataW H) → Nat
  | [] => 0
  | d :: r => uptoBulk d + uptoBulkAll r
def uptoBulkEntries {H : Type} : List (Lit × DataW H) → Nat
  | [] => 0
  | x :: r => uptoBulkEntry x + uptoBulkEntries r
def uptoBulkEntry {H : Type} : Lit × DataW H → Nat
  | (.string bytes, d) => bytes.length + uptoBulk d + 1
  | (_, d) => uptoBulk d + 1
 end
def uptoSmall : (H : Type) → List (DataW H) → Bool := fun _ ds => decide (uptoBulkAll ds ≤ 1048576)
def OpenSpec.upto (s : _root_.Go.ChangeSpec) : _root_.Go.OpenSpec := { _root_.Go.OpenSpec.ofChange s with cond := some uptoSmall }

/-- 'tandemlaw19.CacheDoes', WHERE WHAT IT READS IS OF BULK AT MOST 1048576: true; the input reads as it did. -/
def cacheDoesUptoRow : OpenClaim := { program := "ytpflodhnniochaa", sum := "c5966f5bd5cca311ec374bec7dca98669520cf210167ea4115c3e96697de0789", func := "tandem/tandemlaw19.CacheDoes", spec := "cacheDoes", recurses := true, plainKeys := false, apart := false, narrowed := true }
def CacheDoesUptoSaid : Prop := cacheDoesUptoRow.holds Try.pinned (OpenSpec.upto cacheDoesSpec)

/-- 'tandemlaw19.CacheComes', WHERE WHAT IT READS IS OF BULK AT MOST 1048576: true; the input reads as it did. -/
def cacheComesUptoRow : OpenClaim := { program := "ytpflodhnniochaa", sum := "c5966f5bd5cca311ec374bec7dca98669520cf210167ea4115c3e96697de0789", func := "tandem/tandemlaw19.CacheComes", spec := "cacheComes", recurses := true, plainKeys := false, apart := false, narrowed := true }
def CacheComesUptoSaid : Prop := cacheComesUptoRow.holds Try.pinned (OpenSpec.upto cacheComesSpec)

/-- 'tandemlaw19.CacheOnce', WHERE WHAT IT READS IS OF BULK AT MOST 1048576: true; the input reads as it did. -/
def cacheOnceUptoRow : OpenClaim := { program := "ytpflodhnniochaa", sum := "c5966f5bd5cca311ec374bec7dca98669520cf210167ea4115c3e96697de0789", func := "tandem/tandemlaw19.CacheOnce", spec := "cacheOnce", recurses := true, plainKeys := false, apart := false, narrowed := true }
def CacheOnceUptoSaid : Prop := cacheOnceUptoRow.holds Try.pinned (OpenSpec.upto cacheOnceSpec)

/-- 'tandemlaw19.CacheSeeds', WHERE WHAT IT READS IS OF BULK AT MOST 1048576: true; the input reads as it did. -/
def cacheSeedsUptoRow : OpenClaim := { program := "ytpflodhnniochaa", sum := "c5966f5bd5cca311ec374bec7dca98669520cf210167ea4115c3e96697de0789", func := "tandem/tandemlaw19.CacheSeeds", spec := "cacheSeeds", recurses := true, plainKeys := false, apart := false, narrowed := true }
def CacheSeedsUptoSaid : Prop := cacheSeedsUptoRow.holds Try.pinned (OpenSpec.upto cacheSeedsSpec)

/-- 'tandemlaw19.CacheStays', WHERE WHAT IT READS IS OF BULK AT MOST 1048576: true; the input reads as it did. -/
def cacheStaysUptoRow : OpenClaim := { program := "ytpflodhnniochaa", sum := "c5966f5bd5cca311ec374bec7dca98669520cf210167ea4115c3e96697de0789", func := "tandem/tandemlaw19.CacheStays", spec := "cacheStays", recurses := true, plainKeys := false, apart := false, narrowed := true }
def CacheStaysUptoSaid : Prop := cacheStaysUptoRow.holds Try.pinned (OpenSpec.upto cacheStaysSpec)

end Rows
end Go.Proofs.Ytpflodhnniochaa
