/-
  An argument that is a slice of steps; CacheComes.
-/
import Derived.Test.YtpflodhnniochaaCacheT
import Derived.Test.YtpflodhnniochaaCacheU
import Derived.Test.YtpflodhnniochaaCacheV
import Derived.Deep.Slices
namespace Go.Proofs.Ytpflodhnniochaa
set_option linter.unusedVariables false
open Go.RowKit Go.WideShapes

section
variable {H : Type} {enc : TypeId × Value → H} {w : World} {base : Nat} {spare : Nat → Bool} {held : Bool} {fuel : Nat} {cs : List Value} {x : DataW H × List MemPlace}
theorem fldB {o : Nat} {t : TypeId} (ht : Try.prog.underlying t = some .bool) (h : DataW.trod enc Try.prog w base spare held fuel t ((cs.drop o).take 1) = some x) : ∃ v : Bool, cs[o]? = some (.bool v) := by
  obtain ⟨n, h1, _⟩ := DataW.trod_bool ht h
  exact ⟨n, of_take h1⟩
set_option maxRecDepth 100000 in
theorem step_of_trod (h : DataW.trod enc Try.prog w base spare held fuel 32 cs = some x) : ∃ y : Int × BitVec 64 × Bool, cs[0]? = some (.int .i64 y.1) ∧ cs[1]? = some (.int .u64 (U y.2.1)) ∧ cs[2]? = some (.bool y.2.2) := by
  obtain ⟨xs, n, _, _, _, hl, hf⟩ := DataW.trod_struct Try.underlying32 h
  have c22 : Try.prog.cellsOf 22 = 1 := by kernel_rfl
  have c3 : Try.prog.cellsOf 3 = 1 := by kernel_rfl
  have c4 : Try.prog.cellsOf 4 = 1 := by kernel_rfl
  have hl : xs.length = 3 := hl
  have some_of : ∀ i, i < 3 → ∃ y, xs[i]? = some y := fun i hi => ⟨_, List.getElem?_eq_getElem (by omega)⟩
  obtain ⟨a, e0⟩ : ∃ v : Int, cs[0]? = some (.int .i64 v) := by
    obtain ⟨y, hy⟩ := some_of 0 (by decide)
    have := hf 0 _ rfl
    rw [hy] at this
    exact fldI (o := 0) Try.underlying3 this
  obtain ⟨b, e1⟩ : ∃ v : BitVec 64, cs[1]? = some (.int .u64 (U v)) := by
    obtain ⟨y, hy⟩ := some_of 1 (by decide)
    have := hf 1 _ rfl
    rw [hy] at this
    exact fldU (o := 1) Try.underlying22 this
  obtain ⟨c, e2⟩ : ∃ v : Bool, cs[2]? = some (.bool v) := by
    obtain ⟨y, hy⟩ := some_of 2 (by decide)
    have := hf 2 _ rfl
    rw [hy] at this
    exact fldB (o := 2) Try.underlying4 this
  exact ⟨(a, b, c), e0, e1, e2⟩
end
theorem choose_step {n : Nat} {p : Nat → Int × BitVec 64 × Bool → Prop} (h : ∀ i, i < n → ∃ y, p i y) : ∃ Lf : Nat → Int × BitVec 64 × Bool, ∀ i, i < n → p i (Lf i) :=
  ⟨fun i => if g : i < n then (h i g).choose else (0, 0#64, false), fun i hi => by simp only [dif_pos hi]; exact (h i hi).choose_spec⟩
set_option maxRecDepth 100000 in
theorem open_steps {H : Type} {enc : TypeId × Value → H} {W : World} {r : Reach} {b0 : Nat} {v : Value} {d : DataW H} {p : List MemPlace}
    (hok : Value.okWide Try.prog W r b0 25 v) (h : DataW.Trod enc Try.prog W 0 (fun _ => true) true 25 v d p) : ∃ oa n cap Lf, v = .slice oa n cap ∧ StepsAt W oa n Lf := by
  obtain ⟨a0, len0, cap0, rfl⟩ := okWide_slice Try.underlying25 hok
  obtain ⟨fuel, hf⟩ := h
  have c32 : Try.prog.cellsOf 32 = 3 := by kernel_rfl
  rcases Go.Deep.open_slice Try.underlying25 hf with ⟨hcs, _⟩ | ⟨a, len, cap, m, n, D, Pl, hcs, _, hl, hm, hmm, _, hi⟩
  · simp [Value.cells] at hcs
    obtain ⟨rfl, rfl, rfl⟩ := hcs
    exact ⟨none, 0, 0, fun _ => (0, 0#64, false), rfl, Nat.zero_le _, fun h => absurd h (Nat.lt_irrefl _)⟩
  · simp [Value.cells] at hcs
    obtain ⟨rfl, rfl, rfl⟩ := hcs
    simp only [if_true] at hmm
    subst hmm
    rw [c32] at hi
    obtain ⟨Lf, hLf⟩ := choose_step (n := len0) (p := fun i y => W.cell? (a.add (i * 3)) = some (.int .i64 y.1) ∧
        W.cell? ⟨(a.add (i * 3)).block, (a.add (i * 3)).off + 1, none⟩ = some (.int .u64 (U y.2.1)) ∧ W.cell? ⟨(a.add (i * 3)).block, (a.add (i * 3)).off + 2, none⟩ = some (.bool y.2.2)) (fun i him => by
      obtain ⟨cs', h1, h2⟩ := hi i (by omega)
      obtain ⟨_, _, h3⟩ := World.cells?_some h1
      obtain ⟨y, e0, e1, e2⟩ := step_of_trod h2
      exact ⟨y, (h3 0 (by decide)).trans e0, (h3 1 (by decide)).trans e1, (h3 2 (by decide)).trans e2⟩)
    refine ⟨_, _, _, Lf, rfl, Nat.le_trans hl hm, fun h0 => ⟨a, rfl, ?_, hLf⟩⟩
    have t := World.block_lt_of_cell? W (a.add (0 * 3)) (hLf 0 h0).1
    rwa [addr_block] at t
theorem Comes_walk (W : World) (a b c d : Int) (seed : BitVec 64) (oa : Option Addr) (n cap : Nat) (Lf : Nat → Int × BitVec 64 × Bool) (hl : StepsAt W oa n Lf) (at_ : Int) (hat : (Lit.int .u64 at_).wf = true) :
    Calls Try.prog 4 #[.agg (shapeC a b c d seed), .slice oa n cap, .int .u64 at_] W fun e w' => e = .returned (.bool true) ∧ Below W.heap.size W w' := by
  rw [U_of_wf hat]
  by_cases h : Bad a b c d
  · exact Comes_bad W a b c d seed _ _ h
  · obtain ⟨a, b, c, d, rfl, rfl, rfl, rfl, hf⟩ := fine_of h
    exact Comes_fine W a b c d hf seed _ oa n cap Lf hl
end Go.Proofs.Ytpflodhnniochaa
