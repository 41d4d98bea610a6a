/-
  The arguments of the laws: a shape, a slice of bools.
-/
import Derived.Test.YtpflodhnniochaaCacheS
import Derived.Test.YtpflodhnniochaaWf
import Derived.WideShapes
import Derived.ChangeArms
import Derived.Deep.Grids
namespace Go.Proofs.Ytpflodhnniochaa
set_option linter.unusedVariables false
open Go.RowKit Go.WideShapes

theorem of_take {cs : List Value} {o : Nat} {v : Value} (h : (cs.drop o).take 1 = [v]) : cs[o]? = some v := by
  have := congrArg (·[0]?) h
  simpa using this
section
variable {H : Type} {enc : TypeId × Value → H} {w : World} {base : Nat} {spare : Nat → Bool} {held : Bool} {fuel : Nat} {cs : List Value} {x : DataW H × List MemPlace}
theorem fldU {o : Nat} {t : TypeId} (ht : Try.prog.underlying t = some (.int .u64)) (h : DataW.trod enc Try.prog w base spare held fuel t ((cs.drop o).take 1) = some x) : ∃ v : BitVec 64, cs[o]? = some (.int .u64 (U v)) := by
  obtain ⟨n, h1, _, h2⟩ := DataW.trod_int ht h
  exact ⟨B n, by rw [of_take h1, ← U_of_wf h2]⟩
theorem fldI {o : Nat} {t : TypeId} (ht : Try.prog.underlying t = some (.int .i64)) (h : DataW.trod enc Try.prog w base spare held fuel t ((cs.drop o).take 1) = some x) : ∃ v : Int, cs[o]? = some (.int .i64 v) := by
  obtain ⟨n, h1, _, h2⟩ := DataW.trod_int ht h
  exact ⟨n, of_take h1⟩
set_option maxRecDepth 100000 in
theorem shape_of_trod (h : DataW.trod enc Try.prog w base spare held fuel 24 cs = some x) (hs : cs.length = 5) : ∃ (a b c d : Int) (e : BitVec 64), cs = (shapeC a b c d e).toList := by
  obtain ⟨xs, n, _, _, _, hl, hf⟩ := DataW.trod_struct Try.underlying24 h
  have c22 : Try.prog.cellsOf 22 = 1 := by kernel_rfl
  have c3 : Try.prog.cellsOf 3 = 1 := by kernel_rfl
  have hl : xs.length = 5 := hl
  have some_of : ∀ i, i < 5 → ∃ y, xs[i]? = some y := fun i hi => ⟨_, List.getElem?_eq_getElem (by omega)⟩
  obtain ⟨a, e0⟩ : ∃ v : Int, cs[0]? = some (.int .i64 v) := by
    obtain ⟨y, hy⟩ := some_of 0 (by decide)
    have := hf 0 _ rfl
    rw [hy] at this
    exact fldI (o := 0) Try.underlying3 this
  obtain ⟨b, e1⟩ : ∃ v : Int, cs[1]? = some (.int .i64 v) := by
    obtain ⟨y, hy⟩ := some_of 1 (by decide)
    have := hf 1 _ rfl
    rw [hy] at this
    exact fldI (o := 1) Try.underlying3 this
  obtain ⟨c, e2⟩ : ∃ v : Int, cs[2]? = some (.int .i64 v) := by
    obtain ⟨y, hy⟩ := some_of 2 (by decide)
    have := hf 2 _ rfl
    rw [hy] at this
    exact fldI (o := 2) Try.underlying3 this
  obtain ⟨d, e3⟩ : ∃ v : Int, cs[3]? = some (.int .i64 v) := by
    obtain ⟨y, hy⟩ := some_of 3 (by decide)
    have := hf 3 _ rfl
    rw [hy] at this
    exact fldI (o := 3) Try.underlying3 this
  obtain ⟨e, e4⟩ : ∃ v : BitVec 64, cs[4]? = some (.int .u64 (U v)) := by
    obtain ⟨y, hy⟩ := some_of 4 (by decide)
    have := hf 4 _ rfl
    rw [hy] at this
    exact fldU (o := 4) Try.underlying22 this
  refine ⟨a, b, c, d, e, List.ext_getElem? fun j => ?_⟩
  match j with
  | 0 => exact e0
  | 1 => exact e1
  | 2 => exact e2
  | 3 => exact e3
  | 4 => exact e4
  | j + 5 =>
    rw [List.getElem?_eq_none (by omega), List.getElem?_eq_none (by show 5 ≤ j + 5; omega)]
end
set_option maxRecDepth 100000 in
theorem open_shape {H : Type} {enc : TypeId × Value → H} {w : World} {base b0 : Nat} {spare : Nat → Bool} {held : Bool} {r : Reach} {v : Value} {d : DataW H} {p : List MemPlace}
    (hv : Value.okWide Try.prog w r b0 24 v) (h : DataW.Trod enc Try.prog w base spare held 24 v d p) : ∃ (a b c f : Int) (e : BitVec 64), v = .agg (shapeC a b c f e) := by
  obtain ⟨cs, rfl, hsz⟩ := okWide_struct Try.underlying24 hv
  have c26 : Try.prog.cellsOf 24 = 5 := by kernel_rfl
  obtain ⟨fuel, hf⟩ := h
  obtain ⟨a, b, c, f, e, hr⟩ := shape_of_trod (cs := cs.toList) (by simpa [Value.cells] using hf) (by simp [hsz, c26])
  exact ⟨a, b, c, f, e, by rw [show cs = shapeC a b c f e from Array.toList_inj.1 hr]⟩
set_option maxRecDepth 100000 in
theorem open_flags {H : Type} {enc : TypeId × Value → H} {W : World} {r : Reach} {b0 : Nat} {v : Value} {d : DataW H} {p : List MemPlace}
    (hok : Value.okWide Try.prog W r b0 53 v) (h : DataW.Trod enc Try.prog W 0 (fun _ => true) true 53 v d p) : ∃ oa n cap Bf, v = .slice oa n cap ∧ BoolsAt W oa n Bf := by
  obtain ⟨a0, len0, cap0, rfl⟩ := okWide_slice Try.underlying53 hok
  obtain ⟨fuel, hf⟩ := h
  rcases Go.Deep.open_bools Try.underlying53 Try.underlying4 (by kernel_rfl) hf with ⟨hcs, _⟩ | ⟨a, len, cap, Bf, hcs, _, hl, hm, _, hi⟩
  · simp [Value.cells] at hcs
    obtain ⟨rfl, rfl, rfl⟩ := hcs
    exact ⟨none, 0, 0, fun _ => false, rfl, Nat.zero_le _, fun h => absurd h (Nat.lt_irrefl _)⟩
  · simp [Value.cells] at hcs
    obtain ⟨rfl, rfl, rfl⟩ := hcs
    refine ⟨_, _, _, Bf, rfl, Nat.le_trans hl hm, fun h0 => ⟨a, rfl, ?_, fun i h => hi i (by omega)⟩⟩
    have t := World.block_lt_of_cell? W (a.add 0) (hi 0 (by omega))
    rwa [addr_block] at t
theorem Stays_walk (W : World) (a b c d : Int) (seed : BitVec 64) (at_ : Int) (hat : (Lit.int .u64 at_).wf = true) (oa : Option Addr) (n cap : Nat) (Bf : Nat → Bool) (hl : BoolsAt W oa n Bf) (ticks : Int) :
    Calls Try.prog 7 #[.agg (shapeC a b c d seed), .int .u64 at_, .slice oa n cap, .int .i64 ticks] W fun e w' => e = .returned (.bool true) ∧ Below W.heap.size W w' := by
  rw [U_of_wf hat]
  by_cases h : Bad a b c d
  · exact Stays_bad W a b c d seed _ _ ticks h
  · obtain ⟨a, b, c, d, rfl, rfl, rfl, rfl, hf⟩ := fine_of h
    exact Stays_fine W a b c d hf seed _ oa n cap Bf hl ticks
end Go.Proofs.Ytpflodhnniochaa
