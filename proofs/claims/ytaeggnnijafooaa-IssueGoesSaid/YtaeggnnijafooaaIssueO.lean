/-
  The arguments of the laws: slices of what is laid in, of units, of numbers.
-/
import Derived.Test.YtaeggnnijafooaaIssueV
import Derived.Test.YtaeggnnijafooaaIssueW
import Derived.Deep.Slices
namespace Go.Proofs.Ytaeggnnijafooaa
set_option linter.unusedVariables false
open Go.RowKit Go.WideShapes

section
variable {H : Type} {enc : TypeId × Value → H} {w : World} {base : Nat} {spare : Nat → Bool} {held : Bool} {fuel : Nat} {cs : List Value} {x : DataW H × List MemPlace}
theorem fldW {o : Nat} (h : DataW.trod enc Try.prog w base spare held fuel 3 ((cs.drop o).take 1) = some x) : ∃ v : Int, cs[o]? = some (.int .i64 v) ∧ (Lit.int .i64 v).wf = true := by
  obtain ⟨n, h1, _, h2⟩ := DataW.trod_int Try.underlying3 h
  exact ⟨n, of_take h1, h2⟩
theorem sub_at {cs : List Value} {o n i : Nat} (hi : i < n) : ((cs.drop o).take n)[i]? = cs[o + i]? := by
  rw [List.getElem?_take, if_pos hi, List.getElem?_drop]
theorem cI : Try.prog.cellsOf 3 = 1 := by kernel_rfl
set_option maxRecDepth 100000 in
theorem arr_of_trod {t : TypeId} {n : Nat} (ht : Try.prog.underlying t = some (.array n 3)) (h : DataW.trod enc Try.prog w base spare held fuel t cs = some x) : ∀ i, i < n → ∃ v : Int, cs[i]? = some (.int .i64 v) ∧ (Lit.int .i64 v).wf = true := by
  obtain ⟨xs, m, _, _, _, hl, hf⟩ := DataW.trod_array ht h
  intro i hi
  have h1 := hf i hi
  rw [cI, List.getElem?_eq_getElem (by omega)] at h1
  obtain ⟨v, hv, hw⟩ := fldW h1
  exact ⟨v, by simpa using hv, hw⟩
set_option maxRecDepth 100000 in
theorem uop_of_trod (h : DataW.trod enc Try.prog w base spare held fuel 30 cs = some x) : ∃ e : En, EnWf e ∧ cs[0]? = some (.int .i64 e.tag) ∧ cs[1]? = some (.int .i64 e.unit) ∧ cs[2]? = some (.int .i64 e.a) ∧ cs[3]? = some (.int .i64 e.b) ∧ cs[4]? = some (.int .i64 e.c) := by
  obtain ⟨xs, n, _, _, _, hl, hf⟩ := DataW.trod_struct Try.underlying30 h
  have c3 := cI
  have c28 : Try.prog.cellsOf 28 = 3 := by kernel_rfl
  have hl : xs.length = 3 := hl
  have some_of : ∀ i, i < 3 → ∃ y, xs[i]? = some y := fun i hi => ⟨_, List.getElem?_eq_getElem (by omega)⟩
  obtain ⟨t, e0, w0⟩ : ∃ v : Int, cs[0]? = some (.int .i64 v) ∧ (Lit.int .i64 v).wf = true := by
    obtain ⟨y, hy⟩ := some_of 0 (by decide)
    have := hf 0 _ rfl
    rw [hy] at this
    exact fldW (o := 0) this
  obtain ⟨u, e1, w1⟩ : ∃ v : Int, cs[1]? = some (.int .i64 v) ∧ (Lit.int .i64 v).wf = true := by
    obtain ⟨y, hy⟩ := some_of 1 (by decide)
    have := hf 1 _ rfl
    rw [hy] at this
    exact fldW (o := 1) this
  have hA : ∀ i, i < 3 → ∃ v : Int, ((cs.drop 2).take 3)[i]? = some (.int .i64 v) ∧ (Lit.int .i64 v).wf = true := by
    obtain ⟨y, hy⟩ := some_of 2 (by decide)
    have := hf 2 _ rfl
    rw [hy] at this
    exact arr_of_trod (cs := (cs.drop 2).take 3) Try.underlying28 this
  obtain ⟨a, e2, w2⟩ := hA 0 (by decide)
  obtain ⟨b, e3, w3⟩ := hA 1 (by decide)
  obtain ⟨c, e4, w4⟩ := hA 2 (by decide)
  rw [sub_at (by decide)] at e2 e3 e4
  exact ⟨⟨t, u, a, b, c⟩, ⟨w0, w1, w2, w3, w4⟩, e0, e1, e2, e3, e4⟩
end
theorem addr_block (a : Addr) (i : Nat) : (a.add i).block = a.block := by unfold Addr.add; split <;> rfl
theorem choose_list {α : Type} [Inhabited α] {n : Nat} {p : Nat → α → Prop} (h : ∀ i, i < n → ∃ y, p i y) : ∃ l : List α, l.length = n ∧ ∀ i e, l[i]? = some e → p i e := by
  refine ⟨(List.range n).map fun i => if g : i < n then (h i g).choose else default, by simp, fun i e he => ?_⟩
  rw [List.getElem?_map] at he
  by_cases hi : i < n
  · rw [List.getElem?_range hi] at he
    simp only [Option.map_some, dif_pos hi, Option.some.injEq] at he
    rw [← he]
    exact (h i hi).choose_spec
  · rw [List.getElem?_eq_none (by simp; omega)] at he
    cases he
instance : Inhabited En := ⟨⟨0, 0, 0, 0, 0⟩⟩
set_option maxRecDepth 100000 in
theorem open_uops {H : Type} {enc : TypeId × Value → H} {W : World} {r : Reach} {b0 : Nat} {v : Value} {d : DataW H} {p : List MemPlace}
    (hok : Value.okWide Try.prog W r b0 45 v) (h : DataW.Trod enc Try.prog W 0 (fun _ => true) true 45 v d p) : ∃ oa l cap, v = .slice oa l.length cap ∧ UopsAt W oa l := by
  obtain ⟨a0, len0, cap0, rfl⟩ := okWide_slice Try.underlying45 hok
  obtain ⟨fuel, hf⟩ := h
  have c5 : Try.prog.cellsOf 30 = 5 := by kernel_rfl
  rcases Go.Deep.open_slice Try.underlying45 hf with ⟨hcs, _⟩ | ⟨a, len, cap, m, n, D, Pl, hcs, _, hl, hm, hmm, _, hi⟩
  · simp [Value.cells] at hcs
    obtain ⟨rfl, rfl, rfl⟩ := hcs
    exact ⟨none, [], 0, rfl, Nat.zero_le _, fun h => absurd h (Nat.lt_irrefl _)⟩
  · simp [Value.cells] at hcs
    obtain ⟨rfl, rfl, rfl⟩ := hcs
    simp only [if_true] at hmm
    subst hmm
    rw [c5] at hi
    obtain ⟨l, hlen, hL⟩ := choose_list (n := len0) (p := fun i e => EnWf e ∧ W.cell? (a.add (i * 5)) = some (.int .i64 e.tag) ∧
        W.cell? ⟨(a.add (i * 5)).block, (a.add (i * 5)).off + 1, none⟩ = some (.int .i64 e.unit) ∧ W.cell? ⟨(a.add (i * 5)).block, (a.add (i * 5)).off + 2, none⟩ = some (.int .i64 e.a) ∧
        W.cell? ⟨(a.add (i * 5)).block, (a.add (i * 5)).off + 3, none⟩ = some (.int .i64 e.b) ∧ W.cell? ⟨(a.add (i * 5)).block, (a.add (i * 5)).off + 4, none⟩ = some (.int .i64 e.c)) (fun i him => by
      obtain ⟨cs', h1, h2⟩ := hi i (by omega)
      obtain ⟨_, _, h3⟩ := World.cells?_some h1
      obtain ⟨y, hw, e0, e1, e2, e3, e4⟩ := uop_of_trod h2
      exact ⟨y, hw, (h3 0 (by decide)).trans e0, (h3 1 (by decide)).trans e1, (h3 2 (by decide)).trans e2, (h3 3 (by decide)).trans e3, (h3 4 (by decide)).trans e4⟩)
    subst hlen
    refine ⟨_, l, _, rfl, Nat.le_trans hl hm, fun h0 => ⟨a, rfl, ?_, hL⟩⟩
    have t := World.block_lt_of_cell? W (a.add (0 * 5)) (hL 0 _ (List.getElem?_eq_getElem h0)).2.1
    rwa [addr_block] at t
theorem Wakes_walk (W : World) (oa : Option Addr) (l : List En) (cap : Nat) (p : Int) (hl : UopsAt W oa l) (hp : (Lit.int .i64 p).wf = true) :
    Calls Try.prog 7 #[.slice oa l.length cap, .int .i64 p] W fun e w' => e = .returned (.bool true) ∧ Below W.heap.size W w' := Wakes_fine W oa l cap p hl hp
end Go.Proofs.Ytaeggnnijafooaa
