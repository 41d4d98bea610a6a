/-
  The arguments of IssueDoes and IssueGoes: a slice of things that are done.
-/
import Derived.Test.YtaeggnnijafooaaIssueQ
import Derived.Test.YtaeggnnijafooaaIssueDB
namespace Go.Proofs.Ytaeggnnijafooaa
set_option linter.unusedVariables false
open Go.RowKit Go.WideShapes

section
variable {H : Type} {enc : TypeId × Value → H} {w : World} {base : Nat} {spare : Nat → Bool} {held : Bool} {fuel : Nat} {cs : List Value} {x : DataW H × List MemPlace}
set_option maxRecDepth 100000 in
theorem step_of_trod (h : DataW.trod enc Try.prog w base spare held fuel 33 cs = some x) : ∃ y : Sx, SxWf y ∧ cs[0]? = some (.int .i64 y.kind) ∧ cs[1]? = some (.int .i64 y.n) ∧ cs[2]? = some (.int .i64 y.u.tag) ∧ cs[3]? = some (.int .i64 y.u.unit) ∧ cs[4]? = some (.int .i64 y.u.a) ∧ cs[5]? = some (.int .i64 y.u.b) ∧ cs[6]? = some (.int .i64 y.u.c) ∧ cs[7]? = some (.int .i64 (y.f 0)) ∧ cs[8]? = some (.int .i64 (y.f 1)) ∧ cs[9]? = some (.int .i64 (y.f 2)) ∧ cs[10]? = some (.int .i64 (y.f 3)) ∧ cs[11]? = some (.int .i64 (y.f 4)) := by
  obtain ⟨xs, n, _, _, _, hl, hf⟩ := DataW.trod_struct Try.underlying33 h
  have c3 := cI
  have c30 : Try.prog.cellsOf 30 = 5 := by kernel_rfl
  have c31 : Try.prog.cellsOf 31 = 5 := by kernel_rfl
  have hl : xs.length = 4 := hl
  have some_of : ∀ i, i < 4 → ∃ y, xs[i]? = some y := fun i hi => ⟨_, List.getElem?_eq_getElem (by omega)⟩
  obtain ⟨k, e0, w0⟩ : ∃ v : Int, cs[0]? = some (.int .i64 v) ∧ (Lit.int .i64 v).wf = true := by
    obtain ⟨y, hy⟩ := some_of 0 (by decide)
    have := hf 0 _ rfl
    rw [hy] at this
    exact fldW (o := 0) this
  obtain ⟨nn, e1, w1⟩ : ∃ v : Int, cs[1]? = some (.int .i64 v) ∧ (Lit.int .i64 v).wf = true := by
    obtain ⟨y, hy⟩ := some_of 1 (by decide)
    have := hf 1 _ rfl
    rw [hy] at this
    exact fldW (o := 1) this
  obtain ⟨u, wu, e2, e3, e4, e5, e6⟩ : ∃ e : En, EnWf e ∧ ((cs.drop 2).take 5)[0]? = some (.int .i64 e.tag) ∧ ((cs.drop 2).take 5)[1]? = some (.int .i64 e.unit) ∧ ((cs.drop 2).take 5)[2]? = some (.int .i64 e.a) ∧ ((cs.drop 2).take 5)[3]? = some (.int .i64 e.b) ∧ ((cs.drop 2).take 5)[4]? = some (.int .i64 e.c) := by
    obtain ⟨y, hy⟩ := some_of 2 (by decide)
    have := hf 2 _ rfl
    rw [hy] at this
    exact uop_of_trod (cs := (cs.drop 2).take 5) this
  obtain ⟨f, wf, e7, e8, e9, e10, e11⟩ : ∃ f : Int → Int, (∀ k, (Lit.int .i64 (f k)).wf = true) ∧ ((cs.drop 7).take 5)[0]? = some (.int .i64 (f 0)) ∧ ((cs.drop 7).take 5)[1]? = some (.int .i64 (f 1)) ∧ ((cs.drop 7).take 5)[2]? = some (.int .i64 (f 2)) ∧ ((cs.drop 7).take 5)[3]? = some (.int .i64 (f 3)) ∧ ((cs.drop 7).take 5)[4]? = some (.int .i64 (f 4)) := by
    obtain ⟨y, hy⟩ := some_of 3 (by decide)
    have := hf 3 _ rfl
    rw [hy] at this
    exact five_of_trod (cs := (cs.drop 7).take 5) this
  rw [sub_at (by decide)] at e2 e3 e4 e5 e6 e7 e8 e9 e10 e11
  exact ⟨⟨k, nn, u, f⟩, ⟨w1, wu, wf⟩, e0, e1, e2, e3, e4, e5, e6, e7, e8, e9, e10, e11⟩
end
instance : Inhabited Sx := ⟨⟨0, 0, ⟨0, 0, 0, 0, 0⟩, fun _ => 0⟩⟩
set_option maxRecDepth 100000 in
theorem open_steps {H : Type} {enc : TypeId × Value → H} {W : World} {r : Reach} {b0 : Nat} {v : Value} {d : DataW H} {p : List MemPlace}
    (hok : Value.okWide Try.prog W r b0 22 v) (h : DataW.Trod enc Try.prog W 0 (fun _ => true) true 22 v d p) : ∃ oa l cap, v = .slice oa l.length cap ∧ StepsAt W oa l := by
  obtain ⟨a0, len0, cap0, rfl⟩ := okWide_slice Try.underlying22 hok
  obtain ⟨fuel, hf⟩ := h
  have c5 : Try.prog.cellsOf 33 = 12 := by kernel_rfl
  rcases Go.Deep.open_slice Try.underlying22 hf with ⟨hcs, _⟩ | ⟨a, len, cap, m, n, D, Pl, hcs, _, hl, hm, hmm, _, hi⟩
  · simp [Value.cells] at hcs
    obtain ⟨rfl, rfl, rfl⟩ := hcs
    exact ⟨none, [], 0, rfl, Nat.zero_le _, fun h => absurd h (Nat.lt_irrefl _)⟩
  · simp [Value.cells] at hcs
    obtain ⟨rfl, rfl, rfl⟩ := hcs
    simp only [if_true] at hmm
    subst hmm
    rw [c5] at hi
    obtain ⟨l, hlen, hL⟩ := choose_list (n := len0) (p := fun i (x : Sx) => SxWf x ∧ SxAt W a i x) (fun i him => by
      obtain ⟨cs', h1, h2⟩ := hi i (by omega)
      obtain ⟨_, _, h3⟩ := World.cells?_some h1
      obtain ⟨y, hw, hc⟩ := step_of_trod h2
      exact ⟨y, hw, ⟨(h3 0 (by decide)).trans hc.1, (h3 1 (by decide)).trans hc.2.1, (h3 2 (by decide)).trans hc.2.2.1, (h3 3 (by decide)).trans hc.2.2.2.1, (h3 4 (by decide)).trans hc.2.2.2.2.1, (h3 5 (by decide)).trans hc.2.2.2.2.2.1, (h3 6 (by decide)).trans hc.2.2.2.2.2.2.1, (h3 7 (by decide)).trans hc.2.2.2.2.2.2.2.1, (h3 8 (by decide)).trans hc.2.2.2.2.2.2.2.2.1, (h3 9 (by decide)).trans hc.2.2.2.2.2.2.2.2.2.1, (h3 10 (by decide)).trans hc.2.2.2.2.2.2.2.2.2.2.1, (h3 11 (by decide)).trans hc.2.2.2.2.2.2.2.2.2.2.2⟩⟩)
    subst hlen
    refine ⟨_, l, _, rfl, Nat.le_trans hl hm, fun h0 => ⟨a, rfl, ?_, hL⟩⟩
    have t := World.block_lt_of_cell? W (a.add (0 * 5)) (hL 0 _ (List.getElem?_eq_getElem h0)).2.1
    rwa [addr_block] at t
theorem Does_walk (W : World) (size : Int) (oa : Option Addr) (l : List Sx) (cap : Nat) (hl : StepsAt W oa l) :
    Calls Try.prog 3 #[.int .i64 size, .slice oa l.length cap] W fun e w' => e = .returned (.bool true) ∧ Below W.heap.size W w' := Does_fine W size oa l cap hl
end Go.Proofs.Ytaeggnnijafooaa
