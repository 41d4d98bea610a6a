/-
  The arguments of IssueTurns.
-/
import Derived.Test.YtaeggnnijafooaaIssueO
import Derived.Test.YtaeggnnijafooaaIssueT
namespace Go.Proofs.Ytaeggnnijafooaa
set_option linter.unusedVariables false
open Go.RowKit Go.WideShapes

section
variable {H : Type} {enc : TypeId × Value → H} {w : World} {base : Nat} {spare : Nat → Bool} {held : Bool} {fuel : Nat} {cs : List Value} {x : DataW H × List MemPlace}
set_option maxRecDepth 100000 in
theorem five_of_trod (h : DataW.trod enc Try.prog w base spare held fuel 31 cs = some x) : ∃ f : Int → Int, (∀ k, (Lit.int .i64 (f k)).wf = true) ∧ cs[0]? = some (.int .i64 (f 0)) ∧ cs[1]? = some (.int .i64 (f 1)) ∧ cs[2]? = some (.int .i64 (f 2)) ∧ cs[3]? = some (.int .i64 (f 3)) ∧ cs[4]? = some (.int .i64 (f 4)) := by
  have hA := arr_of_trod (n := 5) Try.underlying31 h
  obtain ⟨a, e0, w0⟩ := hA 0 (by decide)
  obtain ⟨b, e1, w1⟩ := hA 1 (by decide)
  obtain ⟨c, e2, w2⟩ := hA 2 (by decide)
  obtain ⟨d, e3, w3⟩ := hA 3 (by decide)
  obtain ⟨e, e4, w4⟩ := hA 4 (by decide)
  refine ⟨fun k => if k = 0 then a else if k = 1 then b else if k = 2 then c else if k = 3 then d else e, fun k => ?_, e0, e1, e2, e3, e4⟩
  dsimp only
  split
  · exact w0
  · split
    · exact w1
    · split
      · exact w2
      · split
        · exact w3
        · exact w4
end
instance : Inhabited (Int → Int) := ⟨fun _ => 0⟩
set_option maxRecDepth 100000 in
theorem open_uops2 {H : Type} {enc : TypeId × Value → H} {W : World} {r : Reach} {b0 : Nat} {v : Value} {d : DataW H} {p : List MemPlace}
    (hok : Value.okWide Try.prog W r b0 45 v) (h : DataW.Trod enc Try.prog W 0 (fun _ => true) true 45 v d p) : ∃ oa l cap, v = .slice oa l.length cap ∧ UopsAt W oa l ∧ l.length ≤ cap ∧ cap ≤ maxLen := by
  obtain ⟨a0, len0, cap0, rfl⟩ := okWide_slice Try.underlying45 hok
  obtain ⟨fuel, hf⟩ := h
  have c5 : Try.prog.cellsOf 30 = 5 := by kernel_rfl
  rcases Go.Deep.open_slice Try.underlying45 hf with ⟨hcs, _⟩ | ⟨a, len, cap, m, n, D, Pl, hcs, _, hl, hm, hmm, _, hi⟩
  · simp [Value.cells] at hcs
    obtain ⟨rfl, rfl, rfl⟩ := hcs
    exact ⟨none, [], 0, rfl, ⟨Nat.zero_le _, fun h => absurd h (Nat.lt_irrefl _)⟩, Nat.zero_le _, Nat.zero_le _⟩
  · simp [Value.cells] at hcs
    obtain ⟨rfl, rfl, rfl⟩ := hcs
    simp only [if_true] at hmm
    subst hmm
    rw [c5] at hi
    obtain ⟨l, hlen, hL⟩ := choose_list (n := len0) (p := fun i e => EnWf e ∧ W.cell? (a.add (i * 5)) = some (.int .i64 e.tag) ∧
        W.cell? ⟨(a.add (i * 5)).block, (a.add (i * 5)).off + 1, none⟩ = some (.int .i64 e.unit) ∧ W.cell? ⟨(a.add (i * 5)).block, (a.add (i * 5)).off + 2, none⟩ = some (.int .i64 e.a) ∧
        W.cell? ⟨(a.add (i * 5)).block, (a.add (i * 5)).off + 3, none⟩ = some (.int .i64 e.b) ∧ W.cell? ⟨(a.add (i * 5)).block, (a.add (i * 5)).off + 4, none⟩ = some (.int .i64 e.c)) (fun i him => by
      obtain ⟨cs', h1, h2⟩ := hi i (by omega)
      obtain ⟨_, _, h3⟩ := World.cells?_some h1
      obtain ⟨y, hw, e0, e1, e2, e3, e4⟩ := uop_of_trod h2
      exact ⟨y, hw, (h3 0 (by decide)).trans e0, (h3 1 (by decide)).trans e1, (h3 2 (by decide)).trans e2, (h3 3 (by decide)).trans e3, (h3 4 (by decide)).trans e4⟩)
    subst hlen
    refine ⟨_, l, _, rfl, ⟨Nat.le_trans hl hm, fun h0 => ⟨a, rfl, ?_, hL⟩⟩, hl, hm⟩
    have t := World.block_lt_of_cell? W (a.add (0 * 5)) (hL 0 _ (List.getElem?_eq_getElem h0)).2.1
    rwa [addr_block] at t
set_option maxRecDepth 100000 in
theorem open_units {H : Type} {enc : TypeId × Value → H} {W : World} {r : Reach} {b0 : Nat} {v : Value} {d : DataW H} {p : List MemPlace}
    (hok : Value.okWide Try.prog W r b0 47 v) (h : DataW.Trod enc Try.prog W 0 (fun _ => true) true 47 v d p) : ∃ oa l cap, v = .slice oa l.length cap ∧ UnitsAt W oa l := by
  obtain ⟨a0, len0, cap0, rfl⟩ := okWide_slice Try.underlying47 hok
  obtain ⟨fuel, hf⟩ := h
  have c5 : Try.prog.cellsOf 31 = 5 := by kernel_rfl
  rcases Go.Deep.open_slice Try.underlying47 hf with ⟨hcs, _⟩ | ⟨a, len, cap, m, n, D, Pl, hcs, _, hl, hm, hmm, _, hi⟩
  · simp [Value.cells] at hcs
    obtain ⟨rfl, rfl, rfl⟩ := hcs
    exact ⟨none, [], 0, rfl, Nat.zero_le _, fun h => absurd h (Nat.lt_irrefl _)⟩
  · simp [Value.cells] at hcs
    obtain ⟨rfl, rfl, rfl⟩ := hcs
    simp only [if_true] at hmm
    subst hmm
    rw [c5] at hi
    obtain ⟨l, hlen, hL⟩ := choose_list (n := len0) (p := fun i (e : Int → Int) => (∀ k, (Lit.int .i64 (e k)).wf = true) ∧ W.cell? (a.add (i * 5)) = some (.int .i64 (e 0)) ∧
        W.cell? ⟨(a.add (i * 5)).block, (a.add (i * 5)).off + 1, none⟩ = some (.int .i64 (e 1)) ∧ W.cell? ⟨(a.add (i * 5)).block, (a.add (i * 5)).off + 2, none⟩ = some (.int .i64 (e 2)) ∧
        W.cell? ⟨(a.add (i * 5)).block, (a.add (i * 5)).off + 3, none⟩ = some (.int .i64 (e 3)) ∧ W.cell? ⟨(a.add (i * 5)).block, (a.add (i * 5)).off + 4, none⟩ = some (.int .i64 (e 4))) (fun i him => by
      obtain ⟨cs', h1, h2⟩ := hi i (by omega)
      obtain ⟨_, _, h3⟩ := World.cells?_some h1
      obtain ⟨y, hw, e0, e1, e2, e3, e4⟩ := five_of_trod h2
      exact ⟨y, hw, (h3 0 (by decide)).trans e0, (h3 1 (by decide)).trans e1, (h3 2 (by decide)).trans e2, (h3 3 (by decide)).trans e3, (h3 4 (by decide)).trans e4⟩)
    subst hlen
    refine ⟨_, l, _, rfl, Nat.le_trans hl hm, fun h0 => ⟨a, rfl, ?_, hL⟩⟩
    have t := World.block_lt_of_cell? W (a.add (0 * 5)) (hL 0 _ (List.getElem?_eq_getElem h0)).2.1
    rwa [addr_block] at t
set_option maxRecDepth 100000 in
theorem open_nums {H : Type} {enc : TypeId × Value → H} {W : World} {r : Reach} {b0 : Nat} {v : Value} {d : DataW H} {p : List MemPlace}
    (hok : Value.okWide Try.prog W r b0 36 v) (h : DataW.Trod enc Try.prog W 0 (fun _ => true) true 36 v d p) : ∃ oa l cap, v = .slice oa l.length cap ∧ NumsAt W oa l := by
  obtain ⟨a0, len0, cap0, rfl⟩ := okWide_slice Try.underlying36 hok
  obtain ⟨fuel, hf⟩ := h
  rcases Go.Deep.open_slice Try.underlying36 hf with ⟨hcs, _⟩ | ⟨a, len, cap, m, n, D, Pl, hcs, _, hl, hm, hmm, _, hi⟩
  · simp [Value.cells] at hcs
    obtain ⟨rfl, rfl, rfl⟩ := hcs
    exact ⟨none, [], 0, rfl, Nat.zero_le _, fun h => absurd h (Nat.lt_irrefl _)⟩
  · simp [Value.cells] at hcs
    obtain ⟨rfl, rfl, rfl⟩ := hcs
    simp only [if_true] at hmm
    subst hmm
    rw [cI] at hi
    obtain ⟨l, hlen, hL⟩ := choose_list (n := len0) (p := fun i x => (Lit.int .i64 x).wf = true ∧ W.cell? (a.add i) = some (.int .i64 x)) (fun i him => by
      obtain ⟨cs', h1, h2⟩ := hi i (by omega)
      obtain ⟨_, _, h3⟩ := World.cells?_some h1
      obtain ⟨x, hx, _, hw⟩ := DataW.trod_int Try.underlying3 h2
      have h4 := h3 0 (by decide)
      rw [hx, Nat.mul_one] at h4
      exact ⟨x, hw, h4⟩)
    subst hlen
    refine ⟨_, l, _, rfl, Nat.le_trans hl hm, fun h0 => ⟨a, rfl, ?_, hL⟩⟩
    have t := World.block_lt_of_cell? W (a.add 0) (hL 0 _ (List.getElem?_eq_getElem h0)).2
    rwa [addr_block] at t
theorem Turns_walk (W : World) (oa ob oc : Option Addr) (l : List En) (un : List (Int → Int)) (wa : List Int) (ca cb cc : Nat) (hl : UopsAt W oa l ∧ l.length ≤ ca ∧ ca ≤ maxLen) (hu : UnitsAt W ob un) (hw : NumsAt W oc wa) :
    Calls Try.prog 6 #[.slice oa l.length ca, .slice ob un.length cb, .slice oc wa.length cc] W fun e w' => e = .returned (.bool true) ∧ Below W.heap.size W w' := Turns_fine W oa ob oc l un wa ca cb cc hl.1 hl.2 hu hw
end Go.Proofs.Ytaeggnnijafooaa
