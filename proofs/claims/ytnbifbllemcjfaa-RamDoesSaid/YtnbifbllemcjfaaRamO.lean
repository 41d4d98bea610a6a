/-
  The arguments of the laws: bytes, a step, a slice of steps.
-/
import Derived.Test.YtnbifbllemcjfaaRamX
import Derived.WideShapes
import Derived.ChangeArms
import Derived.Deep.Slices
namespace Go.Proofs.Ytnbifbllemcjfaa
set_option linter.unusedVariables false
open Go.RowKit Go.Maps Go.WideShapes

/-- A step. -/
structure Sy where
  kind : Int
  at_ : BitVec 64
  size : Int
  v : BitVec 64
  lay : Value
  n : Nat
  f : Nat → BitVec 8
def SyWf (x : Sy) : Prop := (Lit.int .i64 x.kind).wf = true ∧ (Lit.int .i64 x.size).wf = true
structure SyAt (w : World) (a : Addr) (i : Nat) (x : Sy) : Prop where
  c0 : w.cell? (a.add (i * 5)) = some (.int .i64 x.kind)
  c1 : w.cell? ⟨(a.add (i * 5)).block, (a.add (i * 5)).off + 1, none⟩ = some (.int .u64 (U x.at_))
  c2 : w.cell? ⟨(a.add (i * 5)).block, (a.add (i * 5)).off + 2, none⟩ = some (.int .i64 x.size)
  c3 : w.cell? ⟨(a.add (i * 5)).block, (a.add (i * 5)).off + 3, none⟩ = some (.int .u64 (U x.v))
  c4 : w.cell? ⟨(a.add (i * 5)).block, (a.add (i * 5)).off + 4, none⟩ = some x.lay
def StepsAt (w : World) (oa : Option Addr) (l : List Sy) : Prop :=
  l.length ≤ maxLen ∧ (0 < l.length → ∃ a, oa = some a ∧ a.block < w.heap.size ∧ ∀ i x, l[i]? = some x → SyWf x ∧ SyAt w a i x ∧ Bys w x.lay x.n x.f)
theorem SyAt.on {w w' : World} {a : Addr} {i : Nat} {x : Sy} (h : SyAt w a i x) (k : Still w w') (ha : a.block < w.heap.size) : SyAt w' a i x := by
  have e : ∀ o v, w.cell? ⟨(a.add (i * 5)).block, o, none⟩ = some v → w'.cell? ⟨(a.add (i * 5)).block, o, none⟩ = some v := fun o v hv => k.cell hv (fun e => e)
  refine ⟨?_, e _ _ h.c1, e _ _ h.c2, e _ _ h.c3, e _ _ h.c4⟩
  rw [← h.c0]
  unfold World.cell?
  rw [addr_block, k.block _ ha (fun e => e)]
theorem U1_of_wf {a : Int} (h : (Lit.int .u8 a).wf = true) : a = U1 (B1 a) := by
  have h2 : 0 ≤ a ∧ a ≤ 255 := by simpa [Lit.wf, IntKind.min, IntKind.max, IntKind.bits, IntKind.signed] using h
  unfold U1 B1
  rw [BitVec.toNat_ofInt]
  have : (0 : Int) ≤ a % (256 : Int) := by omega
  omega
theorem of_take {cs : List Value} {o : Nat} {v : Value} (h : (cs.drop o).take 1 = [v]) : cs[o]? = some v := by
  have := congrArg (·[0]?) h
  simpa using this
theorem choose_list {α : Type} [Inhabited α] {n : Nat} {p : Nat → α → Prop} (h : ∀ i, i < n → ∃ y, p i y) : ∃ l : List α, l.length = n ∧ ∀ i e, l[i]? = some e → p i e := by
  refine ⟨(List.range n).map fun i => if g : i < n then (h i g).choose else default, by simp, fun i e he => ?_⟩
  rw [List.getElem?_map] at he
  by_cases hi : i < n
  · rw [List.getElem?_range hi] at he
    simp only [Option.map_some, dif_pos hi, Option.some.injEq] at he
    rw [← he]
    exact (h i hi).choose_spec
  · rw [List.getElem?_eq_none (by simp; omega)] at he
    cases he
section
variable {H : Type} {enc : TypeId × Value → H} {w : World} {base : Nat} {held : Bool} {fuel : Nat} {cs : List Value} {x : DataW H × List MemPlace}
theorem bys_of_trod {n : Nat} (h : DataW.trod enc Try.prog w base (fun _ => true) held n 22 cs = some x) : ∃ v m f, cs = [v] ∧ Bys w v m f := by
  rcases Go.Deep.open_slice1 Try.underlying22 cells5 h with ⟨hcs, _⟩ | ⟨a, len, cap, m, n, V, D, Pl, hcs, _, hl, hm, hmm, _, hi⟩
  · exact ⟨_, 0, fun _ => 0#8, hcs, none, 0, rfl, Nat.zero_le _, Nat.zero_le _, fun h => absurd h (Nat.lt_irrefl _)⟩
  · simp only [if_true] at hmm
    subst hmm
    have hb : ∀ i, i < len → ∃ b : BitVec 8, w.cell? (a.add i) = some (.int .u8 (U1 b)) := fun i hil => by
      obtain ⟨h1, h2⟩ := hi i (by omega)
      obtain ⟨z, h3, _, h4⟩ := DataW.trod_int Try.underlying5 h2
      have h5 : V i = .int .u8 z := by simpa using h3
      rw [h5, U1_of_wf h4] at h1
      exact ⟨_, h1⟩
    refine ⟨_, len, fun i => if g : i < len then (hb i g).choose else 0#8, hcs, some a, _, rfl, hl, hm, fun h0 => ⟨a, rfl, ?_, fun i hil => ?_⟩⟩
    · obtain ⟨b, h1⟩ := hb 0 h0
      have t := World.block_lt_of_cell? w (a.add 0) h1
      rwa [addr_block] at t
    · simp only [dif_pos hil]
      exact (hb i hil).choose_spec
theorem fldU {o : Nat} {t : TypeId} {spare : Nat → Bool} (ht : Try.prog.underlying t = some (.int .u64)) (h : DataW.trod enc Try.prog w base spare held fuel t ((cs.drop o).take 1) = some x) : ∃ v : BitVec 64, cs[o]? = some (.int .u64 (U v)) := by
  obtain ⟨n, h1, _, h2⟩ := DataW.trod_int ht h
  exact ⟨B n, by rw [of_take h1, ← U_of_wf h2]⟩
theorem fldW {o : Nat} {spare : Nat → Bool} (h : DataW.trod enc Try.prog w base spare held fuel 3 ((cs.drop o).take 1) = some x) : ∃ v : Int, cs[o]? = some (.int .i64 v) ∧ (Lit.int .i64 v).wf = true := by
  obtain ⟨n, h1, _, h2⟩ := DataW.trod_int Try.underlying3 h
  exact ⟨n, of_take h1, h2⟩
set_option maxRecDepth 100000 in
theorem step_of_trod (h : DataW.trod enc Try.prog w base (fun _ => true) held fuel 32 cs = some x) : ∃ y : Sy, SyWf y ∧ cs[0]? = some (.int .i64 y.kind) ∧ cs[1]? = some (.int .u64 (U y.at_)) ∧ cs[2]? = some (.int .i64 y.size) ∧ cs[3]? = some (.int .u64 (U y.v)) ∧ cs[4]? = some y.lay ∧ Bys w y.lay y.n y.f := by
  obtain ⟨xs, n, _, _, _, hl, hf⟩ := DataW.trod_struct Try.underlying32 h
  have c30 := cells30
  have c3 : Try.prog.cellsOf 3 = 1 := by kernel_rfl
  have cb : Try.prog.cellsOf 22 = 1 := by kernel_rfl
  have hl : xs.length = 5 := hl
  have some_of : ∀ i, i < 5 → ∃ y, xs[i]? = some y := fun i hi => ⟨_, List.getElem?_eq_getElem (by omega)⟩
  obtain ⟨k, e0, w0⟩ : ∃ v : Int, cs[0]? = some (.int .i64 v) ∧ (Lit.int .i64 v).wf = true := by
    obtain ⟨y, hy⟩ := some_of 0 (by decide)
    have := hf 0 _ rfl
    rw [hy] at this
    exact fldW (o := 0) this
  obtain ⟨a, e1⟩ : ∃ v : BitVec 64, cs[1]? = some (.int .u64 (U v)) := by
    obtain ⟨y, hy⟩ := some_of 1 (by decide)
    have := hf 1 _ rfl
    rw [hy] at this
    exact fldU (o := 1) Try.underlying30 this
  obtain ⟨s, e2, w2⟩ : ∃ v : Int, cs[2]? = some (.int .i64 v) ∧ (Lit.int .i64 v).wf = true := by
    obtain ⟨y, hy⟩ := some_of 2 (by decide)
    have := hf 2 _ rfl
    rw [hy] at this
    exact fldW (o := 2) this
  obtain ⟨v, e3⟩ : ∃ v : BitVec 64, cs[3]? = some (.int .u64 (U v)) := by
    obtain ⟨y, hy⟩ := some_of 3 (by decide)
    have := hf 3 _ rfl
    rw [hy] at this
    exact fldU (o := 3) Try.underlying30 this
  obtain ⟨lv, m, f, e4, hb⟩ : ∃ v m f, (cs.drop 4).take 1 = [v] ∧ Bys w v m f := by
    obtain ⟨y, hy⟩ := some_of 4 (by decide)
    have := hf 4 _ rfl
    rw [hy] at this
    exact bys_of_trod (cs := (cs.drop 4).take 1) this
  exact ⟨⟨k, a, s, v, lv, m, f⟩, ⟨w0, w2⟩, e0, e1, e2, e3, of_take e4, hb⟩
end
instance : Inhabited Sy := ⟨⟨0, 0#64, 0, 0#64, .bool false, 0, fun _ => 0#8⟩⟩
theorem open_bytes {H : Type} {enc : TypeId × Value → H} {W : World} {r : Reach} {b0 : Nat} {v : Value} {d : DataW H} {p : List MemPlace}
    (hok : Value.okWide Try.prog W r b0 22 v) (h : DataW.Trod enc Try.prog W 0 (fun _ => true) true 22 v d p) : ∃ n f, Bys W v n f := by
  obtain ⟨a0, len0, cap0, rfl⟩ := okWide_slice Try.underlying22 hok
  obtain ⟨fuel, hf⟩ := h
  obtain ⟨v, m, f, hv, hb⟩ := bys_of_trod hf
  simp [Value.cells] at hv
  subst hv
  exact ⟨m, f, hb⟩
set_option maxRecDepth 100000 in
theorem open_steps {H : Type} {enc : TypeId × Value → H} {W : World} {r : Reach} {b0 : Nat} {v : Value} {d : DataW H} {p : List MemPlace}
    (hok : Value.okWide Try.prog W r b0 23 v) (h : DataW.Trod enc Try.prog W 0 (fun _ => true) true 23 v d p) : ∃ oa l cap, v = .slice oa l.length cap ∧ StepsAt W oa l := by
  obtain ⟨a0, len0, cap0, rfl⟩ := okWide_slice Try.underlying23 hok
  obtain ⟨fuel, hf⟩ := h
  have c5 : Try.prog.cellsOf 32 = 5 := by kernel_rfl
  rcases Go.Deep.open_slice Try.underlying23 hf with ⟨hcs, _⟩ | ⟨a, len, cap, m, n, D, Pl, hcs, _, hl, hm, hmm, _, hi⟩
  · simp [Value.cells] at hcs
    obtain ⟨rfl, rfl, rfl⟩ := hcs
    exact ⟨none, [], 0, rfl, Nat.zero_le _, fun h => absurd h (Nat.lt_irrefl _)⟩
  · simp [Value.cells] at hcs
    obtain ⟨rfl, rfl, rfl⟩ := hcs
    simp only [if_true] at hmm
    subst hmm
    rw [c5] at hi
    obtain ⟨l, hlen, hL⟩ := choose_list (n := len0) (p := fun i (x : Sy) => SyWf x ∧ SyAt W a i x ∧ Bys W x.lay x.n x.f) (fun i him => by
      obtain ⟨cs', h1, h2⟩ := hi i (by omega)
      obtain ⟨_, _, h3⟩ := World.cells?_some h1
      obtain ⟨y, hw, e0, e1, e2, e3, e4, hb⟩ := step_of_trod h2
      exact ⟨y, hw, ⟨(h3 0 (by decide)).trans e0, (h3 1 (by decide)).trans e1, (h3 2 (by decide)).trans e2, (h3 3 (by decide)).trans e3, (h3 4 (by decide)).trans e4⟩, hb⟩)
    subst hlen
    refine ⟨_, l, _, rfl, Nat.le_trans hl hm, fun h0 => ⟨a, rfl, ?_, hL⟩⟩
    have t := World.block_lt_of_cell? W (a.add (0 * 5)) (hL 0 _ (List.getElem?_eq_getElem h0)).2.1.c0
    rwa [addr_block] at t
set_option maxRecDepth 100000 in
theorem open_step {H : Type} {enc : TypeId × Value → H} {w : World} {base b0 : Nat} {held : Bool} {r : Reach} {v : Value} {d : DataW H} {p : List MemPlace}
    (hv : Value.okWide Try.prog w r b0 32 v) (h : DataW.Trod enc Try.prog w base (fun _ => true) held 32 v d p) : ∃ y : Sy, v = .agg #[.int .i64 y.kind, .int .u64 (U y.at_), .int .i64 y.size, .int .u64 (U y.v), y.lay] ∧ SyWf y := by
  obtain ⟨cs, rfl, hsz⟩ := okWide_struct Try.underlying32 hv
  have c5 : Try.prog.cellsOf 32 = 5 := by kernel_rfl
  obtain ⟨fuel, hf⟩ := h
  obtain ⟨y, hw, e0, e1, e2, e3, e4, hb⟩ := step_of_trod (cs := cs.toList) (by simpa [Value.cells] using hf)
  refine ⟨y, ?_, hw⟩
  congr 1
  apply Array.toList_inj.1
  refine List.ext_getElem? fun j => ?_
  match j with
  | 0 => exact e0
  | 1 => exact e1
  | 2 => exact e2
  | 3 => exact e3
  | 4 => exact e4
  | j + 5 =>
    rw [List.getElem?_eq_none (by simp [hsz, c5]), List.getElem?_eq_none (by show 5 ≤ j + 5; omega)]
end Go.Proofs.Ytnbifbllemcjfaa
