/-
  The argument of IssueUnits; its walk.
-/
import Derived.Test.YtaeggnnijafooaaIssueX
import Derived.Test.YtaeggnnijafooaaWf
import Derived.WideShapes
import Derived.ChangeArms
import Derived.Deep.Grids
import Derived.Deep.RegionHeld3
namespace Go.Proofs.Ytaeggnnijafooaa
set_option linter.unusedVariables false
open Go.RowKit Go.WideShapes

theorem of_take {cs : List Value} {o : Nat} {v : Value} (h : (cs.drop o).take 1 = [v]) : cs[o]? = some v := by
  have := congrArg (·[0]?) h
  simpa using this
section
variable {H : Type} {enc : TypeId × Value → H} {w : World} {base : Nat} {spare : Nat → Bool} {held : Bool} {fuel : Nat} {cs : List Value} {x : DataW H × List MemPlace}
theorem fldI {o : Nat} {t : TypeId} (ht : Try.prog.underlying t = some (.int .i64)) (h : DataW.trod enc Try.prog w base spare held fuel t ((cs.drop o).take 1) = some x) : ∃ v : Int, cs[o]? = some (.int .i64 v) := by
  obtain ⟨n, h1, _, h2⟩ := DataW.trod_int ht h
  exact ⟨n, of_take h1⟩
theorem fldB {o : Nat} {t : TypeId} (ht : Try.prog.underlying t = some .bool) (h : DataW.trod enc Try.prog w base spare held fuel t ((cs.drop o).take 1) = some x) : ∃ v : Bool, cs[o]? = some (.bool v) := by
  obtain ⟨n, h1, _⟩ := DataW.trod_bool ht h
  exact ⟨n, of_take h1⟩
set_option maxRecDepth 100000 in
theorem ix_of_trod (h : DataW.trod enc Try.prog w base spare held fuel 42 cs = some x) (hs : cs.length = 12) : ∃ y : Ix, Value.agg cs.toArray = ixV y := by
  obtain ⟨xs, n, _, _, _, hl, hf⟩ := DataW.trod_struct Try.underlying42 h
  have c3 : Try.prog.cellsOf 3 = 1 := by kernel_rfl
  have c5 : Try.prog.cellsOf 2 = 1 := by kernel_rfl
  have c4 : Try.prog.cellsOf 4 = 1 := by kernel_rfl
  have hl : xs.length = 12 := hl
  have some_of : ∀ i, i < 12 → ∃ y, xs[i]? = some y := fun i hi => ⟨_, List.getElem?_eq_getElem (by omega)⟩
  obtain ⟨f0, e0⟩ : ∃ v : Int, cs[0]? = some (.int .i64 v) := by
    obtain ⟨y, hy⟩ := some_of 0 (by decide)
    have := hf 0 _ rfl
    rw [hy] at this
    exact fldI (o := 0) Try.underlying3 this
  obtain ⟨f1, e1⟩ : ∃ v : Int, cs[1]? = some (.int .i64 v) := by
    obtain ⟨y, hy⟩ := some_of 1 (by decide)
    have := hf 1 _ rfl
    rw [hy] at this
    exact fldI (o := 1) Try.underlying3 this
  obtain ⟨f2, e2⟩ : ∃ v : Int, cs[2]? = some (.int .i64 v) := by
    obtain ⟨y, hy⟩ := some_of 2 (by decide)
    have := hf 2 _ rfl
    rw [hy] at this
    exact fldI (o := 2) Try.underlying3 this
  obtain ⟨f3, e3⟩ : ∃ v : Int, cs[3]? = some (.int .i64 v) := by
    obtain ⟨y, hy⟩ := some_of 3 (by decide)
    have := hf 3 _ rfl
    rw [hy] at this
    exact fldI (o := 3) Try.underlying3 this
  obtain ⟨f4, e4⟩ : ∃ v : Int, cs[4]? = some (.int .i64 v) := by
    obtain ⟨y, hy⟩ := some_of 4 (by decide)
    have := hf 4 _ rfl
    rw [hy] at this
    exact fldI (o := 4) Try.underlying3 this
  obtain ⟨f5, e5⟩ : ∃ v : Int, cs[5]? = some (.int .i64 v) := by
    obtain ⟨y, hy⟩ := some_of 5 (by decide)
    have := hf 5 _ rfl
    rw [hy] at this
    exact fldI (o := 5) Try.underlying3 this
  obtain ⟨f6, e6⟩ : ∃ v : Int, cs[6]? = some (.int .i64 v) := by
    obtain ⟨y, hy⟩ := some_of 6 (by decide)
    have := hf 6 _ rfl
    rw [hy] at this
    exact fldI (o := 6) Try.underlying3 this
  obtain ⟨f7, e7⟩ : ∃ v : Int, cs[7]? = some (.int .i64 v) := by
    obtain ⟨y, hy⟩ := some_of 7 (by decide)
    have := hf 7 _ rfl
    rw [hy] at this
    exact fldI (o := 7) Try.underlying3 this
  obtain ⟨f8, e8⟩ : ∃ v : Int, cs[8]? = some (.int .i64 v) := by
    obtain ⟨y, hy⟩ := some_of 8 (by decide)
    have := hf 8 _ rfl
    rw [hy] at this
    exact fldI (o := 8) Try.underlying2 this
  obtain ⟨f9, e9⟩ : ∃ v : Bool, cs[9]? = some (.bool v) := by
    obtain ⟨y, hy⟩ := some_of 9 (by decide)
    have := hf 9 _ rfl
    rw [hy] at this
    exact fldB (o := 9) Try.underlying4 this
  obtain ⟨f10, e10⟩ : ∃ v : Bool, cs[10]? = some (.bool v) := by
    obtain ⟨y, hy⟩ := some_of 10 (by decide)
    have := hf 10 _ rfl
    rw [hy] at this
    exact fldB (o := 10) Try.underlying4 this
  obtain ⟨f11, e11⟩ : ∃ v : Bool, cs[11]? = some (.bool v) := by
    obtain ⟨y, hy⟩ := some_of 11 (by decide)
    have := hf 11 _ rfl
    rw [hy] at this
    exact fldB (o := 11) Try.underlying4 this
  have : cs = [.int .i64 f0, .int .i64 f1, .int .i64 f2, .int .i64 f3, .int .i64 f4, .int .i64 f5, .int .i64 f6, .int .i64 f7, .int .i64 f8, .bool f9, .bool f10, .bool f11] := List.ext_getElem? fun j => by
    match j with
    | 0 => exact e0
    | 1 => exact e1
    | 2 => exact e2
    | 3 => exact e3
    | 4 => exact e4
    | 5 => exact e5
    | 6 => exact e6
    | 7 => exact e7
    | 8 => exact e8
    | 9 => exact e9
    | 10 => exact e10
    | 11 => exact e11
    | j + 12 =>
      rw [List.getElem?_eq_none (by omega), List.getElem?_eq_none (by show 12 ≤ j + 12; omega)]
  subst this
  exact ⟨⟨f0, f1, f2, f3, f4, f5, f6, f7, f8, f9, f10, f11⟩, rfl⟩
end
set_option maxRecDepth 100000 in
theorem open_ix {H : Type} {enc : TypeId × Value → H} {w : World} {base b0 : Nat} {spare : Nat → Bool} {held : Bool} {r : Reach} {v : Value} {d : DataW H} {p : List MemPlace}
    (hv : Value.okWide Try.prog w r b0 42 v) (h : DataW.Trod enc Try.prog w base spare held 42 v d p) : ∃ y : Ix, v = ixV y := by
  obtain ⟨cs, rfl, hsz⟩ := okWide_struct Try.underlying42 hv
  have c26 : Try.prog.cellsOf 42 = 12 := by kernel_rfl
  obtain ⟨fuel, hf⟩ := h
  obtain ⟨y, hr⟩ := ix_of_trod (cs := cs.toList) (by simpa [Value.cells] using hf) (by simp [hsz, c26])
  exact ⟨y, by simpa using hr⟩
/-- The instruction's cells. -/
def ixC (x : Ix) : Array Value := #[.int .i64 x.kind, .int .i64 x.rd, .int .i64 x.rs1, .int .i64 x.rs2, .int .i64 x.rs3, .int .i64 x.rm, .int .i64 x.csr, .int .i64 x.size, .int .i64 x.imm, .bool x.useImm, .bool x.unsigned, .bool x.word]
def ldI (v : Value) : Sem Next := do pure (.value (← Instr.loadAt 42 v))
theorem execOp_ldI (ρ : Operand → Value) (dst : Option Tmp) (x : Operand) (ty : TypeId) (pos : String) (after : Array Edge) (guard : Option (Nat × Bool)) :
    execOp ρ { dst, op := .load 42 x, type := ty, pos, after, guard } = ldI (ρ x) := rfl
theorem sizeI : (Try.prog.info? 42).map (·.size) = some 12 := by kernel_rfl
theorem run_ldI (w : World) (b : Nat) (x : Ix) (h : w.heap[b]? = some (.cells (ixC x) 42 (0, 0))) :
    (ldI (.pointer (some ⟨b, 0, none⟩))).run Try.prog w = .ok (.value (ixV x)) w := by
  unfold ldI
  simp only [Instr.loadAt, Instr.sureAddr, Sem.run_bind, Sem.run_pure, Result.andThen_ok, run_loadVar_row w b _ _ (ixC x) (0, 0) _ h Try.underlying42 rfl sizeI]
  rfl
def HasIx (x : Ix) (w w' : World) : Prop := Still w w' ∧ w'.heap[w.heap.size]? = some (.cells (ixC x) 42 (0, 0))
theorem HasIx.run {x : Ix} {w w' : World} (h : HasIx x w w') : HasIx x w w' ∧ (ldI (.pointer (some ⟨w.heap.size, 0, none⟩))).run Try.prog w' = .ok (.value (ixV x)) w' := ⟨h, run_ldI _ _ _ h.2⟩
theorem HasIx.on {x : Ix} {w w' w'' : World} (h : HasIx x w w') (k : Still w' w'') : HasIx x w w'' :=
  ⟨h.1.trans k, (k.block _ (Array.getElem?_eq_some_iff.1 h.2).1 (fun e => e)).trans h.2⟩
theorem hasIx_start (x : Ix) (w : World) : HasIx x w (w.alloc (.cells #[.int .i64 x.kind, .int .i64 x.rd, .int .i64 x.rs1, .int .i64 x.rs2, .int .i64 x.rs3, .int .i64 x.rm, .int .i64 x.csr, .int .i64 x.size, .int .i64 x.imm, .bool x.useImm, .bool x.unsigned, .bool x.word] 42)).drew :=
  ⟨((Kept.refl _ w).alloc _).drew, heap_alloc_new _ _⟩
attribute [local go_sem ↓] execOp_ldI
set_option maxRecDepth 100000 in
set_option maxHeartbeats 4000000 in
theorem Units_walk (W : World) (x : Ix) : Calls Try.prog 4 #[ixV x] W fun e w' => e = .returned (.bool true) ∧ Below W.heap.size W w' := by
  have h1 := Unit_any
  have hv : ixV x = .agg (ixC x) := rfl
  rw [hv]
  unfold ixC
  go_enter Try.func4, Try.ntmps4
  go_wp2_with fail
  go_region_held3 (fun w' => HasIx x W w' ∧ (ldI (.pointer (some ⟨W.heap.size, 0, none⟩))).run Try.prog w' = .ok (.value (ixV x)) w')
    (first | exact (hasIx_start x W).run | exact (HasIx.on (And.left (by assumption)) hm).run)
    (first
    | (go_at_call 8; refine (fixed_any _).mono ?_; rintro e w' ⟨rfl, hm⟩)
    | (go_at_call 22; refine (Unit_any _ x).mono ?_; rintro e w' ⟨rfl, hm⟩)
    | (go_at_call 23; refine (UnitR_any _ x).mono ?_; rintro e w' ⟨rfl, hm⟩)
    | (go_at_call 24; refine (Latency_any _ x).mono ?_; rintro e w' ⟨rfl, hm⟩)
    | (go_at_call 25; refine (LatencyR_any _ x).mono ?_; rintro e w' ⟨rfl, hm⟩))
  go_wp2
  go_ret
  exact ⟨rfl, (And.left (a := HasIx x W _) (by assumption)).1.below (Nat.le_refl _) (fun _ _ e => e)⟩
end Go.Proofs.Ytaeggnnijafooaa
