/-
  The laws that ask of one set of registers: CsrMay.
-/
import Derived.Test.YtgkajhpmgeofkaaCsrJ
import Derived.Test.YtgkajhpmgeofkaaCsrK
import Derived.Deep.RegionHeld3
namespace Go.Proofs.Ytgkajhpmgeofkaa
set_option linter.unusedVariables false
open Go.RowKit

/-- A load of whole registers, as one step of a region that draws. -/
def ld26 (v : Value) : Sem Next := do pure (.value (← Instr.loadAt 26 v))
theorem execOp_ld26 (ρ : Operand → Value) (dst : Option Tmp) (x : Operand) (ty : TypeId) (pos : String) (after : Array Edge) (guard : Option (Nat × Bool)) :
    execOp ρ { dst, op := .load 26 x, type := ty, pos, after, guard } = ld26 (ρ x) := rfl
theorem run_ld26 (w : World) (b : Nat) (r : Regs) (h : w.heap[b]? = some (.cells (C r) 26 (0, 0))) :
    (ld26 (.pointer (some ⟨b, 0, none⟩))).run Try.prog w = .ok (.value (.agg (C r))) w := by
  unfold ld26
  simp only [Instr.loadAt, Instr.sureAddr, Sem.run_bind, Sem.run_pure, Result.andThen_ok, run_loadVar_row w b _ _ (C r) (0, 0) _ h Try.underlying26 rfl size26]

/-- The registers lie in block W.heap.size; nothing older than that was written. -/
def Held (r : Regs) (W w : World) : Prop :=
  Below W.heap.size W w ∧ w.heap[W.heap.size]? = some (.cells (C r) 26 (0, 0))
theorem Held.run {r : Regs} {W w : World} (h : Held r W w) : Held r W w ∧ (ld26 (.pointer (some ⟨W.heap.size, 0, none⟩))).run Try.prog w = .ok (.value (.agg (C r))) w :=
  ⟨h, run_ld26 w _ r h.2⟩
theorem Held.more {r : Regs} {W w w' : World} (h : Held r W w) (m : More w w') : Held r W w' := by
  have hs : W.heap.size < w.heap.size := (Array.getElem?_eq_some_iff.1 h.2).1
  have hb := m.below.mono (Nat.le_of_lt hs)
  obtain ⟨l, rfl⟩ := m
  exact ⟨h.1.trans hb, by rw [heap_more _ _ _ hs]; exact h.2⟩
theorem held_start (r : Regs) (w : World) : Held r w (w.alloc (.cells (C r) 26)).drew :=
  ⟨((Below.refl _ _).alloc (Nat.le_refl _) _).drew, heap_alloc_new _ _⟩
attribute [local go_sem ↓] execOp_ld26

set_option maxHeartbeats 2000000 in
theorem CsrMay_walk (r : Regs) (m n : Int) (b : Bool) (w : World) : Calls Try.prog 3 #[.agg (C r), .int .i64 m, .int .i64 n, .bool b] w fun e w' => e = .returned (.bool true) ∧ Below w.heap.size w w' := by
  have hR : Hid (∀ w, Calls Try.prog 13 #[.agg (C r), .int .i64 m, .int .i64 n, .bool b] w fun e w' => e = .returned (.bool (mayS r m n b)) ∧ More w w') :=
    hide fun w => by rw [← may_same]; exact RMay_any r m n b w
  go_enter Try.func3, Try.ntmps3
  go_wp2_with fail
  go_region_held3 (fun w' => Held r w w' ∧ (ld26 (.pointer (some ⟨w.heap.size, 0, none⟩))).run Try.prog w' = .ok (.value (.agg (C r))) w')
    (first | exact (held_start r w).run | exact (Held.more (And.left (by assumption)) hm).run)
    (first
    | (go_at_call 11; refine (awake_any _).mono ?_; rintro e w' ⟨rfl, hm⟩)
    | (go_at_call 12; refine (May_any r m n b _).mono ?_; rintro e w' ⟨rfl, hm⟩)
    | (go_at_call 13; refine (hR.out _).mono ?_; rintro e w' ⟨rfl, hm⟩))
  go_wp2
  go_ret
  exact ⟨rfl, (And.left (a := Held r w _) (by assumption)).1⟩
end Go.Proofs.Ytgkajhpmgeofkaa
