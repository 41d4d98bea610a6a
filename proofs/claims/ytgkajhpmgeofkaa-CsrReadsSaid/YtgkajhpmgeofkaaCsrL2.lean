/-
  The laws that ask of one set of registers: CsrReads.
-/
import Derived.Test.YtgkajhpmgeofkaaCsrL
import Derived.Test.YtgkajhpmgeofkaaWf
namespace Go.Proofs.Ytgkajhpmgeofkaa
set_option linter.unusedVariables false
open Go.RowKit
attribute [local go_sem ↓] execOp_ld26

set_option maxHeartbeats 2000000 in
theorem CsrReads_walk (r : Regs) (n : Int) (l t : BitVec 64) (w : World) : Calls Try.prog 4 #[.agg (C r), .int .i64 n, .int .u64 (U l), .int .u64 (U t)] w fun e w' => e = .returned (.bool true) ∧ Below w.heap.size w w' := by
  go_enter Try.func4, Try.ntmps4
  go_wp2_with fail
  go_region_held3 (fun w' => Held r w w' ∧ (ld26 (.pointer (some ⟨w.heap.size, 0, none⟩))).run Try.prog w' = .ok (.value (.agg (C r))) w')
    (first | exact (held_start r w).run | exact (Held.more (And.left (by assumption)) hm).run)
    (first
    | (go_at_call 11; refine (awake_any _).mono ?_; rintro e w' ⟨rfl, hm⟩)
    | (go_at_call 14; refine (Read_any r n l t _).mono ?_; rintro e w' ⟨rfl, hm⟩)
    | (go_at_call 15; refine (RRead_any r n l t _).mono ?_; rintro e w' ⟨rfl, hm⟩))
  go_wp2
  go_ret
  exact ⟨rfl, (And.left (a := Held r w _) (by assumption)).1⟩
theorem CsrReads_walk' (r : Regs) (n l t : Int) (hl : (Lit.int .u64 l).wf = true) (ht : (Lit.int .u64 t).wf = true) (w : World) : Calls Try.prog 4 #[.agg (C r), .int .i64 n, .int .u64 l, .int .u64 t] w fun e w' => e = .returned (.bool true) ∧ Below w.heap.size w w' := by
  rw [U_of_wf hl, U_of_wf ht]
  exact CsrReads_walk r n _ _ w
end Go.Proofs.Ytgkajhpmgeofkaa
