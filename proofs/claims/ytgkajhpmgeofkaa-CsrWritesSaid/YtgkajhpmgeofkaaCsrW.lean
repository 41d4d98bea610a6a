/-
  The walk of CsrWrites.
-/
import Derived.Test.YtgkajhpmgeofkaaCsrR
import Derived.Test.YtgkajhpmgeofkaaCsrL
import Derived.Test.YtgkajhpmgeofkaaCsrQ
import Derived.Test.YtgkajhpmgeofkaaCsrEq
import Derived.Test.YtgkajhpmgeofkaaWf
namespace Go.Proofs.Ytgkajhpmgeofkaa
set_option linter.unusedVariables false
open Go.RowKit
theorem Held.runV {r : Regs} {W w : World} (h : Held r W w) : Held r W w ∧ (ldv (.pointer (some ⟨W.heap.size, 0, none⟩))).run Try.prog w = .ok (.agg (C r)) w := ⟨h, ld_at h.2⟩
attribute [local irreducible] more
attribute [local go_sem ↓] loadAt_26 eq26

set_option maxHeartbeats 2000000 in
theorem CsrWrites_walk (r : Regs) (n : Int) (v : BitVec 64) (w : World) : Calls Try.prog 5 #[.agg (C r), .int .i64 n, .int .u64 (U v)] w fun e w' => e = .returned (.bool true) ∧ Below w.heap.size w w' := by
  have hW : Hid (∀ w, Calls Try.prog 18 #[.agg (C r), .int .i64 n, .int .u64 (U v)] w fun e w' => e = .returned (.agg (C (writeS r n v))) ∧ More w w') := hide (Write_any r n v)
  have hV : Hid (∀ w, Calls Try.prog 19 #[.agg (C r), .int .i64 n, .int .u64 (U v)] w fun e w' => e = .returned (.agg (C (writeS r n v))) ∧ More w w') := hide (RWrite_any r n v)
  generalize writeS r n v = d at *
  go_enter Try.func5, Try.ntmps5
  go_wp2_with fail
  go_region_held3 (fun w' => Held r w w' ∧ (ldv (.pointer (some ⟨w.heap.size, 0, none⟩))).run Try.prog w' = .ok (.agg (C r)) w')
    (first | exact (held_start r w).runV | exact (Held.more (And.left (by assumption)) hm).runV)
    (first
    | (go_at_call 11; refine (awake_any _).mono ?_; rintro e w' ⟨rfl, hm⟩)
    | (go_at_call 16; refine (Reset_any _).mono ?_; rintro e w' ⟨rfl, hm⟩)
    | (go_at_call 17; refine (RReset_any _).mono ?_; rintro e w' ⟨rfl, hm⟩)
    | (go_at_call 18; refine (hW.out _).mono ?_; rintro e w' ⟨rfl, hm⟩)
    | (go_at_call 19; refine (hV.out _).mono ?_; rintro e w' ⟨rfl, hm⟩))
  all_goals
    go_wp2
    go_ret
    exact ⟨rfl, (And.left (a := Held r w _) (by assumption)).1⟩
theorem CsrWrites_walk' (r : Regs) (n v : Int) (hv : (Lit.int .u64 v).wf = true) (w : World) : Calls Try.prog 5 #[.agg (C r), .int .i64 n, .int .u64 v] w fun e w' => e = .returned (.bool true) ∧ Below w.heap.size w w' := by
  rw [U_of_wf hv]
  exact CsrWrites_walk r n _ w
end Go.Proofs.Ytgkajhpmgeofkaa
