/-
  Registers compared with themselves: '==' on whole registers.
-/
import Derived.Test.YtgkajhpmgeofkaaCsrD
import Derived.ChangeKeysEq
namespace Go.Proofs.Ytgkajhpmgeofkaa
set_option linter.unusedVariables false
open Go.RowKit
set_option maxRecDepth 100000
theorem cells5 : Try.prog.cellsOf 5 = 1 := by kernel_rfl
theorem cells22 : Try.prog.cellsOf 22 = 1 := by kernel_rfl
theorem range8 : List.range 8 = [0, 1, 2, 3, 4, 5, 6, 7] := rfl
theorem info5 : ∃ i, Try.prog.info? 5 = some i := by
  have h : (Try.prog.info? 5).isSome = true := by kernel_rfl
  exact Option.isSome_iff_exists.1 h
theorem info22 : ∃ i, Try.prog.info? 22 = some i := by
  have h : (Try.prog.info? 22).isSome = true := by kernel_rfl
  exact Option.isSome_iff_exists.1 h
theorem eq23 (r : Regs) (w : World) : (Op.equalIn 9999 23 (.agg (G r)) (.agg (G r))).run Try.prog w = .ok true w := by
  obtain ⟨i, hi⟩ := info5
  rw [run_equalIn_array w 9998 (n := 8) _ _ Try.underlying23 hi, cells5, range8]
  unfold G
  simp only [Op.eqItems]
  go_simp
theorem eq24 (r : Regs) (w : World) : (Op.equalIn 9999 24 (.agg (A8 r)) (.agg (A8 r))).run Try.prog w = .ok true w := by
  obtain ⟨i, hi⟩ := info22
  rw [run_equalIn_array w 9998 (n := 8) _ _ Try.underlying24 hi, cells22, range8]
  unfold A8
  simp only [Op.eqItems]
  go_simp
theorem ext23 (r : Regs) : (C r).extract 22 30 = G r := rfl
theorem ext24 (r : Regs) : (C r).extract 30 38 = A8 r := rfl
theorem eq26 (r : Regs) (w : World) : (Op.equalIn 10000 26 (.agg (C r)) (.agg (C r))).run Try.prog w = .ok true w := by
  go_simp
  simp only [ext23, ext24, eq23, eq24, Result.andThen_ok, Bool.true_eq_false, if_false]
end Go.Proofs.Ytgkajhpmgeofkaa
