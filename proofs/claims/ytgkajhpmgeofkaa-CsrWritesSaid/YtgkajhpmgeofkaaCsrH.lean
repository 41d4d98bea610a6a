/-
  The walks of csr.Reset, of the reference's Reset and of awake.
-/
import Derived.Test.YtgkajhpmgeofkaaCsrG
import Derived.Test.YtgkajhpmgeofkaaCsrC
namespace Go.Proofs.Ytgkajhpmgeofkaa
set_option linter.unusedVariables false
open Go.RowKit

def resetR : Regs := { zeroR with mstatus := 42949672960#64 }
theorem built26 : Try.prog.built 26 [(0, .int .u64 42949672960)] = some (C resetR) := by kernel_rfl
section
variable {ops : Array Oper} {rest : List Oper} {o : Oper} {a : Act} {w : World} {Q : Exit → Act → World → Prop}
theorem build26 (hw : Region.wanted o (yielded ops a.tmps) = true) (ho : o.op = .build 26 #[(0, .const (.int .u64 42949672960))])
    (h : wpList Try.prog ops Q rest (a.put o.dst (.agg (C resetR))) w) : wpList Try.prog ops Q (o :: rest) a w :=
  BigFrame.wpList_want hw fun _ hK => by
    have e1 := built26
    refine wp_build _ _ ho ?_ ?_
    · simp [BigFrame.eval_const, e1]
    · simp only [List.map_toArray, List.map_cons, List.map_nil, BigFrame.eval_const, e1, Option.getD_some]
      exact hK _ _ h
end
theorem heap_a1 (w : World) (a : Obj) : (w.alloc a).heap[w.heap.size]? = some a := heap_alloc_new _ _

theorem Reset_any (w : World) : Calls Try.prog 16 #[] w fun e w' => e = .returned (.agg (C resetR)) ∧ More w w' := by
  go_enter Try.func16, Try.ntmps16
  go_wp2_with (first | refine alloc26 rfl rfl ?_ | refine build26 rfl rfl ?_ | (refine store26 rfl _ _ rfl _ rfl _ rfl _ _ (heap_alloc_new _ _) rfl ?_; rw [setRow_new _ _ _ _ _ rfl]))
  (try simp only [Exit.inBlock, Exit.then])
  exact ret26 rfl _ rfl _ _ (heap_alloc_new _ _) rfl ⟨rfl, (More.refl _).alloc _⟩
theorem RReset_any (w : World) : Calls Try.prog 17 #[] w fun e w' => e = .returned (.agg (C resetR)) ∧ More w w' := by
  go_enter Try.func17, Try.ntmps17
  go_wp2_with (first | refine alloc26 rfl rfl ?_ | refine build26 rfl rfl ?_ | (refine store26 rfl _ _ rfl _ rfl _ rfl _ _ (heap_alloc_new _ _) rfl ?_; rw [setRow_new _ _ _ _ _ rfl]))
  (try simp only [Exit.inBlock, Exit.then])
  exact ret26 rfl _ rfl _ _ (heap_alloc_new _ _) rfl ⟨rfl, (More.refl _).alloc _⟩
end Go.Proofs.Ytgkajhpmgeofkaa
