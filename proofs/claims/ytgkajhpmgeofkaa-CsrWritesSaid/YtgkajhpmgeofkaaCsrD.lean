/-
  Whole registers out of and into a block; the arrays within them: the walk's arms.
-/
import Derived.Test.YtgkajhpmgeofkaaCsrA
import Derived.BigFrame
namespace Go.Proofs.Ytgkajhpmgeofkaa
set_option linter.unusedVariables false
open Go.RowKit

theorem size26 : (Try.prog.info? 26).map (·.size) = some 38 := by kernel_rfl
theorem size23 : (Try.prog.info? 23).map (·.size) = some 8 := by kernel_rfl
theorem size24 : (Try.prog.info? 24).map (·.size) = some 8 := by kernel_rfl

section
variable {ops : Array Oper} {rest : List Oper} {o : Oper} {a : Act} {w : World} {Q : Exit → Act → World → Prop}

theorem load26 (hw : Region.wanted o (yielded ops a.tmps) = true) (x : Operand) (ho : o.op = .load 26 x)
    (g : Nat) (hx : a.eval x = .pointer (some ⟨g, 0, none⟩)) (r : Regs) (t : TypeId) (hg : w.heap[g]? = some (.cells (C r) t (0, 0)))
    (h : wpList Try.prog ops Q rest (a.put o.dst (.agg (C r))) w) : wpList Try.prog ops Q (o :: rest) a w :=
  BigFrame.wpList_want hw fun _ hK => wp_load_row _ x ho g hx t (C r) (0, 0) _ hg Try.underlying26 rfl size26 (hK _ _ h)

theorem store26 (hw : Region.wanted o (yielded ops a.tmps) = true) (x y : Operand) (ho : o.op = .store 26 x y)
    (g : Nat) (hx : a.eval x = .pointer (some ⟨g, 0, none⟩)) (r : Regs) (hy : a.eval y = .agg (C r)) (t : TypeId) (old : Array Value) (hg : w.heap[g]? = some (.cells old t (0, 0))) (hs : old.size = 38)
    (h : wpList Try.prog ops Q rest (a.put o.dst undef) (w.setRow g (C r))) : wpList Try.prog ops Q (o :: rest) a w :=
  BigFrame.wpList_want hw fun _ hK => wp_store_row _ x y ho g (C r) hx hy t old hg size26 hs (C_one r) (hK _ _ h)
end

/-- The eight addresses into the registers' block, the eight settings. -/
theorem set_A8 (w : World) (r s : Regs) (t : TypeId) (n : Nat) (h : n = w.heap.size) : (w.alloc (.cells (C r) t)).setCells n 30 (A8 s).toList = w.alloc (.cells (C (withA r s)) t) := by
  subst h
  have e : (A8 s).toList = [.int .u64 (U s.a0), .int .u64 (U s.a1), .int .u64 (U s.a2), .int .u64 (U s.a3), .int .u64 (U s.a4), .int .u64 (U s.a5), .int .u64 (U s.a6), .int .u64 (U s.a7)] := rfl
  rw [e]
  simp only [World.setCells, World.setCell_alloc_new, Nat.reduceAdd, C_set_30, C_set_31, C_set_32, C_set_33, C_set_34, C_set_35, C_set_36, C_set_37, withA]
theorem set_G (w : World) (r s : Regs) (t : TypeId) (n : Nat) (h : n = w.heap.size) : (w.alloc (.cells (C r) t)).setCells n 22 (G s).toList = w.alloc (.cells (C (withG r s)) t) := by
  subst h
  have e : (G s).toList = [.int .u8 (U1 s.c0), .int .u8 (U1 s.c1), .int .u8 (U1 s.c2), .int .u8 (U1 s.c3), .int .u8 (U1 s.c4), .int .u8 (U1 s.c5), .int .u8 (U1 s.c6), .int .u8 (U1 s.c7)] := rfl
  rw [e]
  simp only [World.setCells, World.setCell_alloc_new, Nat.reduceAdd, C_set_22, C_set_23, C_set_24, C_set_25, C_set_26, C_set_27, C_set_28, C_set_29, withG]
theorem there_new (w : World) (r : Regs) (t : TypeId) (k n : Nat) (hk : k + n ≤ 38) : (w.alloc (.cells (C r) t)).there w.heap.size k n := fun j hj => by
  refine ⟨?_, World.frozen?_alloc_new _ _ _ _⟩
  rw [World.cell?_alloc_new, Array.getElem?_eq_getElem (by rw [C_size]; omega)]
  rfl
end Go.Proofs.Ytgkajhpmgeofkaa
