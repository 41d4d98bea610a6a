/-
  The walk of CsrSettles.
-/
import Derived.Test.YtgkajhpmgeofkaaCsrQ
import Derived.Test.YtgkajhpmgeofkaaCsrEq
namespace Go.Proofs.Ytgkajhpmgeofkaa
set_option linter.unusedVariables false
open Go.RowKit
attribute [local irreducible] more
attribute [local go_sem ↓] loadAt_26 storeAt_26 alloc_26 run_alv eq26

set_option maxHeartbeats 4000000 in
theorem CsrSettles_walk (s : Value) (k : Nat) (L : Nat → Int × BitVec 64) (n : Int) (w : World) (h : LaysAt w s k L) : Calls Try.prog 6 #[s, .int .i64 n] w fun e w' => e = .returned (.bool true) ∧ Below w.heap.size w w' := by
  have hleg := hide (legal_held L k)
  have hh : Hid (∀ w' , Below w.heap.size w w' → Calls Try.prog 20 #[s] w' fun e w'' => e = .returned (.agg (C (heldS L k))) ∧ Below w'.heap.size w' w'') := hide fun w' b => held_any s k L w' (h.below b)
  generalize heldS L k = r at *
  have hR : Hid (∀ w, Calls Try.prog 14 #[.agg (C r), .int .i64 n, .int .u64 0, .int .u64 0] w fun e w' => e = .returned (.int .u64 (U (readS r n 0#64 0#64))) ∧ More w w') := hide fun w => by
    have t := Read_any r n 0#64 0#64 w
    rw [show U 0#64 = 0 by kernel_rfl] at t
    exact t
  clear h
  go_enter Try.func6, Try.ntmps6
  go_wp2_with (first
    | (go_at_call 11; refine (awake_any _).mono ?_; rintro e w' ⟨rfl, l, rfl⟩)
    | (go_at_call 20; refine (hh.out _ (below_more _ _)).mono ?_; rintro e w1 ⟨rfl, hb1⟩)
    | refine alloc26 rfl rfl ?_
    | (refine store26 rfl _ _ rfl _ rfl _ rfl _ _ (hA rfl) rfl ?_; rw [setRow_new _ _ _ _ _ rfl]))
  have hle : w.heap.size ≤ w1.heap.size := Nat.le_trans (below_more l w).size hb1.size
  have hc : (w1.alloc (.cells (C r) 26)).heap[w1.heap.size]? = some (.cells (C r) 26 (0, 0)) := hA rfl
  have hbel : Below w.heap.size w (w1.alloc (.cells (C r) 26)) := ((below_more l w).trans (hb1.mono (below_more l w).size)).alloc (by have := hb1.size; simp [size_more] at this; omega) _
  have hsz : (w1.alloc (.cells (C r) 26)).heap.size = w1.heap.size + 1 := by simp
  generalize w1.alloc (.cells (C r) 26) = wr at *
  have F1 := ld_at (hD hc)
  have F2 := fun m => ld_at (hM (l := m) (hD hc))
  have F3 := ld_at (hD (hP (o' := .cells (C zeroR) 26) hc))
  have F4 := fun m => ld_at (hM (l := m) (hD (hP (o' := .cells (C zeroR) 26) hc)))
  have F5 := fun m => ld_at (hP (o' := .cells (C zeroR) 26) (hM (l := m) (hD hc)))
  have G1 : ∀ m n d, n = w1.heap.size + 1 → (stv (.pointer (some ⟨n, 0, none⟩)) (.agg (C d))).run Try.prog (more (wr.alloc (.cells (C zeroR) 26)).drew m) = .ok () ((more (wr.alloc (.cells (C zeroR) 26)).drew m).setRow n (C d)) := fun m n d e => st_at d (hM (l := m) (hD (hA (w := wr) (o := (.cells (C zeroR) 26)) (by rw [e, ← hsz]))))
  have G2 : ∀ m m' n d, n = w1.heap.size + 1 + m.length → (stv (.pointer (some ⟨n, 0, none⟩)) (.agg (C d))).run Try.prog (more ((more wr.drew m).alloc (.cells (C zeroR) 26)) m') = .ok () ((more ((more wr.drew m).alloc (.cells (C zeroR) 26)) m').setRow n (C d)) := fun m m' n d e => st_at d (hM (l := m') (hA (w := more wr.drew m) (o := (.cells (C zeroR) 26)) (by rw [e, ← hsz, size_more]; rfl)))
  have G3 : ∀ m n d, n = w1.heap.size + 1 + m.length → (stv (.pointer (some ⟨n, 0, none⟩)) (.agg (C d))).run Try.prog ((more wr.drew m).alloc (.cells (C zeroR) 26)) = .ok () (((more wr.drew m).alloc (.cells (C zeroR) 26)).setRow n (C d)) := fun m n d e => st_at d (hA (w := more wr.drew m) (o := (.cells (C zeroR) 26)) (by rw [e, ← hsz, size_more]; rfl))
  have hlt : w1.heap.size < wr.heap.size := by rw [hsz]; omega
  refine Code.wp_mono (Q := AtEnd fun a w' => ∃ (g : Nat) (x2 x3 x7 x8 x9 x10 x11 x12 x13 x14 x15 x16 x17 x18 x19 x20 x21 x22 x23 x24 x25 x26 x27 x28 : Value), a = ⟨#[s, .int .i64 n, x2, x3, .bool false, .pointer (some ⟨w1.heap.size, 0, none⟩), .pointer (some ⟨g, 0, none⟩), x7, x8, x9, x10, x11, x12, x13, x14, x15, x16, x17, x18, x19, x20, x21, x22, x23, x24, x25, x26, x27, x28], []⟩ ∧ w1.heap.size < g ∧ w'.heap[w1.heap.size]? = some (.cells (C r) 26 (0, 0)) ∧
      w'.heap[g]? = some (.cells (C (writeS r n (readS r n 0#64 0#64))) 26 (0, 0)) ∧ Below w.heap.size w w') ?imp ?reg
  case reg =>
    go_region_with (first
      | (go_at_call 14; refine (hR.out _).mono ?_; rintro e w' ⟨rfl, m, rfl⟩)
      | (go_at_call 18; refine (Write_any r n _ _).mono ?_; rintro e w' ⟨rfl, m, rfl⟩))
    all_goals
      refine ⟨_, _, _, _, _, _, _, _, _, _, _, _, _, _, _, _, _, _, _, _, _, _, _, _, _, rfl, by omega, ?_, ?_, ?_⟩
      · rw [setRow_other _ _ _ _ (by omega)]
        first | exact hP (hM (hD hc)) | exact hM (hP (hM (hD hc))) | exact hM (hD (hP hc))
      · first
        | exact setRow_heap _ _ _ _ _ _ (hA (o := .cells (C zeroR) 26) (by simp [size_more, hsz]))
        | exact setRow_heap _ _ _ _ _ _ (hM (hA (o := .cells (C zeroR) 26) (by simp [size_more, hsz])))
        | exact setRow_heap _ _ _ _ _ _ (hM (hD (hA (o := .cells (C zeroR) 26) (by simp [size_more, hsz]))))
      · refine below_setRow ?_ (by omega) _
        first
        | exact ((hbel.drew.trans ((below_more _ wr.drew).mono hbel.size))).alloc (Nat.le_trans hbel.size (below_more _ wr.drew).size) _
        | exact (((hbel.drew.trans ((below_more _ wr.drew).mono hbel.size))).alloc (Nat.le_trans hbel.size (below_more _ wr.drew).size) _).trans ((below_more _ _).mono (by simp [size_more]; omega))
        | exact ((hbel.alloc hbel.size _).drew).trans ((below_more _ _).mono (by simp; omega))
  case imp =>
    refine atEnd_imp ?_
    rintro a w' ⟨g, x2, x3, x7, x8, x9, x10, x11, x12, x13, x14, x15, x16, x17, x18, x19, x20, x21, x22, x23, x24, x25, x26, x27, x28, rfl, hg, h1, h2, hB⟩
    have cB := cell_at 0 h1
    have cG := cell_at 0 h2
    have fG := frozen_at 0 h2
    rw [C_get_0] at cB cG
    by_cases hn : 1 ≤ n ∧ n ≤ 3
    · obtain ⟨n1, n2⟩ := hn
      have hd := settles_f hleg.out n (by omega)
      have h3 := heap_set0 r.mstatus h2
      rw [hd] at h3
      have h4 : (w'.setCell ⟨g, 0, none⟩ (.int .u64 (U r.mstatus))).heap[w1.heap.size]? = _ := (heap_setCell_other w' ⟨g, 0, none⟩ w1.heap.size (.int .u64 (U r.mstatus)) (show w1.heap.size ≠ g by omega)).trans h1
      go_wp2_with (first | refine load26 rfl _ rfl _ rfl _ _ h3 ?_ | refine load26 rfl _ rfl _ rfl _ _ h4 ?_)
      go_ret
      exact ⟨rfl, hB.setCell (show w.heap.size ≤ g by omega) _⟩
    · have hd := settles hleg.out n (by omega) (by omega) (by omega)
      rw [hd] at h2
      by_cases n1 : 1 ≤ n
      · have n2 : ¬ n ≤ 3 := fun h => hn ⟨n1, h⟩
        go_wp2_with (first | refine load26 rfl _ rfl _ rfl _ _ h2 ?_ | refine load26 rfl _ rfl _ rfl _ _ h1 ?_)
        go_ret
        exact ⟨rfl, hB⟩
      · go_wp2_with (first | refine load26 rfl _ rfl _ rfl _ _ h2 ?_ | refine load26 rfl _ rfl _ rfl _ _ h1 ?_)
        go_ret
        exact ⟨rfl, hB⟩
end Go.Proofs.Ytgkajhpmgeofkaa
