/-
  The walk of CsrOne.
-/
import Derived.Test.YtgkajhpmgeofkaaCsrQ
import Derived.Test.YtgkajhpmgeofkaaCsrEq
import Derived.Test.YtgkajhpmgeofkaaWf
import Derived.Deep.RegionHeld3
namespace Go.Proofs.Ytgkajhpmgeofkaa
set_option linter.unusedVariables false
open Go.RowKit

theorem share_any (n : Int) (w : World) : Calls Try.prog 21 #[.int .i64 n] w fun e w' => e = .returned (.int .i64 (shareS n)) ∧ w = w' := by
  by_cases h1 : n = 256
  · subst h1
    go_enter Try.func21, Try.ntmps21
    go_wp2
    go_ret
    exact ⟨rfl, rfl⟩
  by_cases h2 : n = 260
  · subst h2
    go_enter Try.func21, Try.ntmps21
    go_wp2
    go_ret
    exact ⟨rfl, rfl⟩
  by_cases h3 : n = 324
  · subst h3
    go_enter Try.func21, Try.ntmps21
    go_wp2
    go_ret
    exact ⟨rfl, rfl⟩
  by_cases h4 : n = 2
  · subst h4
    go_enter Try.func21, Try.ntmps21
    go_wp2
    go_ret
    exact ⟨rfl, rfl⟩
  by_cases h5 : n = 3
  · subst h5
    go_enter Try.func21, Try.ntmps21
    go_wp2
    go_ret
    exact ⟨rfl, rfl⟩
  by_cases h6 : n = 3072
  · subst h6
    go_enter Try.func21, Try.ntmps21
    go_wp2
    go_ret
    exact ⟨rfl, rfl⟩
  by_cases h7 : n = 3074
  · subst h7
    go_enter Try.func21, Try.ntmps21
    go_wp2
    go_ret
    exact ⟨rfl, rfl⟩
  have e : shareS n = n := by simp [shareS, h1, h2, h3, h4, h5, h6, h7]
  rw [e]
  go_enter Try.func21, Try.ntmps21
  go_wp2
  go_ret
  exact ⟨rfl, rfl⟩

/-- Two sets of registers, in blocks of their own. -/
def Two (b g : Nat) (r d : Regs) (W w : World) : Prop :=
  Below W.heap.size W w ∧ w.heap[b]? = some (.cells (C r) 26 (0, 0)) ∧ w.heap[g]? = some (.cells (C d) 26 (0, 0))
theorem Two.run {b g : Nat} {r d : Regs} {W w : World} (h : Two b g r d W w) : Two b g r d W w ∧ (ldv (.pointer (some ⟨b, 0, none⟩))).run Try.prog w = .ok (.agg (C r)) w ∧ (ldv (.pointer (some ⟨g, 0, none⟩))).run Try.prog w = .ok (.agg (C d)) w :=
  ⟨h, ld_at h.2.1, ld_at h.2.2⟩
theorem Two.more {b g : Nat} {r d : Regs} {W w w' : World} (h : Two b g r d W w) (m : More w w') : Two b g r d W w' := by
  obtain ⟨l, rfl⟩ := m
  exact ⟨h.1.trans ((below_more l w).mono h.1.size), hM h.2.1, hM h.2.2⟩
theorem Two.drew {b g : Nat} {r d : Regs} {W w : World} (h : Two b g r d W w) : Two b g r d W w.drew := ⟨h.1.drew, hD h.2.1, hD h.2.2⟩

attribute [local irreducible] more
attribute [local go_sem ↓] loadAt_26
set_option maxRecDepth 100000 in
set_option maxHeartbeats 4000000 in
theorem CsrOne_walk (s : Value) (k : Nat) (L : Nat → Int × BitVec 64) (n o : Int) (v : BitVec 64) (w : World) (h : LaysAt w s k L) : Calls Try.prog 10 #[s, .int .i64 n, .int .i64 o, .int .u64 (U v)] w fun e w' => e = .returned (.bool true) ∧ Below w.heap.size w w' := by
  have hh : Hid (∀ w' , Below w.heap.size w w' → Calls Try.prog 20 #[s] w' fun e w'' => e = .returned (.agg (C (heldS L k))) ∧ Below w'.heap.size w' w'') := hide fun w' b => held_any s k L w' (h.below b)
  generalize heldS L k = r at *
  have hR : Hid (∀ q w, Calls Try.prog 14 #[.agg (C q), .int .i64 o, .int .u64 0, .int .u64 5] w fun e w' => e = .returned (.int .u64 (U (readS q o 0#64 5#64))) ∧ More w w') := hide fun q w => by
    have t := Read_any q o 0#64 5#64 w
    rw [show U 0#64 = 0 by kernel_rfl, show U 5#64 = 5 by kernel_rfl] at t
    exact t
  clear h
  go_enter Try.func10, Try.ntmps10
  go_wp2_with fail
  go_at_call 11
  refine (awake_any _).mono ?_
  rintro e w' ⟨rfl, l, rfl⟩
  go_wp2_with fail
  rename_i K2 h2 K1 h1 K0 h0
  have hK : ∀ (a : Act) (w' : World), (w' = more w l ∧ apartS n o ∧ ∃ x4 x5 x6 x7 x8 x9 x10 x11 x12 x13 x14 x15 x16 x17 x18 x19 x20 x21 x22 x23 x24 x25 x26 x27 x28 x29 x30 x31 x32 x33 x34 x35 x36 x37 x38 x39 x40 x41 x42 x43 x44 x45 x46 x47 x48 x49 x50 x51 x52 x53 x54 x55 x56 x57 x58 x59 x60 x61 x62 x63 x64 x65 x66 x67 x68 x69 x70 x71 x72 x73 : Value, a = ⟨#[s, .int .i64 n, .int .i64 o, .int .u64 (U v), x4, x5, x6, x7, x8, x9, x10, x11, x12, x13, x14, x15, x16, x17, x18, x19, x20, x21, x22, x23, x24, x25, x26, x27, x28, x29, x30, x31, x32, x33, x34, x35, x36, x37, x38, x39, x40, x41, x42, x43, x44, x45, x46, x47, x48, x49, x50, x51, x52, x53, x54, x55, x56, x57, x58, x59, x60, x61, x62, x63, x64, x65, x66, x67, x68, x69, x70, x71, x72, x73], []⟩) → K2 a w' := by
    clear h0 h1 K0 K1
    rintro a w' ⟨rfl, ha, x4, x5, x6, x7, x8, x9, x10, x11, x12, x13, x14, x15, x16, x17, x18, x19, x20, x21, x22, x23, x24, x25, x26, x27, x28, x29, x30, x31, x32, x33, x34, x35, x36, x37, x38, x39, x40, x41, x42, x43, x44, x45, x46, x47, x48, x49, x50, x51, x52, x53, x54, x55, x56, x57, x58, x59, x60, x61, x62, x63, x64, x65, x66, x67, x68, x69, x70, x71, x72, x73, rfl⟩
    have he2 := one_other r n o v 0#64 5#64 ha
    refine h2 _ _ ?_
    clear h2 K2
    go_wp2_with fail
    go_at_call 20
    refine (hh.out _ (below_more _ _)).mono ?_
    rintro e w1 ⟨rfl, hb1⟩
    have hle : w.heap.size ≤ w1.heap.size := Nat.le_trans (below_more l w).size hb1.size
    have hB0 : Below w.heap.size w w1 := (below_more l w).trans (hb1.mono (below_more l w).size)
    clear hb1
    go_wp2_with (first
      | (go_at_call 18; refine (Write_any r n v _).mono ?_; rintro e w' ⟨rfl, m, rfl⟩)
      | refine alloc26 rfl rfl ?_
      | (refine load26 rfl _ rfl _ rfl _ _ (hA rfl) ?_)
      | (refine store26 rfl _ _ rfl _ rfl _ rfl _ _ (hA (by simp [size_more])) rfl ?_; rw [setRow_new _ _ _ _ _ (by simp [size_more])]))
    have ht : Two w1.heap.size (w1.heap.size + 1 + m.length) r (writeS r n v) w ((more (w1.alloc (.cells (C r) 26)) m).alloc (.cells (C (writeS r n v)) 26)) :=
      ⟨((hB0.alloc hle _).trans ((below_more _ _).mono (by simp; omega))).alloc (by simp [size_more]; omega) _, hP (hM (hA rfl)), hA (by simp [size_more])⟩
    clear hh hB0
    generalize (more (w1.alloc (.cells (C r) 26)) m).alloc (.cells (C (writeS r n v)) 26) = wr at *
    generalize writeS r n v = d at *
    go_region_held3 (fun w' => Two w1.heap.size (w1.heap.size + 1 + m.length) r d w w' ∧ (ldv (.pointer (some ⟨w1.heap.size, 0, none⟩))).run Try.prog w' = .ok (.agg (C r)) w' ∧ (ldv (.pointer (some ⟨w1.heap.size + 1 + m.length, 0, none⟩))).run Try.prog w' = .ok (.agg (C d)) w')
      (first | exact (Two.drew ht).run | exact (Two.more (And.left (by assumption)) hm).run)
      (first
      | (go_at_call 14; refine (hR.out _ _).mono ?_; rintro e w' ⟨rfl, hm⟩))
    all_goals
      go_wp2
      go_ret
      exact ⟨rfl, (And.left (a := Two w1.heap.size (w1.heap.size + 1 + m.length) r d w _) (by assumption)).1⟩
  have HK := hide hK
  clear hK h2
  go_wp2_with (go_at_call 21; refine (share_any _ _).mono ?_; rintro e w' ⟨rfl, rfl⟩)
  all_goals first
    | (go_ret; exact ⟨rfl, below_more _ _⟩)
    | (have g : n = 771 := by assumption
       subst g
       simp only [beq_eq_false_iff_ne, ne_eq] at *
       refine HK.out _ _ ⟨rfl, ?_, _, _, _, _, _, _, _, _, _, _, _, _, _, _, _, _, _, _, _, _, _, _, _, _, _, _, _, _, _, _, _, _, _, _, _, _, _, _, _, _, _, _, _, _, _, _, _, _, _, _, _, _, _, _, _, _, _, _, _, _, _, _, _, _, _, _, _, _, _, _, rfl⟩
       unfold apartS
       omega)
    | (refine HK.out _ _ ⟨rfl, ?_, _, _, _, _, _, _, _, _, _, _, _, _, _, _, _, _, _, _, _, _, _, _, _, _, _, _, _, _, _, _, _, _, _, _, _, _, _, _, _, _, _, _, _, _, _, _, _, _, _, _, _, _, _, _, _, _, _, _, _, _, _, _, _, _, _, _, _, _, _, _, rfl⟩
       unfold apartS
       omega)
theorem CsrOne_walk' (s : Value) (k : Nat) (L : Nat → Int × BitVec 64) (n o v : Int) (hv : (Lit.int .u64 v).wf = true) (w : World) (h : LaysAt w s k L) : Calls Try.prog 10 #[s, .int .i64 n, .int .i64 o, .int .u64 v] w fun e w' => e = .returned (.bool true) ∧ Below w.heap.size w w' := by
  rw [U_of_wf hv]
  exact CsrOne_walk s k L n o _ w h
end Go.Proofs.Ytgkajhpmgeofkaa
