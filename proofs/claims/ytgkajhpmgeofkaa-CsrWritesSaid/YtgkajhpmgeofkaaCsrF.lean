/-
  The walks of pmp.way, pmp.Address, pmp.Config, csr.Reset and csr.Write. (Printed by gen_csrf.py.)
-/
import Derived.Test.YtgkajhpmgeofkaaCsrE
namespace Go.Proofs.Ytgkajhpmgeofkaa
set_option linter.unusedVariables false
open Go.RowKit
attribute [go_sem] wrap_i64_U1

theorem way_any (c : BitVec 8) (w : World) : Calls Try.prog 36 #[.int .u8 (U1 c)] w fun e w' => e = .returned (.int .i64 (U1 (c >>> 3 &&& 3#8))) ∧ w = w' := by
  go_enter Try.func36, Try.ntmps36
  go_wp2
  go_ret
  exact ⟨rfl, rfl⟩
theorem below2 (w : World) (a b : Obj) : More w ((w.alloc a).alloc b) := ((More.refl _).alloc _).alloc _
theorem below3 (w : World) (a b c : Obj) : More w (((w.alloc a).alloc b).alloc c) := (below2 w a b).alloc _
theorem u1_nz (x : BitVec 8) (h : x ≠ 0#8) : (U1 x != 0) = true := by
  have e : (U1 x != 0) = (x != 0#8) := U1_bne x 0#8
  rw [e]; simpa using h
theorem u1_z (x : BitVec 8) (h : x = 0#8) : (U1 x != 0) = false := by rw [h]; decide +kernel
theorem u1_eq (x y : BitVec 8) (n : Int) (hn : U1 y = n) (h : x = y) : (U1 x == n) = true := by rw [h, hn]; simp
theorem u1_ne (x y : BitVec 8) (n : Int) (hn : U1 y = n) (h : x ≠ y) : (U1 x == n) = false := by
  rw [beq_eq_false_iff_ne, ← hn]; exact fun e => h (U1_inj.1 e)

set_option maxHeartbeats 1000000 in
theorem Address_0_l (r : Regs) (v : BitVec 64) (h1 : (U1 (r.c0 &&& 128#8) != 0) = true) (w : World) : Calls Try.prog 27 #[.agg (G r), .agg (A8 r), .int .i64 0, .int .u64 (U v)] w fun e w' => e = .returned (.agg (A8 (r))) ∧ More w w' := by
  go_enter Try.func27, Try.ntmps27
  go_wp2_with (go_at_call 36; refine (way_any _ _).mono ?_; rintro e w' ⟨rfl, rfl⟩)
  refine bodyPost_ret (v := .agg (A8 (r))) (by simp [results, Try.results27, go_sem]; rfl) rfl ⟨rfl, below3 _ _ _ _⟩

set_option maxHeartbeats 1000000 in
theorem Address_0_nw (r : Regs) (v : BitVec 64) (h1 : (U1 (r.c0 &&& 128#8) != 0) = false) (h2 : (U1 (r.c1 &&& 128#8) != 0) = true) (h3 : (U1 (r.c1 >>> 3 &&& 3#8) == 1) = true) (w : World) : Calls Try.prog 27 #[.agg (G r), .agg (A8 r), .int .i64 0, .int .u64 (U v)] w fun e w' => e = .returned (.agg (A8 (r))) ∧ More w w' := by
  go_enter Try.func27, Try.ntmps27
  go_wp2_with (go_at_call 36; refine (way_any _ _).mono ?_; rintro e w' ⟨rfl, rfl⟩)
  refine bodyPost_ret (v := .agg (A8 (r))) (by simp [results, Try.results27, go_sem]; rfl) rfl ⟨rfl, below3 _ _ _ _⟩

set_option maxHeartbeats 1000000 in
theorem Address_0_no (r : Regs) (v : BitVec 64) (h1 : (U1 (r.c0 &&& 128#8) != 0) = false) (h2 : (U1 (r.c1 &&& 128#8) != 0) = true) (h3 : (U1 (r.c1 >>> 3 &&& 3#8) == 1) = false) (w : World) : Calls Try.prog 27 #[.agg (G r), .agg (A8 r), .int .i64 0, .int .u64 (U v)] w fun e w' => e = .returned (.agg (A8 ({ r with a0 := v &&& 18014398509481983#64 }))) ∧ More w w' := by
  go_enter Try.func27, Try.ntmps27
  go_wp2_with (go_at_call 36; refine (way_any _ _).mono ?_; rintro e w' ⟨rfl, rfl⟩)
  refine bodyPost_ret (v := .agg (A8 ({ r with a0 := v &&& 18014398509481983#64 }))) (by simp [results, Try.results27, go_sem]; rfl) rfl ⟨rfl, below3 _ _ _ _⟩

set_option maxHeartbeats 1000000 in
theorem Address_0_f (r : Regs) (v : BitVec 64) (h1 : (U1 (r.c0 &&& 128#8) != 0) = false) (h2 : (U1 (r.c1 &&& 128#8) != 0) = false) (w : World) : Calls Try.prog 27 #[.agg (G r), .agg (A8 r), .int .i64 0, .int .u64 (U v)] w fun e w' => e = .returned (.agg (A8 ({ r with a0 := v &&& 18014398509481983#64 }))) ∧ More w w' := by
  go_enter Try.func27, Try.ntmps27
  go_wp2_with (go_at_call 36; refine (way_any _ _).mono ?_; rintro e w' ⟨rfl, rfl⟩)
  refine bodyPost_ret (v := .agg (A8 ({ r with a0 := v &&& 18014398509481983#64 }))) (by simp [results, Try.results27, go_sem]; rfl) rfl ⟨rfl, below3 _ _ _ _⟩

theorem Address_0 (r : Regs) (v : BitVec 64) (w : World) : Calls Try.prog 27 #[.agg (G r), .agg (A8 r), .int .i64 0, .int .u64 (U v)] w fun e w' => e = .returned (.agg (A8 (adrW0 r v))) ∧ More w w' := by
  unfold adrW0 nextLocks
  by_cases h1 : r.c0 &&& 128#8 = 0#8
  · by_cases h2 : r.c1 &&& 128#8 = 0#8
    · rw [if_neg (by simp [h1, h2])]
      exact Address_0_f r v (u1_z _ h1) (u1_z _ h2) w
    · by_cases h3 : r.c1 >>> 3 &&& 3#8 = 1#8
      · rw [if_pos (.inr ⟨h2, h3⟩)]
        exact Address_0_nw r v (u1_z _ h1) (u1_nz _ h2) (u1_eq _ 1#8 1 rfl h3) w
      · rw [if_neg (by simp [h1, h3])]
        exact Address_0_no r v (u1_z _ h1) (u1_nz _ h2) (u1_ne _ 1#8 1 rfl h3) w
  · rw [if_pos (.inl h1)]
    exact Address_0_l r v (u1_nz _ h1) w

set_option maxHeartbeats 1000000 in
theorem Address_1_l (r : Regs) (v : BitVec 64) (h1 : (U1 (r.c1 &&& 128#8) != 0) = true) (w : World) : Calls Try.prog 27 #[.agg (G r), .agg (A8 r), .int .i64 1, .int .u64 (U v)] w fun e w' => e = .returned (.agg (A8 (r))) ∧ More w w' := by
  go_enter Try.func27, Try.ntmps27
  go_wp2_with (go_at_call 36; refine (way_any _ _).mono ?_; rintro e w' ⟨rfl, rfl⟩)
  refine bodyPost_ret (v := .agg (A8 (r))) (by simp [results, Try.results27, go_sem]; rfl) rfl ⟨rfl, below3 _ _ _ _⟩

set_option maxHeartbeats 1000000 in
theorem Address_1_nw (r : Regs) (v : BitVec 64) (h1 : (U1 (r.c1 &&& 128#8) != 0) = false) (h2 : (U1 (r.c2 &&& 128#8) != 0) = true) (h3 : (U1 (r.c2 >>> 3 &&& 3#8) == 1) = true) (w : World) : Calls Try.prog 27 #[.agg (G r), .agg (A8 r), .int .i64 1, .int .u64 (U v)] w fun e w' => e = .returned (.agg (A8 (r))) ∧ More w w' := by
  go_enter Try.func27, Try.ntmps27
  go_wp2_with (go_at_call 36; refine (way_any _ _).mono ?_; rintro e w' ⟨rfl, rfl⟩)
  refine bodyPost_ret (v := .agg (A8 (r))) (by simp [results, Try.results27, go_sem]; rfl) rfl ⟨rfl, below3 _ _ _ _⟩

set_option maxHeartbeats 1000000 in
theorem Address_1_no (r : Regs) (v : BitVec 64) (h1 : (U1 (r.c1 &&& 128#8) != 0) = false) (h2 : (U1 (r.c2 &&& 128#8) != 0) = true) (h3 : (U1 (r.c2 >>> 3 &&& 3#8) == 1) = false) (w : World) : Calls Try.prog 27 #[.agg (G r), .agg (A8 r), .int .i64 1, .int .u64 (U v)] w fun e w' => e = .returned (.agg (A8 ({ r with a1 := v &&& 18014398509481983#64 }))) ∧ More w w' := by
  go_enter Try.func27, Try.ntmps27
  go_wp2_with (go_at_call 36; refine (way_any _ _).mono ?_; rintro e w' ⟨rfl, rfl⟩)
  refine bodyPost_ret (v := .agg (A8 ({ r with a1 := v &&& 18014398509481983#64 }))) (by simp [results, Try.results27, go_sem]; rfl) rfl ⟨rfl, below3 _ _ _ _⟩

set_option maxHeartbeats 1000000 in
theorem Address_1_f (r : Regs) (v : BitVec 64) (h1 : (U1 (r.c1 &&& 128#8) != 0) = false) (h2 : (U1 (r.c2 &&& 128#8) != 0) = false) (w : World) : Calls Try.prog 27 #[.agg (G r), .agg (A8 r), .int .i64 1, .int .u64 (U v)] w fun e w' => e = .returned (.agg (A8 ({ r with a1 := v &&& 18014398509481983#64 }))) ∧ More w w' := by
  go_enter Try.func27, Try.ntmps27
  go_wp2_with (go_at_call 36; refine (way_any _ _).mono ?_; rintro e w' ⟨rfl, rfl⟩)
  refine bodyPost_ret (v := .agg (A8 ({ r with a1 := v &&& 18014398509481983#64 }))) (by simp [results, Try.results27, go_sem]; rfl) rfl ⟨rfl, below3 _ _ _ _⟩

theorem Address_1 (r : Regs) (v : BitVec 64) (w : World) : Calls Try.prog 27 #[.agg (G r), .agg (A8 r), .int .i64 1, .int .u64 (U v)] w fun e w' => e = .returned (.agg (A8 (adrW1 r v))) ∧ More w w' := by
  unfold adrW1 nextLocks
  by_cases h1 : r.c1 &&& 128#8 = 0#8
  · by_cases h2 : r.c2 &&& 128#8 = 0#8
    · rw [if_neg (by simp [h1, h2])]
      exact Address_1_f r v (u1_z _ h1) (u1_z _ h2) w
    · by_cases h3 : r.c2 >>> 3 &&& 3#8 = 1#8
      · rw [if_pos (.inr ⟨h2, h3⟩)]
        exact Address_1_nw r v (u1_z _ h1) (u1_nz _ h2) (u1_eq _ 1#8 1 rfl h3) w
      · rw [if_neg (by simp [h1, h3])]
        exact Address_1_no r v (u1_z _ h1) (u1_nz _ h2) (u1_ne _ 1#8 1 rfl h3) w
  · rw [if_pos (.inl h1)]
    exact Address_1_l r v (u1_nz _ h1) w

set_option maxHeartbeats 1000000 in
theorem Address_2_l (r : Regs) (v : BitVec 64) (h1 : (U1 (r.c2 &&& 128#8) != 0) = true) (w : World) : Calls Try.prog 27 #[.agg (G r), .agg (A8 r), .int .i64 2, .int .u64 (U v)] w fun e w' => e = .returned (.agg (A8 (r))) ∧ More w w' := by
  go_enter Try.func27, Try.ntmps27
  go_wp2_with (go_at_call 36; refine (way_any _ _).mono ?_; rintro e w' ⟨rfl, rfl⟩)
  refine bodyPost_ret (v := .agg (A8 (r))) (by simp [results, Try.results27, go_sem]; rfl) rfl ⟨rfl, below3 _ _ _ _⟩

set_option maxHeartbeats 1000000 in
theorem Address_2_nw (r : Regs) (v : BitVec 64) (h1 : (U1 (r.c2 &&& 128#8) != 0) = false) (h2 : (U1 (r.c3 &&& 128#8) != 0) = true) (h3 : (U1 (r.c3 >>> 3 &&& 3#8) == 1) = true) (w : World) : Calls Try.prog 27 #[.agg (G r), .agg (A8 r), .int .i64 2, .int .u64 (U v)] w fun e w' => e = .returned (.agg (A8 (r))) ∧ More w w' := by
  go_enter Try.func27, Try.ntmps27
  go_wp2_with (go_at_call 36; refine (way_any _ _).mono ?_; rintro e w' ⟨rfl, rfl⟩)
  refine bodyPost_ret (v := .agg (A8 (r))) (by simp [results, Try.results27, go_sem]; rfl) rfl ⟨rfl, below3 _ _ _ _⟩

set_option maxHeartbeats 1000000 in
theorem Address_2_no (r : Regs) (v : BitVec 64) (h1 : (U1 (r.c2 &&& 128#8) != 0) = false) (h2 : (U1 (r.c3 &&& 128#8) != 0) = true) (h3 : (U1 (r.c3 >>> 3 &&& 3#8) == 1) = false) (w : World) : Calls Try.prog 27 #[.agg (G r), .agg (A8 r), .int .i64 2, .int .u64 (U v)] w fun e w' => e = .returned (.agg (A8 ({ r with a2 := v &&& 18014398509481983#64 }))) ∧ More w w' := by
  go_enter Try.func27, Try.ntmps27
  go_wp2_with (go_at_call 36; refine (way_any _ _).mono ?_; rintro e w' ⟨rfl, rfl⟩)
  refine bodyPost_ret (v := .agg (A8 ({ r with a2 := v &&& 18014398509481983#64 }))) (by simp [results, Try.results27, go_sem]; rfl) rfl ⟨rfl, below3 _ _ _ _⟩

set_option maxHeartbeats 1000000 in
theorem Address_2_f (r : Regs) (v : BitVec 64) (h1 : (U1 (r.c2 &&& 128#8) != 0) = false) (h2 : (U1 (r.c3 &&& 128#8) != 0) = false) (w : World) : Calls Try.prog 27 #[.agg (G r), .agg (A8 r), .int .i64 2, .int .u64 (U v)] w fun e w' => e = .returned (.agg (A8 ({ r with a2 := v &&& 18014398509481983#64 }))) ∧ More w w' := by
  go_enter Try.func27, Try.ntmps27
  go_wp2_with (go_at_call 36; refine (way_any _ _).mono ?_; rintro e w' ⟨rfl, rfl⟩)
  refine bodyPost_ret (v := .agg (A8 ({ r with a2 := v &&& 18014398509481983#64 }))) (by simp [results, Try.results27, go_sem]; rfl) rfl ⟨rfl, below3 _ _ _ _⟩

theorem Address_2 (r : Regs) (v : BitVec 64) (w : World) : Calls Try.prog 27 #[.agg (G r), .agg (A8 r), .int .i64 2, .int .u64 (U v)] w fun e w' => e = .returned (.agg (A8 (adrW2 r v))) ∧ More w w' := by
  unfold adrW2 nextLocks
  by_cases h1 : r.c2 &&& 128#8 = 0#8
  · by_cases h2 : r.c3 &&& 128#8 = 0#8
    · rw [if_neg (by simp [h1, h2])]
      exact Address_2_f r v (u1_z _ h1) (u1_z _ h2) w
    · by_cases h3 : r.c3 >>> 3 &&& 3#8 = 1#8
      · rw [if_pos (.inr ⟨h2, h3⟩)]
        exact Address_2_nw r v (u1_z _ h1) (u1_nz _ h2) (u1_eq _ 1#8 1 rfl h3) w
      · rw [if_neg (by simp [h1, h3])]
        exact Address_2_no r v (u1_z _ h1) (u1_nz _ h2) (u1_ne _ 1#8 1 rfl h3) w
  · rw [if_pos (.inl h1)]
    exact Address_2_l r v (u1_nz _ h1) w

set_option maxHeartbeats 1000000 in
theorem Address_3_l (r : Regs) (v : BitVec 64) (h1 : (U1 (r.c3 &&& 128#8) != 0) = true) (w : World) : Calls Try.prog 27 #[.agg (G r), .agg (A8 r), .int .i64 3, .int .u64 (U v)] w fun e w' => e = .returned (.agg (A8 (r))) ∧ More w w' := by
  go_enter Try.func27, Try.ntmps27
  go_wp2_with (go_at_call 36; refine (way_any _ _).mono ?_; rintro e w' ⟨rfl, rfl⟩)
  refine bodyPost_ret (v := .agg (A8 (r))) (by simp [results, Try.results27, go_sem]; rfl) rfl ⟨rfl, below3 _ _ _ _⟩

set_option maxHeartbeats 1000000 in
theorem Address_3_nw (r : Regs) (v : BitVec 64) (h1 : (U1 (r.c3 &&& 128#8) != 0) = false) (h2 : (U1 (r.c4 &&& 128#8) != 0) = true) (h3 : (U1 (r.c4 >>> 3 &&& 3#8) == 1) = true) (w : World) : Calls Try.prog 27 #[.agg (G r), .agg (A8 r), .int .i64 3, .int .u64 (U v)] w fun e w' => e = .returned (.agg (A8 (r))) ∧ More w w' := by
  go_enter Try.func27, Try.ntmps27
  go_wp2_with (go_at_call 36; refine (way_any _ _).mono ?_; rintro e w' ⟨rfl, rfl⟩)
  refine bodyPost_ret (v := .agg (A8 (r))) (by simp [results, Try.results27, go_sem]; rfl) rfl ⟨rfl, below3 _ _ _ _⟩

set_option maxHeartbeats 1000000 in
theorem Address_3_no (r : Regs) (v : BitVec 64) (h1 : (U1 (r.c3 &&& 128#8) != 0) = false) (h2 : (U1 (r.c4 &&& 128#8) != 0) = true) (h3 : (U1 (r.c4 >>> 3 &&& 3#8) == 1) = false) (w : World) : Calls Try.prog 27 #[.agg (G r), .agg (A8 r), .int .i64 3, .int .u64 (U v)] w fun e w' => e = .returned (.agg (A8 ({ r with a3 := v &&& 18014398509481983#64 }))) ∧ More w w' := by
  go_enter Try.func27, Try.ntmps27
  go_wp2_with (go_at_call 36; refine (way_any _ _).mono ?_; rintro e w' ⟨rfl, rfl⟩)
  refine bodyPost_ret (v := .agg (A8 ({ r with a3 := v &&& 18014398509481983#64 }))) (by simp [results, Try.results27, go_sem]; rfl) rfl ⟨rfl, below3 _ _ _ _⟩

set_option maxHeartbeats 1000000 in
theorem Address_3_f (r : Regs) (v : BitVec 64) (h1 : (U1 (r.c3 &&& 128#8) != 0) = false) (h2 : (U1 (r.c4 &&& 128#8) != 0) = false) (w : World) : Calls Try.prog 27 #[.agg (G r), .agg (A8 r), .int .i64 3, .int .u64 (U v)] w fun e w' => e = .returned (.agg (A8 ({ r with a3 := v &&& 18014398509481983#64 }))) ∧ More w w' := by
  go_enter Try.func27, Try.ntmps27
  go_wp2_with (go_at_call 36; refine (way_any _ _).mono ?_; rintro e w' ⟨rfl, rfl⟩)
  refine bodyPost_ret (v := .agg (A8 ({ r with a3 := v &&& 18014398509481983#64 }))) (by simp [results, Try.results27, go_sem]; rfl) rfl ⟨rfl, below3 _ _ _ _⟩

theorem Address_3 (r : Regs) (v : BitVec 64) (w : World) : Calls Try.prog 27 #[.agg (G r), .agg (A8 r), .int .i64 3, .int .u64 (U v)] w fun e w' => e = .returned (.agg (A8 (adrW3 r v))) ∧ More w w' := by
  unfold adrW3 nextLocks
  by_cases h1 : r.c3 &&& 128#8 = 0#8
  · by_cases h2 : r.c4 &&& 128#8 = 0#8
    · rw [if_neg (by simp [h1, h2])]
      exact Address_3_f r v (u1_z _ h1) (u1_z _ h2) w
    · by_cases h3 : r.c4 >>> 3 &&& 3#8 = 1#8
      · rw [if_pos (.inr ⟨h2, h3⟩)]
        exact Address_3_nw r v (u1_z _ h1) (u1_nz _ h2) (u1_eq _ 1#8 1 rfl h3) w
      · rw [if_neg (by simp [h1, h3])]
        exact Address_3_no r v (u1_z _ h1) (u1_nz _ h2) (u1_ne _ 1#8 1 rfl h3) w
  · rw [if_pos (.inl h1)]
    exact Address_3_l r v (u1_nz _ h1) w

set_option maxHeartbeats 1000000 in
theorem Address_4_l (r : Regs) (v : BitVec 64) (h1 : (U1 (r.c4 &&& 128#8) != 0) = true) (w : World) : Calls Try.prog 27 #[.agg (G r), .agg (A8 r), .int .i64 4, .int .u64 (U v)] w fun e w' => e = .returned (.agg (A8 (r))) ∧ More w w' := by
  go_enter Try.func27, Try.ntmps27
  go_wp2_with (go_at_call 36; refine (way_any _ _).mono ?_; rintro e w' ⟨rfl, rfl⟩)
  refine bodyPost_ret (v := .agg (A8 (r))) (by simp [results, Try.results27, go_sem]; rfl) rfl ⟨rfl, below3 _ _ _ _⟩

set_option maxHeartbeats 1000000 in
theorem Address_4_nw (r : Regs) (v : BitVec 64) (h1 : (U1 (r.c4 &&& 128#8) != 0) = false) (h2 : (U1 (r.c5 &&& 128#8) != 0) = true) (h3 : (U1 (r.c5 >>> 3 &&& 3#8) == 1) = true) (w : World) : Calls Try.prog 27 #[.agg (G r), .agg (A8 r), .int .i64 4, .int .u64 (U v)] w fun e w' => e = .returned (.agg (A8 (r))) ∧ More w w' := by
  go_enter Try.func27, Try.ntmps27
  go_wp2_with (go_at_call 36; refine (way_any _ _).mono ?_; rintro e w' ⟨rfl, rfl⟩)
  refine bodyPost_ret (v := .agg (A8 (r))) (by simp [results, Try.results27, go_sem]; rfl) rfl ⟨rfl, below3 _ _ _ _⟩

set_option maxHeartbeats 1000000 in
theorem Address_4_no (r : Regs) (v : BitVec 64) (h1 : (U1 (r.c4 &&& 128#8) != 0) = false) (h2 : (U1 (r.c5 &&& 128#8) != 0) = true) (h3 : (U1 (r.c5 >>> 3 &&& 3#8) == 1) = false) (w : World) : Calls Try.prog 27 #[.agg (G r), .agg (A8 r), .int .i64 4, .int .u64 (U v)] w fun e w' => e = .returned (.agg (A8 ({ r with a4 := v &&& 18014398509481983#64 }))) ∧ More w w' := by
  go_enter Try.func27, Try.ntmps27
  go_wp2_with (go_at_call 36; refine (way_any _ _).mono ?_; rintro e w' ⟨rfl, rfl⟩)
  refine bodyPost_ret (v := .agg (A8 ({ r with a4 := v &&& 18014398509481983#64 }))) (by simp [results, Try.results27, go_sem]; rfl) rfl ⟨rfl, below3 _ _ _ _⟩

set_option maxHeartbeats 1000000 in
theorem Address_4_f (r : Regs) (v : BitVec 64) (h1 : (U1 (r.c4 &&& 128#8) != 0) = false) (h2 : (U1 (r.c5 &&& 128#8) != 0) = false) (w : World) : Calls Try.prog 27 #[.agg (G r), .agg (A8 r), .int .i64 4, .int .u64 (U v)] w fun e w' => e = .returned (.agg (A8 ({ r with a4 := v &&& 18014398509481983#64 }))) ∧ More w w' := by
  go_enter Try.func27, Try.ntmps27
  go_wp2_with (go_at_call 36; refine (way_any _ _).mono ?_; rintro e w' ⟨rfl, rfl⟩)
  refine bodyPost_ret (v := .agg (A8 ({ r with a4 := v &&& 18014398509481983#64 }))) (by simp [results, Try.results27, go_sem]; rfl) rfl ⟨rfl, below3 _ _ _ _⟩

theorem Address_4 (r : Regs) (v : BitVec 64) (w : World) : Calls Try.prog 27 #[.agg (G r), .agg (A8 r), .int .i64 4, .int .u64 (U v)] w fun e w' => e = .returned (.agg (A8 (adrW4 r v))) ∧ More w w' := by
  unfold adrW4 nextLocks
  by_cases h1 : r.c4 &&& 128#8 = 0#8
  · by_cases h2 : r.c5 &&& 128#8 = 0#8
    · rw [if_neg (by simp [h1, h2])]
      exact Address_4_f r v (u1_z _ h1) (u1_z _ h2) w
    · by_cases h3 : r.c5 >>> 3 &&& 3#8 = 1#8
      · rw [if_pos (.inr ⟨h2, h3⟩)]
        exact Address_4_nw r v (u1_z _ h1) (u1_nz _ h2) (u1_eq _ 1#8 1 rfl h3) w
      · rw [if_neg (by simp [h1, h3])]
        exact Address_4_no r v (u1_z _ h1) (u1_nz _ h2) (u1_ne _ 1#8 1 rfl h3) w
  · rw [if_pos (.inl h1)]
    exact Address_4_l r v (u1_nz _ h1) w

set_option maxHeartbeats 1000000 in
theorem Address_5_l (r : Regs) (v : BitVec 64) (h1 : (U1 (r.c5 &&& 128#8) != 0) = true) (w : World) : Calls Try.prog 27 #[.agg (G r), .agg (A8 r), .int .i64 5, .int .u64 (U v)] w fun e w' => e = .returned (.agg (A8 (r))) ∧ More w w' := by
  go_enter Try.func27, Try.ntmps27
  go_wp2_with (go_at_call 36; refine (way_any _ _).mono ?_; rintro e w' ⟨rfl, rfl⟩)
  refine bodyPost_ret (v := .agg (A8 (r))) (by simp [results, Try.results27, go_sem]; rfl) rfl ⟨rfl, below3 _ _ _ _⟩

set_option maxHeartbeats 1000000 in
theorem Address_5_nw (r : Regs) (v : BitVec 64) (h1 : (U1 (r.c5 &&& 128#8) != 0) = false) (h2 : (U1 (r.c6 &&& 128#8) != 0) = true) (h3 : (U1 (r.c6 >>> 3 &&& 3#8) == 1) = true) (w : World) : Calls Try.prog 27 #[.agg (G r), .agg (A8 r), .int .i64 5, .int .u64 (U v)] w fun e w' => e = .returned (.agg (A8 (r))) ∧ More w w' := by
  go_enter Try.func27, Try.ntmps27
  go_wp2_with (go_at_call 36; refine (way_any _ _).mono ?_; rintro e w' ⟨rfl, rfl⟩)
  refine bodyPost_ret (v := .agg (A8 (r))) (by simp [results, Try.results27, go_sem]; rfl) rfl ⟨rfl, below3 _ _ _ _⟩

set_option maxHeartbeats 1000000 in
theorem Address_5_no (r : Regs) (v : BitVec 64) (h1 : (U1 (r.c5 &&& 128#8) != 0) = false) (h2 : (U1 (r.c6 &&& 128#8) != 0) = true) (h3 : (U1 (r.c6 >>> 3 &&& 3#8) == 1) = false) (w : World) : Calls Try.prog 27 #[.agg (G r), .agg (A8 r), .int .i64 5, .int .u64 (U v)] w fun e w' => e = .returned (.agg (A8 ({ r with a5 := v &&& 18014398509481983#64 }))) ∧ More w w' := by
  go_enter Try.func27, Try.ntmps27
  go_wp2_with (go_at_call 36; refine (way_any _ _).mono ?_; rintro e w' ⟨rfl, rfl⟩)
  refine bodyPost_ret (v := .agg (A8 ({ r with a5 := v &&& 18014398509481983#64 }))) (by simp [results, Try.results27, go_sem]; rfl) rfl ⟨rfl, below3 _ _ _ _⟩

set_option maxHeartbeats 1000000 in
theorem Address_5_f (r : Regs) (v : BitVec 64) (h1 : (U1 (r.c5 &&& 128#8) != 0) = false) (h2 : (U1 (r.c6 &&& 128#8) != 0) = false) (w : World) : Calls Try.prog 27 #[.agg (G r), .agg (A8 r), .int .i64 5, .int .u64 (U v)] w fun e w' => e = .returned (.agg (A8 ({ r with a5 := v &&& 18014398509481983#64 }))) ∧ More w w' := by
  go_enter Try.func27, Try.ntmps27
  go_wp2_with (go_at_call 36; refine (way_any _ _).mono ?_; rintro e w' ⟨rfl, rfl⟩)
  refine bodyPost_ret (v := .agg (A8 ({ r with a5 := v &&& 18014398509481983#64 }))) (by simp [results, Try.results27, go_sem]; rfl) rfl ⟨rfl, below3 _ _ _ _⟩

theorem Address_5 (r : Regs) (v : BitVec 64) (w : World) : Calls Try.prog 27 #[.agg (G r), .agg (A8 r), .int .i64 5, .int .u64 (U v)] w fun e w' => e = .returned (.agg (A8 (adrW5 r v))) ∧ More w w' := by
  unfold adrW5 nextLocks
  by_cases h1 : r.c5 &&& 128#8 = 0#8
  · by_cases h2 : r.c6 &&& 128#8 = 0#8
    · rw [if_neg (by simp [h1, h2])]
      exact Address_5_f r v (u1_z _ h1) (u1_z _ h2) w
    · by_cases h3 : r.c6 >>> 3 &&& 3#8 = 1#8
      · rw [if_pos (.inr ⟨h2, h3⟩)]
        exact Address_5_nw r v (u1_z _ h1) (u1_nz _ h2) (u1_eq _ 1#8 1 rfl h3) w
      · rw [if_neg (by simp [h1, h3])]
        exact Address_5_no r v (u1_z _ h1) (u1_nz _ h2) (u1_ne _ 1#8 1 rfl h3) w
  · rw [if_pos (.inl h1)]
    exact Address_5_l r v (u1_nz _ h1) w

set_option maxHeartbeats 1000000 in
theorem Address_6_l (r : Regs) (v : BitVec 64) (h1 : (U1 (r.c6 &&& 128#8) != 0) = true) (w : World) : Calls Try.prog 27 #[.agg (G r), .agg (A8 r), .int .i64 6, .int .u64 (U v)] w fun e w' => e = .returned (.agg (A8 (r))) ∧ More w w' := by
  go_enter Try.func27, Try.ntmps27
  go_wp2_with (go_at_call 36; refine (way_any _ _).mono ?_; rintro e w' ⟨rfl, rfl⟩)
  refine bodyPost_ret (v := .agg (A8 (r))) (by simp [results, Try.results27, go_sem]; rfl) rfl ⟨rfl, below3 _ _ _ _⟩

set_option maxHeartbeats 1000000 in
theorem Address_6_nw (r : Regs) (v : BitVec 64) (h1 : (U1 (r.c6 &&& 128#8) != 0) = false) (h2 : (U1 (r.c7 &&& 128#8) != 0) = true) (h3 : (U1 (r.c7 >>> 3 &&& 3#8) == 1) = true) (w : World) : Calls Try.prog 27 #[.agg (G r), .agg (A8 r), .int .i64 6, .int .u64 (U v)] w fun e w' => e = .returned (.agg (A8 (r))) ∧ More w w' := by
  go_enter Try.func27, Try.ntmps27
  go_wp2_with (go_at_call 36; refine (way_any _ _).mono ?_; rintro e w' ⟨rfl, rfl⟩)
  refine bodyPost_ret (v := .agg (A8 (r))) (by simp [results, Try.results27, go_sem]; rfl) rfl ⟨rfl, below3 _ _ _ _⟩

set_option maxHeartbeats 1000000 in
theorem Address_6_no (r : Regs) (v : BitVec 64) (h1 : (U1 (r.c6 &&& 128#8) != 0) = false) (h2 : (U1 (r.c7 &&& 128#8) != 0) = true) (h3 : (U1 (r.c7 >>> 3 &&& 3#8) == 1) = false) (w : World) : Calls Try.prog 27 #[.agg (G r), .agg (A8 r), .int .i64 6, .int .u64 (U v)] w fun e w' => e = .returned (.agg (A8 ({ r with a6 := v &&& 18014398509481983#64 }))) ∧ More w w' := by
  go_enter Try.func27, Try.ntmps27
  go_wp2_with (go_at_call 36; refine (way_any _ _).mono ?_; rintro e w' ⟨rfl, rfl⟩)
  refine bodyPost_ret (v := .agg (A8 ({ r with a6 := v &&& 18014398509481983#64 }))) (by simp [results, Try.results27, go_sem]; rfl) rfl ⟨rfl, below3 _ _ _ _⟩

set_option maxHeartbeats 1000000 in
theorem Address_6_f (r : Regs) (v : BitVec 64) (h1 : (U1 (r.c6 &&& 128#8) != 0) = false) (h2 : (U1 (r.c7 &&& 128#8) != 0) = false) (w : World) : Calls Try.prog 27 #[.agg (G r), .agg (A8 r), .int .i64 6, .int .u64 (U v)] w fun e w' => e = .returned (.agg (A8 ({ r with a6 := v &&& 18014398509481983#64 }))) ∧ More w w' := by
  go_enter Try.func27, Try.ntmps27
  go_wp2_with (go_at_call 36; refine (way_any _ _).mono ?_; rintro e w' ⟨rfl, rfl⟩)
  refine bodyPost_ret (v := .agg (A8 ({ r with a6 := v &&& 18014398509481983#64 }))) (by simp [results, Try.results27, go_sem]; rfl) rfl ⟨rfl, below3 _ _ _ _⟩

theorem Address_6 (r : Regs) (v : BitVec 64) (w : World) : Calls Try.prog 27 #[.agg (G r), .agg (A8 r), .int .i64 6, .int .u64 (U v)] w fun e w' => e = .returned (.agg (A8 (adrW6 r v))) ∧ More w w' := by
  unfold adrW6 nextLocks
  by_cases h1 : r.c6 &&& 128#8 = 0#8
  · by_cases h2 : r.c7 &&& 128#8 = 0#8
    · rw [if_neg (by simp [h1, h2])]
      exact Address_6_f r v (u1_z _ h1) (u1_z _ h2) w
    · by_cases h3 : r.c7 >>> 3 &&& 3#8 = 1#8
      · rw [if_pos (.inr ⟨h2, h3⟩)]
        exact Address_6_nw r v (u1_z _ h1) (u1_nz _ h2) (u1_eq _ 1#8 1 rfl h3) w
      · rw [if_neg (by simp [h1, h3])]
        exact Address_6_no r v (u1_z _ h1) (u1_nz _ h2) (u1_ne _ 1#8 1 rfl h3) w
  · rw [if_pos (.inl h1)]
    exact Address_6_l r v (u1_nz _ h1) w

set_option maxHeartbeats 1000000 in
theorem Address_7_l (r : Regs) (v : BitVec 64) (h1 : (U1 (r.c7 &&& 128#8) != 0) = true) (w : World) : Calls Try.prog 27 #[.agg (G r), .agg (A8 r), .int .i64 7, .int .u64 (U v)] w fun e w' => e = .returned (.agg (A8 (r))) ∧ More w w' := by
  go_enter Try.func27, Try.ntmps27
  go_wp2_with (go_at_call 36; refine (way_any _ _).mono ?_; rintro e w' ⟨rfl, rfl⟩)
  refine bodyPost_ret (v := .agg (A8 (r))) (by simp [results, Try.results27, go_sem]; rfl) rfl ⟨rfl, below3 _ _ _ _⟩

set_option maxHeartbeats 1000000 in
theorem Address_7_f (r : Regs) (v : BitVec 64) (h1 : (U1 (r.c7 &&& 128#8) != 0) = false) (w : World) : Calls Try.prog 27 #[.agg (G r), .agg (A8 r), .int .i64 7, .int .u64 (U v)] w fun e w' => e = .returned (.agg (A8 ({ r with a7 := v &&& 18014398509481983#64 }))) ∧ More w w' := by
  go_enter Try.func27, Try.ntmps27
  go_wp2_with (go_at_call 36; refine (way_any _ _).mono ?_; rintro e w' ⟨rfl, rfl⟩)
  refine bodyPost_ret (v := .agg (A8 ({ r with a7 := v &&& 18014398509481983#64 }))) (by simp [results, Try.results27, go_sem]; rfl) rfl ⟨rfl, below3 _ _ _ _⟩

theorem Address_7 (r : Regs) (v : BitVec 64) (w : World) : Calls Try.prog 27 #[.agg (G r), .agg (A8 r), .int .i64 7, .int .u64 (U v)] w fun e w' => e = .returned (.agg (A8 (adrW7 r v))) ∧ More w w' := by
  unfold adrW7
  by_cases h1 : r.c7 &&& 128#8 = 0#8
  · rw [if_neg (by simp [h1])]
    exact Address_7_f r v (u1_z _ h1) w
  · rw [if_pos h1]
    exact Address_7_l r v (u1_nz _ h1) w

def cfgUp (r : Regs) (v : BitVec 64) (j : Nat) : Regs :=
  match j with
  | 0 => r
  | 1 => { r with c0 := cfg1 r.c0 (v.setWidth 8) }
  | 2 => { r with c0 := cfg1 r.c0 (v.setWidth 8), c1 := cfg1 r.c1 ((v >>> 8).setWidth 8) }
  | 3 => { r with c0 := cfg1 r.c0 (v.setWidth 8), c1 := cfg1 r.c1 ((v >>> 8).setWidth 8), c2 := cfg1 r.c2 ((v >>> 16).setWidth 8) }
  | 4 => { r with c0 := cfg1 r.c0 (v.setWidth 8), c1 := cfg1 r.c1 ((v >>> 8).setWidth 8), c2 := cfg1 r.c2 ((v >>> 16).setWidth 8), c3 := cfg1 r.c3 ((v >>> 24).setWidth 8) }
  | 5 => { r with c0 := cfg1 r.c0 (v.setWidth 8), c1 := cfg1 r.c1 ((v >>> 8).setWidth 8), c2 := cfg1 r.c2 ((v >>> 16).setWidth 8), c3 := cfg1 r.c3 ((v >>> 24).setWidth 8), c4 := cfg1 r.c4 ((v >>> 32).setWidth 8) }
  | 6 => { r with c0 := cfg1 r.c0 (v.setWidth 8), c1 := cfg1 r.c1 ((v >>> 8).setWidth 8), c2 := cfg1 r.c2 ((v >>> 16).setWidth 8), c3 := cfg1 r.c3 ((v >>> 24).setWidth 8), c4 := cfg1 r.c4 ((v >>> 32).setWidth 8), c5 := cfg1 r.c5 ((v >>> 40).setWidth 8) }
  | 7 => { r with c0 := cfg1 r.c0 (v.setWidth 8), c1 := cfg1 r.c1 ((v >>> 8).setWidth 8), c2 := cfg1 r.c2 ((v >>> 16).setWidth 8), c3 := cfg1 r.c3 ((v >>> 24).setWidth 8), c4 := cfg1 r.c4 ((v >>> 32).setWidth 8), c5 := cfg1 r.c5 ((v >>> 40).setWidth 8), c6 := cfg1 r.c6 ((v >>> 48).setWidth 8) }
  | _ => { r with c0 := cfg1 r.c0 (v.setWidth 8), c1 := cfg1 r.c1 ((v >>> 8).setWidth 8), c2 := cfg1 r.c2 ((v >>> 16).setWidth 8), c3 := cfg1 r.c3 ((v >>> 24).setWidth 8), c4 := cfg1 r.c4 ((v >>> 32).setWidth 8), c5 := cfg1 r.c5 ((v >>> 40).setWidth 8), c6 := cfg1 r.c6 ((v >>> 48).setWidth 8), c7 := cfg1 r.c7 ((v >>> 56).setWidth 8) }

theorem cfg1_yes {c n : BitVec 8} (h1 : c &&& 128#8 = 0#8) (h2 : n &&& 3#8 ≠ 2#8) : cfg1 c n = n &&& 159#8 := if_pos ⟨h1, h2⟩
theorem cfg1_no1 {c n : BitVec 8} (h1 : c &&& 128#8 ≠ 0#8) : cfg1 c n = c := if_neg fun h => h1 h.1
theorem cfg1_no2 {c n : BitVec 8} (h2 : n &&& 3#8 = 2#8) : cfg1 c n = c := if_neg fun h => h.2 h2
set_option maxHeartbeats 4000000 in
theorem Config_any (r : Regs) (v : BitVec 64) (w : World) : Calls Try.prog 30 #[.agg (G r), .int .u64 (U v)] w fun e w' => e = .returned (.agg (G (cfgW r v))) ∧ More w w' := by
  go_enter Try.func30, Try.ntmps30
  go_wp2_with fail
  go_loopw [9] (fun iv wr => ∃ j : Nat, j ≤ 8 ∧ iv = .int .i64 j ∧ wr = (w.alloc (.cells (G (cfgUp r v j)) 23)).alloc (.cells #[Value.int IntKind.u8 0, Value.int IntKind.u8 0, Value.int IntKind.u8 0, Value.int IntKind.u8 0, Value.int IntKind.u8 0, Value.int IntKind.u8 0, Value.int IntKind.u8 0, Value.int IntKind.u8 0] 23)) (fun iv _ => 8 - (intOf iv).toNat)
  case atStart => exact ⟨0, by omega, rfl, rfl⟩
  case round =>
    obtain ⟨j, hj, rfl, rfl⟩ := hrel
    obtain rfl | rfl | rfl | rfl | rfl | rfl | rfl | rfl | rfl : j = 0 ∨ j = 1 ∨ j = 2 ∨ j = 3 ∨ j = 4 ∨ j = 5 ∨ j = 6 ∨ j = 7 ∨ j = 8 := by omega
    · by_cases h1 : r.c0 &&& 128#8 = 0#8
      · have t1 : (U1 (r.c0 &&& 128#8) == 0) = true := u1_eq _ 0#8 0 rfl h1
        by_cases h2 : v.setWidth 8 &&& 3#8 = 2#8
        · have t2 : (U1 (v.setWidth 8 &&& 3#8) != 2) = false := by rw [h2]; decide +kernel
          have H := hide (cfg1_no2 (c := r.c0) h2)
          clear h1 h2
          go_wp2_with fail
          go_roundw
          case rel => exact ⟨1, by omega, by go_num, by simp only [cfgUp, H.out]⟩
          case measure => simp [intOf]
        · have t2 : (U1 (v.setWidth 8 &&& 3#8) != 2) = true := by
            have e : (U1 (v.setWidth 8 &&& 3#8) != 2) = (v.setWidth 8 &&& 3#8 != 2#8) := U1_bne _ 2#8
            rw [e]; simpa using h2
          have H := hide (cfg1_yes h1 h2)
          clear h1 h2
          go_wp2_with fail
          go_roundw
          case rel => exact ⟨1, by omega, by go_num, by simp only [cfgUp, H.out]⟩
          case measure => simp [intOf]
      · have t1 : (U1 (r.c0 &&& 128#8) == 0) = false := u1_ne _ 0#8 0 rfl h1
        have H := hide (cfg1_no1 (n := v.setWidth 8) h1)
        clear h1
        go_wp2_with fail
        go_roundw
        case rel => exact ⟨1, by omega, by go_num, by simp only [cfgUp, H.out]⟩
        case measure => simp [intOf]
    · by_cases h1 : r.c1 &&& 128#8 = 0#8
      · have t1 : (U1 (r.c1 &&& 128#8) == 0) = true := u1_eq _ 0#8 0 rfl h1
        by_cases h2 : (v >>> 8).setWidth 8 &&& 3#8 = 2#8
        · have t2 : (U1 ((v >>> 8).setWidth 8 &&& 3#8) != 2) = false := by rw [h2]; decide +kernel
          have H := hide (cfg1_no2 (c := r.c1) h2)
          clear h1 h2
          go_wp2_with fail
          go_roundw
          case rel => exact ⟨2, by omega, by go_num, by simp only [cfgUp, H.out]⟩
          case measure => simp [intOf]
        · have t2 : (U1 ((v >>> 8).setWidth 8 &&& 3#8) != 2) = true := by
            have e : (U1 ((v >>> 8).setWidth 8 &&& 3#8) != 2) = ((v >>> 8).setWidth 8 &&& 3#8 != 2#8) := U1_bne _ 2#8
            rw [e]; simpa using h2
          have H := hide (cfg1_yes h1 h2)
          clear h1 h2
          go_wp2_with fail
          go_roundw
          case rel => exact ⟨2, by omega, by go_num, by simp only [cfgUp, H.out]⟩
          case measure => simp [intOf]
      · have t1 : (U1 (r.c1 &&& 128#8) == 0) = false := u1_ne _ 0#8 0 rfl h1
        have H := hide (cfg1_no1 (n := (v >>> 8).setWidth 8) h1)
        clear h1
        go_wp2_with fail
        go_roundw
        case rel => exact ⟨2, by omega, by go_num, by simp only [cfgUp, H.out]⟩
        case measure => simp [intOf]
    · by_cases h1 : r.c2 &&& 128#8 = 0#8
      · have t1 : (U1 (r.c2 &&& 128#8) == 0) = true := u1_eq _ 0#8 0 rfl h1
        by_cases h2 : (v >>> 16).setWidth 8 &&& 3#8 = 2#8
        · have t2 : (U1 ((v >>> 16).setWidth 8 &&& 3#8) != 2) = false := by rw [h2]; decide +kernel
          have H := hide (cfg1_no2 (c := r.c2) h2)
          clear h1 h2
          go_wp2_with fail
          go_roundw
          case rel => exact ⟨3, by omega, by go_num, by simp only [cfgUp, H.out]⟩
          case measure => simp [intOf]
        · have t2 : (U1 ((v >>> 16).setWidth 8 &&& 3#8) != 2) = true := by
            have e : (U1 ((v >>> 16).setWidth 8 &&& 3#8) != 2) = ((v >>> 16).setWidth 8 &&& 3#8 != 2#8) := U1_bne _ 2#8
            rw [e]; simpa using h2
          have H := hide (cfg1_yes h1 h2)
          clear h1 h2
          go_wp2_with fail
          go_roundw
          case rel => exact ⟨3, by omega, by go_num, by simp only [cfgUp, H.out]⟩
          case measure => simp [intOf]
      · have t1 : (U1 (r.c2 &&& 128#8) == 0) = false := u1_ne _ 0#8 0 rfl h1
        have H := hide (cfg1_no1 (n := (v >>> 16).setWidth 8) h1)
        clear h1
        go_wp2_with fail
        go_roundw
        case rel => exact ⟨3, by omega, by go_num, by simp only [cfgUp, H.out]⟩
        case measure => simp [intOf]
    · by_cases h1 : r.c3 &&& 128#8 = 0#8
      · have t1 : (U1 (r.c3 &&& 128#8) == 0) = true := u1_eq _ 0#8 0 rfl h1
        by_cases h2 : (v >>> 24).setWidth 8 &&& 3#8 = 2#8
        · have t2 : (U1 ((v >>> 24).setWidth 8 &&& 3#8) != 2) = false := by rw [h2]; decide +kernel
          have H := hide (cfg1_no2 (c := r.c3) h2)
          clear h1 h2
          go_wp2_with fail
          go_roundw
          case rel => exact ⟨4, by omega, by go_num, by simp only [cfgUp, H.out]⟩
          case measure => simp [intOf]
        · have t2 : (U1 ((v >>> 24).setWidth 8 &&& 3#8) != 2) = true := by
            have e : (U1 ((v >>> 24).setWidth 8 &&& 3#8) != 2) = ((v >>> 24).setWidth 8 &&& 3#8 != 2#8) := U1_bne _ 2#8
            rw [e]; simpa using h2
          have H := hide (cfg1_yes h1 h2)
          clear h1 h2
          go_wp2_with fail
          go_roundw
          case rel => exact ⟨4, by omega, by go_num, by simp only [cfgUp, H.out]⟩
          case measure => simp [intOf]
      · have t1 : (U1 (r.c3 &&& 128#8) == 0) = false := u1_ne _ 0#8 0 rfl h1
        have H := hide (cfg1_no1 (n := (v >>> 24).setWidth 8) h1)
        clear h1
        go_wp2_with fail
        go_roundw
        case rel => exact ⟨4, by omega, by go_num, by simp only [cfgUp, H.out]⟩
        case measure => simp [intOf]
    · by_cases h1 : r.c4 &&& 128#8 = 0#8
      · have t1 : (U1 (r.c4 &&& 128#8) == 0) = true := u1_eq _ 0#8 0 rfl h1
        by_cases h2 : (v >>> 32).setWidth 8 &&& 3#8 = 2#8
        · have t2 : (U1 ((v >>> 32).setWidth 8 &&& 3#8) != 2) = false := by rw [h2]; decide +kernel
          have H := hide (cfg1_no2 (c := r.c4) h2)
          clear h1 h2
          go_wp2_with fail
          go_roundw
          case rel => exact ⟨5, by omega, by go_num, by simp only [cfgUp, H.out]⟩
          case measure => simp [intOf]
        · have t2 : (U1 ((v >>> 32).setWidth 8 &&& 3#8) != 2) = true := by
            have e : (U1 ((v >>> 32).setWidth 8 &&& 3#8) != 2) = ((v >>> 32).setWidth 8 &&& 3#8 != 2#8) := U1_bne _ 2#8
            rw [e]; simpa using h2
          have H := hide (cfg1_yes h1 h2)
          clear h1 h2
          go_wp2_with fail
          go_roundw
          case rel => exact ⟨5, by omega, by go_num, by simp only [cfgUp, H.out]⟩
          case measure => simp [intOf]
      · have t1 : (U1 (r.c4 &&& 128#8) == 0) = false := u1_ne _ 0#8 0 rfl h1
        have H := hide (cfg1_no1 (n := (v >>> 32).setWidth 8) h1)
        clear h1
        go_wp2_with fail
        go_roundw
        case rel => exact ⟨5, by omega, by go_num, by simp only [cfgUp, H.out]⟩
        case measure => simp [intOf]
    · by_cases h1 : r.c5 &&& 128#8 = 0#8
      · have t1 : (U1 (r.c5 &&& 128#8) == 0) = true := u1_eq _ 0#8 0 rfl h1
        by_cases h2 : (v >>> 40).setWidth 8 &&& 3#8 = 2#8
        · have t2 : (U1 ((v >>> 40).setWidth 8 &&& 3#8) != 2) = false := by rw [h2]; decide +kernel
          have H := hide (cfg1_no2 (c := r.c5) h2)
          clear h1 h2
          go_wp2_with fail
          go_roundw
          case rel => exact ⟨6, by omega, by go_num, by simp only [cfgUp, H.out]⟩
          case measure => simp [intOf]
        · have t2 : (U1 ((v >>> 40).setWidth 8 &&& 3#8) != 2) = true := by
            have e : (U1 ((v >>> 40).setWidth 8 &&& 3#8) != 2) = ((v >>> 40).setWidth 8 &&& 3#8 != 2#8) := U1_bne _ 2#8
            rw [e]; simpa using h2
          have H := hide (cfg1_yes h1 h2)
          clear h1 h2
          go_wp2_with fail
          go_roundw
          case rel => exact ⟨6, by omega, by go_num, by simp only [cfgUp, H.out]⟩
          case measure => simp [intOf]
      · have t1 : (U1 (r.c5 &&& 128#8) == 0) = false := u1_ne _ 0#8 0 rfl h1
        have H := hide (cfg1_no1 (n := (v >>> 40).setWidth 8) h1)
        clear h1
        go_wp2_with fail
        go_roundw
        case rel => exact ⟨6, by omega, by go_num, by simp only [cfgUp, H.out]⟩
        case measure => simp [intOf]
    · by_cases h1 : r.c6 &&& 128#8 = 0#8
      · have t1 : (U1 (r.c6 &&& 128#8) == 0) = true := u1_eq _ 0#8 0 rfl h1
        by_cases h2 : (v >>> 48).setWidth 8 &&& 3#8 = 2#8
        · have t2 : (U1 ((v >>> 48).setWidth 8 &&& 3#8) != 2) = false := by rw [h2]; decide +kernel
          have H := hide (cfg1_no2 (c := r.c6) h2)
          clear h1 h2
          go_wp2_with fail
          go_roundw
          case rel => exact ⟨7, by omega, by go_num, by simp only [cfgUp, H.out]⟩
          case measure => simp [intOf]
        · have t2 : (U1 ((v >>> 48).setWidth 8 &&& 3#8) != 2) = true := by
            have e : (U1 ((v >>> 48).setWidth 8 &&& 3#8) != 2) = ((v >>> 48).setWidth 8 &&& 3#8 != 2#8) := U1_bne _ 2#8
            rw [e]; simpa using h2
          have H := hide (cfg1_yes h1 h2)
          clear h1 h2
          go_wp2_with fail
          go_roundw
          case rel => exact ⟨7, by omega, by go_num, by simp only [cfgUp, H.out]⟩
          case measure => simp [intOf]
      · have t1 : (U1 (r.c6 &&& 128#8) == 0) = false := u1_ne _ 0#8 0 rfl h1
        have H := hide (cfg1_no1 (n := (v >>> 48).setWidth 8) h1)
        clear h1
        go_wp2_with fail
        go_roundw
        case rel => exact ⟨7, by omega, by go_num, by simp only [cfgUp, H.out]⟩
        case measure => simp [intOf]
    · by_cases h1 : r.c7 &&& 128#8 = 0#8
      · have t1 : (U1 (r.c7 &&& 128#8) == 0) = true := u1_eq _ 0#8 0 rfl h1
        by_cases h2 : (v >>> 56).setWidth 8 &&& 3#8 = 2#8
        · have t2 : (U1 ((v >>> 56).setWidth 8 &&& 3#8) != 2) = false := by rw [h2]; decide +kernel
          have H := hide (cfg1_no2 (c := r.c7) h2)
          clear h1 h2
          go_wp2_with fail
          go_roundw
          case rel => exact ⟨8, by omega, by go_num, by simp only [cfgUp, H.out]⟩
          case measure => simp [intOf]
        · have t2 : (U1 ((v >>> 56).setWidth 8 &&& 3#8) != 2) = true := by
            have e : (U1 ((v >>> 56).setWidth 8 &&& 3#8) != 2) = ((v >>> 56).setWidth 8 &&& 3#8 != 2#8) := U1_bne _ 2#8
            rw [e]; simpa using h2
          have H := hide (cfg1_yes h1 h2)
          clear h1 h2
          go_wp2_with fail
          go_roundw
          case rel => exact ⟨8, by omega, by go_num, by simp only [cfgUp, H.out]⟩
          case measure => simp [intOf]
      · have t1 : (U1 (r.c7 &&& 128#8) == 0) = false := u1_ne _ 0#8 0 rfl h1
        have H := hide (cfg1_no1 (n := (v >>> 56).setWidth 8) h1)
        clear h1
        go_wp2_with fail
        go_roundw
        case rel => exact ⟨8, by omega, by go_num, by simp only [cfgUp, H.out]⟩
        case measure => simp [intOf]
    · go_wp2_with fail
      refine bodyPost_ret (v := .agg (G (cfgW r v))) (by simp [results, Try.results30, go_sem]; rfl) rfl ⟨rfl, below2 _ _ _⟩

end Go.Proofs.Ytgkajhpmgeofkaa