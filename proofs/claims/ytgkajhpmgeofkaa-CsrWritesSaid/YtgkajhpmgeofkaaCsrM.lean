/-
  The walks of the reference's small functions: address, bit, way, mix, settle. (Printed by gen_csrm.py.)
-/
import Derived.Test.YtgkajhpmgeofkaaCsrJ
namespace Go.Proofs.Ytgkajhpmgeofkaa
set_option linter.unusedVariables false
open Go.RowKit

theorem RMix_any (a v m : BitVec 64) (w : World) : Calls Try.prog 31 #[.int .u64 (U a), .int .u64 (U v), .int .u64 (U m)] w fun e w' => e = .returned (.int .u64 (U (layS a v m))) ∧ w = w' := by
  go_enter Try.func31, Try.ntmps31
  go_wp2
  go_ret
  exact ⟨rfl, rfl⟩
theorem fs_all (x : BitVec 64) : (x &&& 24576#64 = 24576#64) ↔ (x >>> 13 &&& 3#64 = 3#64) := by
  have h := and_shl x 3#64 13
  rw [show (24576#64 : BitVec 64) = 3#64 <<< 13 from rfl, h]
  constructor
  · intro e
    have l := and3_lt (x >>> 13)
    revert e l
    generalize x >>> 13 &&& 3#64 = y
    intro e l
    apply BitVec.eq_of_toNat_eq
    have t := congrArg BitVec.toNat e
    simp [BitVec.toNat_shiftLeft, Nat.shiftLeft_eq] at t
    simp
    omega
  · intro e; rw [e]
theorem RSettle_any (m : BitVec 64) (w : World) : Calls Try.prog 33 #[.int .u64 (U m)] w fun e w' => e = .returned (.int .u64 (U (settledS m))) ∧ w = w' := by
  have hs : settledS m = if (m &&& 8288682#64 ||| 42949672960#64) >>> 13 &&& 3#64 = 3#64 then (m &&& 8288682#64 ||| 42949672960#64) ||| 9223372036854775808#64 else m &&& 8288682#64 ||| 42949672960#64 := rfl
  have hb : (U ((m &&& 8288682#64 ||| 42949672960#64) &&& 24576#64) == 24576) = ((m &&& 8288682#64 ||| 42949672960#64) &&& 24576#64 == 24576#64) := U_beq _ 24576#64
  by_cases h : (m &&& 8288682#64 ||| 42949672960#64) >>> 13 &&& 3#64 = 3#64
  · have t : (U ((m &&& 8288682#64 ||| 42949672960#64) &&& 24576#64) == 24576) = true := by rw [hb]; simpa using (fs_all _).2 h
    rw [if_pos h] at hs
    rw [hs]
    clear hs hb h
    go_enter Try.func33, Try.ntmps33
    go_wp2
    go_ret
    exact ⟨rfl, rfl⟩
  · have t : (U ((m &&& 8288682#64 ||| 42949672960#64) &&& 24576#64) == 24576) = false := by rw [hb]; simpa using fun e => h ((fs_all _).1 e)
    rw [if_neg h] at hs
    rw [hs]
    clear hs hb h
    go_enter Try.func33, Try.ntmps33
    go_wp2
    go_ret
    exact ⟨rfl, rfl⟩

theorem RBit_0 (c : BitVec 8) (w : World) : Calls Try.prog 39 #[.int .u8 (U1 c), .int .i64 0] w fun e w' => e = .returned (.bool (U1 (c &&& 1#8) == 1)) ∧ w = w' := by
  go_enter Try.func39, Try.ntmps39
  go_wp2
  go_ret
  exact ⟨rfl, rfl⟩

theorem RBit_1 (c : BitVec 8) (w : World) : Calls Try.prog 39 #[.int .u8 (U1 c), .int .i64 1] w fun e w' => e = .returned (.bool (U1 (c >>> 1 &&& 1#8) == 1)) ∧ w = w' := by
  go_enter Try.func39, Try.ntmps39
  go_wp2
  go_ret
  exact ⟨rfl, rfl⟩

theorem RBit_3 (c : BitVec 8) (w : World) : Calls Try.prog 39 #[.int .u8 (U1 c), .int .i64 3] w fun e w' => e = .returned (.bool (U1 (c >>> 3 &&& 1#8) == 1)) ∧ w = w' := by
  go_enter Try.func39, Try.ntmps39
  go_wp2
  go_ret
  exact ⟨rfl, rfl⟩

theorem RBit_4 (c : BitVec 8) (w : World) : Calls Try.prog 39 #[.int .u8 (U1 c), .int .i64 4] w fun e w' => e = .returned (.bool (U1 (c >>> 4 &&& 1#8) == 1)) ∧ w = w' := by
  go_enter Try.func39, Try.ntmps39
  go_wp2
  go_ret
  exact ⟨rfl, rfl⟩

theorem RBit_7 (c : BitVec 8) (w : World) : Calls Try.prog 39 #[.int .u8 (U1 c), .int .i64 7] w fun e w' => e = .returned (.bool (U1 (c >>> 7 &&& 1#8) == 1)) ∧ w = w' := by
  go_enter Try.func39, Try.ntmps39
  go_wp2
  go_ret
  exact ⟨rfl, rfl⟩

theorem RAddress_any (v : BitVec 64) (w : World) : Calls Try.prog 41 #[.int .u64 (U v)] w fun e w' => e = .returned (.int .u64 (U (v &&& 18014398509481983#64))) ∧ w = w' := by
  have h : U v % 18014398509481984 = U (v &&& 18014398509481983#64) := by
    unfold U
    rw [show (18014398509481983#64 : BitVec 64) = BitVec.ofNat 64 (2 ^ 54 - 1) from rfl, BitVec.toNat_and, BitVec.toNat_ofNat, Nat.mod_eq_of_lt (by decide), Nat.and_two_pow_sub_one_eq_mod]
    simp
  go_enter Try.func41, Try.ntmps41
  go_wp2
  go_ret
  first | exact ⟨rfl, rfl⟩ | exact ⟨ret1 (int_eq h), rfl⟩

theorem way_bits : ∀ c : BitVec 8, U1 (c >>> 3 &&& 3#8) = (if (U1 (c >>> 3 &&& 1#8) == 1) = true then 1 else 0) + (if (U1 (c >>> 4 &&& 1#8) == 1) = true then 2 else 0) := by decide +kernel

theorem RWay_any (c : BitVec 8) (w : World) : Calls Try.prog 40 #[.int .u8 (U1 c)] w fun e w' => e = .returned (.int .i64 (U1 (c >>> 3 &&& 3#8))) ∧ w = w' := by
  rw [way_bits]
  rcases Bool.eq_false_or_eq_true (U1 (c >>> 3 &&& 1#8) == 1) with h3 | h3 <;> rcases Bool.eq_false_or_eq_true (U1 (c >>> 4 &&& 1#8) == 1) with h4 | h4 <;> rw [h3, h4]
  all_goals
    go_enter Try.func40, Try.ntmps40
    go_wp2_with fail
    refine (RBit_3 _ _).mono ?_
    rintro e w' ⟨rfl, rfl⟩
    rw [h3]
    go_wp2_with fail
    refine (RBit_4 _ _).mono ?_
    rintro e w' ⟨rfl, rfl⟩
    rw [h4]
    go_wp2_with fail
    go_ret
    exact ⟨rfl, rfl⟩
theorem bit7 : ∀ c : BitVec 8, (U1 (c >>> 7 &&& 1#8) == 1) = (U1 (c &&& 128#8) != 0) := by decide +kernel
theorem bit_odd : ∀ c : BitVec 8, (c &&& 3#8 = 2#8) ↔ ((U1 (c >>> 1 &&& 1#8) == 1) = true ∧ (U1 (c &&& 1#8) == 1) = false) := by decide +kernel

set_option maxHeartbeats 1000000 in
theorem RAdr_0_l0 (r : Regs) (v : BitVec 64) (h1 : (U1 (r.c0 >>> 7 &&& 1#8) == 1) = true) (h2 : (U1 (r.c1 >>> 7 &&& 1#8) == 1) = true) (w : World) : Calls Try.prog 38 #[.agg (G r), .agg (A8 r), .int .i64 0, .int .u64 (U v)] w fun e w' => e = .returned (.agg (A8 (r))) ∧ More w w' := by
  go_enter Try.func38, Try.ntmps38
  go_wp2_with (first | (go_at_call 39; refine (RBit_7 _ _).mono ?_; rintro e w' ⟨rfl, rfl⟩) | (go_at_call 40; refine (RWay_any _ _).mono ?_; rintro e w' ⟨rfl, rfl⟩) | (go_at_call 41; refine (RAddress_any _ _).mono ?_; rintro e w' ⟨rfl, rfl⟩))
  refine bodyPost_ret (v := .agg (A8 (r))) (by simp [results, Try.results38, go_sem]; rfl) rfl ⟨rfl, (below3 _ _ _ _).alloc _⟩

set_option maxHeartbeats 1000000 in
theorem RAdr_0_l1 (r : Regs) (v : BitVec 64) (h1 : (U1 (r.c0 >>> 7 &&& 1#8) == 1) = true) (h2 : (U1 (r.c1 >>> 7 &&& 1#8) == 1) = false) (w : World) : Calls Try.prog 38 #[.agg (G r), .agg (A8 r), .int .i64 0, .int .u64 (U v)] w fun e w' => e = .returned (.agg (A8 (r))) ∧ More w w' := by
  go_enter Try.func38, Try.ntmps38
  go_wp2_with (first | (go_at_call 39; refine (RBit_7 _ _).mono ?_; rintro e w' ⟨rfl, rfl⟩) | (go_at_call 40; refine (RWay_any _ _).mono ?_; rintro e w' ⟨rfl, rfl⟩) | (go_at_call 41; refine (RAddress_any _ _).mono ?_; rintro e w' ⟨rfl, rfl⟩))
  refine bodyPost_ret (v := .agg (A8 (r))) (by simp [results, Try.results38, go_sem]; rfl) rfl ⟨rfl, (below3 _ _ _ _).alloc _⟩

set_option maxHeartbeats 1000000 in
theorem RAdr_0_nw (r : Regs) (v : BitVec 64) (h1 : (U1 (r.c0 >>> 7 &&& 1#8) == 1) = false) (h2 : (U1 (r.c1 >>> 7 &&& 1#8) == 1) = true) (h3 : (U1 (r.c1 >>> 3 &&& 3#8) == 1) = true) (w : World) : Calls Try.prog 38 #[.agg (G r), .agg (A8 r), .int .i64 0, .int .u64 (U v)] w fun e w' => e = .returned (.agg (A8 (r))) ∧ More w w' := by
  go_enter Try.func38, Try.ntmps38
  go_wp2_with (first | (go_at_call 39; refine (RBit_7 _ _).mono ?_; rintro e w' ⟨rfl, rfl⟩) | (go_at_call 40; refine (RWay_any _ _).mono ?_; rintro e w' ⟨rfl, rfl⟩) | (go_at_call 41; refine (RAddress_any _ _).mono ?_; rintro e w' ⟨rfl, rfl⟩))
  refine bodyPost_ret (v := .agg (A8 (r))) (by simp [results, Try.results38, go_sem]; rfl) rfl ⟨rfl, (below3 _ _ _ _).alloc _⟩

set_option maxHeartbeats 1000000 in
theorem RAdr_0_no (r : Regs) (v : BitVec 64) (h1 : (U1 (r.c0 >>> 7 &&& 1#8) == 1) = false) (h2 : (U1 (r.c1 >>> 7 &&& 1#8) == 1) = true) (h3 : (U1 (r.c1 >>> 3 &&& 3#8) == 1) = false) (w : World) : Calls Try.prog 38 #[.agg (G r), .agg (A8 r), .int .i64 0, .int .u64 (U v)] w fun e w' => e = .returned (.agg (A8 ({ r with a0 := v &&& 18014398509481983#64 }))) ∧ More w w' := by
  go_enter Try.func38, Try.ntmps38
  go_wp2_with (first | (go_at_call 39; refine (RBit_7 _ _).mono ?_; rintro e w' ⟨rfl, rfl⟩) | (go_at_call 40; refine (RWay_any _ _).mono ?_; rintro e w' ⟨rfl, rfl⟩) | (go_at_call 41; refine (RAddress_any _ _).mono ?_; rintro e w' ⟨rfl, rfl⟩))
  refine bodyPost_ret (v := .agg (A8 ({ r with a0 := v &&& 18014398509481983#64 }))) (by simp [results, Try.results38, go_sem]; rfl) rfl ⟨rfl, (below3 _ _ _ _).alloc _⟩

set_option maxHeartbeats 1000000 in
theorem RAdr_0_f (r : Regs) (v : BitVec 64) (h1 : (U1 (r.c0 >>> 7 &&& 1#8) == 1) = false) (h2 : (U1 (r.c1 >>> 7 &&& 1#8) == 1) = false) (w : World) : Calls Try.prog 38 #[.agg (G r), .agg (A8 r), .int .i64 0, .int .u64 (U v)] w fun e w' => e = .returned (.agg (A8 ({ r with a0 := v &&& 18014398509481983#64 }))) ∧ More w w' := by
  go_enter Try.func38, Try.ntmps38
  go_wp2_with (first | (go_at_call 39; refine (RBit_7 _ _).mono ?_; rintro e w' ⟨rfl, rfl⟩) | (go_at_call 40; refine (RWay_any _ _).mono ?_; rintro e w' ⟨rfl, rfl⟩) | (go_at_call 41; refine (RAddress_any _ _).mono ?_; rintro e w' ⟨rfl, rfl⟩))
  refine bodyPost_ret (v := .agg (A8 ({ r with a0 := v &&& 18014398509481983#64 }))) (by simp [results, Try.results38, go_sem]; rfl) rfl ⟨rfl, (below3 _ _ _ _).alloc _⟩

theorem RAdr_0 (r : Regs) (v : BitVec 64) (w : World) : Calls Try.prog 38 #[.agg (G r), .agg (A8 r), .int .i64 0, .int .u64 (U v)] w fun e w' => e = .returned (.agg (A8 (adrW0 r v))) ∧ More w w' := by
  unfold adrW0 nextLocks
  by_cases h1 : r.c0 &&& 128#8 = 0#8
  · by_cases h2 : r.c1 &&& 128#8 = 0#8
    · rw [if_neg (by simp [h1, h2])]
      exact RAdr_0_f r v (by rw [bit7, u1_z _ h1]) (by rw [bit7, u1_z _ h2]) w
    · by_cases h3 : r.c1 >>> 3 &&& 3#8 = 1#8
      · rw [if_pos (.inr ⟨h2, h3⟩)]
        exact RAdr_0_nw r v (by rw [bit7, u1_z _ h1]) (by rw [bit7, u1_nz _ h2]) (u1_eq _ 1#8 1 rfl h3) w
      · rw [if_neg (by simp [h1, h3])]
        exact RAdr_0_no r v (by rw [bit7, u1_z _ h1]) (by rw [bit7, u1_nz _ h2]) (u1_ne _ 1#8 1 rfl h3) w
  · rw [if_pos (.inl h1)]
    by_cases h2 : r.c1 &&& 128#8 = 0#8
    · exact RAdr_0_l1 r v (by rw [bit7, u1_nz _ h1]) (by rw [bit7, u1_z _ h2]) w
    · exact RAdr_0_l0 r v (by rw [bit7, u1_nz _ h1]) (by rw [bit7, u1_nz _ h2]) w

set_option maxHeartbeats 1000000 in
theorem RAdr_1_l0 (r : Regs) (v : BitVec 64) (h1 : (U1 (r.c1 >>> 7 &&& 1#8) == 1) = true) (h2 : (U1 (r.c2 >>> 7 &&& 1#8) == 1) = true) (w : World) : Calls Try.prog 38 #[.agg (G r), .agg (A8 r), .int .i64 1, .int .u64 (U v)] w fun e w' => e = .returned (.agg (A8 (r))) ∧ More w w' := by
  go_enter Try.func38, Try.ntmps38
  go_wp2_with (first | (go_at_call 39; refine (RBit_7 _ _).mono ?_; rintro e w' ⟨rfl, rfl⟩) | (go_at_call 40; refine (RWay_any _ _).mono ?_; rintro e w' ⟨rfl, rfl⟩) | (go_at_call 41; refine (RAddress_any _ _).mono ?_; rintro e w' ⟨rfl, rfl⟩))
  refine bodyPost_ret (v := .agg (A8 (r))) (by simp [results, Try.results38, go_sem]; rfl) rfl ⟨rfl, (below3 _ _ _ _).alloc _⟩

set_option maxHeartbeats 1000000 in
theorem RAdr_1_l1 (r : Regs) (v : BitVec 64) (h1 : (U1 (r.c1 >>> 7 &&& 1#8) == 1) = true) (h2 : (U1 (r.c2 >>> 7 &&& 1#8) == 1) = false) (w : World) : Calls Try.prog 38 #[.agg (G r), .agg (A8 r), .int .i64 1, .int .u64 (U v)] w fun e w' => e = .returned (.agg (A8 (r))) ∧ More w w' := by
  go_enter Try.func38, Try.ntmps38
  go_wp2_with (first | (go_at_call 39; refine (RBit_7 _ _).mono ?_; rintro e w' ⟨rfl, rfl⟩) | (go_at_call 40; refine (RWay_any _ _).mono ?_; rintro e w' ⟨rfl, rfl⟩) | (go_at_call 41; refine (RAddress_any _ _).mono ?_; rintro e w' ⟨rfl, rfl⟩))
  refine bodyPost_ret (v := .agg (A8 (r))) (by simp [results, Try.results38, go_sem]; rfl) rfl ⟨rfl, (below3 _ _ _ _).alloc _⟩

set_option maxHeartbeats 1000000 in
theorem RAdr_1_nw (r : Regs) (v : BitVec 64) (h1 : (U1 (r.c1 >>> 7 &&& 1#8) == 1) = false) (h2 : (U1 (r.c2 >>> 7 &&& 1#8) == 1) = true) (h3 : (U1 (r.c2 >>> 3 &&& 3#8) == 1) = true) (w : World) : Calls Try.prog 38 #[.agg (G r), .agg (A8 r), .int .i64 1, .int .u64 (U v)] w fun e w' => e = .returned (.agg (A8 (r))) ∧ More w w' := by
  go_enter Try.func38, Try.ntmps38
  go_wp2_with (first | (go_at_call 39; refine (RBit_7 _ _).mono ?_; rintro e w' ⟨rfl, rfl⟩) | (go_at_call 40; refine (RWay_any _ _).mono ?_; rintro e w' ⟨rfl, rfl⟩) | (go_at_call 41; refine (RAddress_any _ _).mono ?_; rintro e w' ⟨rfl, rfl⟩))
  refine bodyPost_ret (v := .agg (A8 (r))) (by simp [results, Try.results38, go_sem]; rfl) rfl ⟨rfl, (below3 _ _ _ _).alloc _⟩

set_option maxHeartbeats 1000000 in
theorem RAdr_1_no (r : Regs) (v : BitVec 64) (h1 : (U1 (r.c1 >>> 7 &&& 1#8) == 1) = false) (h2 : (U1 (r.c2 >>> 7 &&& 1#8) == 1) = true) (h3 : (U1 (r.c2 >>> 3 &&& 3#8) == 1) = false) (w : World) : Calls Try.prog 38 #[.agg (G r), .agg (A8 r), .int .i64 1, .int .u64 (U v)] w fun e w' => e = .returned (.agg (A8 ({ r with a1 := v &&& 18014398509481983#64 }))) ∧ More w w' := by
  go_enter Try.func38, Try.ntmps38
  go_wp2_with (first | (go_at_call 39; refine (RBit_7 _ _).mono ?_; rintro e w' ⟨rfl, rfl⟩) | (go_at_call 40; refine (RWay_any _ _).mono ?_; rintro e w' ⟨rfl, rfl⟩) | (go_at_call 41; refine (RAddress_any _ _).mono ?_; rintro e w' ⟨rfl, rfl⟩))
  refine bodyPost_ret (v := .agg (A8 ({ r with a1 := v &&& 18014398509481983#64 }))) (by simp [results, Try.results38, go_sem]; rfl) rfl ⟨rfl, (below3 _ _ _ _).alloc _⟩

set_option maxHeartbeats 1000000 in
theorem RAdr_1_f (r : Regs) (v : BitVec 64) (h1 : (U1 (r.c1 >>> 7 &&& 1#8) == 1) = false) (h2 : (U1 (r.c2 >>> 7 &&& 1#8) == 1) = false) (w : World) : Calls Try.prog 38 #[.agg (G r), .agg (A8 r), .int .i64 1, .int .u64 (U v)] w fun e w' => e = .returned (.agg (A8 ({ r with a1 := v &&& 18014398509481983#64 }))) ∧ More w w' := by
  go_enter Try.func38, Try.ntmps38
  go_wp2_with (first | (go_at_call 39; refine (RBit_7 _ _).mono ?_; rintro e w' ⟨rfl, rfl⟩) | (go_at_call 40; refine (RWay_any _ _).mono ?_; rintro e w' ⟨rfl, rfl⟩) | (go_at_call 41; refine (RAddress_any _ _).mono ?_; rintro e w' ⟨rfl, rfl⟩))
  refine bodyPost_ret (v := .agg (A8 ({ r with a1 := v &&& 18014398509481983#64 }))) (by simp [results, Try.results38, go_sem]; rfl) rfl ⟨rfl, (below3 _ _ _ _).alloc _⟩

theorem RAdr_1 (r : Regs) (v : BitVec 64) (w : World) : Calls Try.prog 38 #[.agg (G r), .agg (A8 r), .int .i64 1, .int .u64 (U v)] w fun e w' => e = .returned (.agg (A8 (adrW1 r v))) ∧ More w w' := by
  unfold adrW1 nextLocks
  by_cases h1 : r.c1 &&& 128#8 = 0#8
  · by_cases h2 : r.c2 &&& 128#8 = 0#8
    · rw [if_neg (by simp [h1, h2])]
      exact RAdr_1_f r v (by rw [bit7, u1_z _ h1]) (by rw [bit7, u1_z _ h2]) w
    · by_cases h3 : r.c2 >>> 3 &&& 3#8 = 1#8
      · rw [if_pos (.inr ⟨h2, h3⟩)]
        exact RAdr_1_nw r v (by rw [bit7, u1_z _ h1]) (by rw [bit7, u1_nz _ h2]) (u1_eq _ 1#8 1 rfl h3) w
      · rw [if_neg (by simp [h1, h3])]
        exact RAdr_1_no r v (by rw [bit7, u1_z _ h1]) (by rw [bit7, u1_nz _ h2]) (u1_ne _ 1#8 1 rfl h3) w
  · rw [if_pos (.inl h1)]
    by_cases h2 : r.c2 &&& 128#8 = 0#8
    · exact RAdr_1_l1 r v (by rw [bit7, u1_nz _ h1]) (by rw [bit7, u1_z _ h2]) w
    · exact RAdr_1_l0 r v (by rw [bit7, u1_nz _ h1]) (by rw [bit7, u1_nz _ h2]) w

set_option maxHeartbeats 1000000 in
theorem RAdr_2_l0 (r : Regs) (v : BitVec 64) (h1 : (U1 (r.c2 >>> 7 &&& 1#8) == 1) = true) (h2 : (U1 (r.c3 >>> 7 &&& 1#8) == 1) = true) (w : World) : Calls Try.prog 38 #[.agg (G r), .agg (A8 r), .int .i64 2, .int .u64 (U v)] w fun e w' => e = .returned (.agg (A8 (r))) ∧ More w w' := by
  go_enter Try.func38, Try.ntmps38
  go_wp2_with (first | (go_at_call 39; refine (RBit_7 _ _).mono ?_; rintro e w' ⟨rfl, rfl⟩) | (go_at_call 40; refine (RWay_any _ _).mono ?_; rintro e w' ⟨rfl, rfl⟩) | (go_at_call 41; refine (RAddress_any _ _).mono ?_; rintro e w' ⟨rfl, rfl⟩))
  refine bodyPost_ret (v := .agg (A8 (r))) (by simp [results, Try.results38, go_sem]; rfl) rfl ⟨rfl, (below3 _ _ _ _).alloc _⟩

set_option maxHeartbeats 1000000 in
theorem RAdr_2_l1 (r : Regs) (v : BitVec 64) (h1 : (U1 (r.c2 >>> 7 &&& 1#8) == 1) = true) (h2 : (U1 (r.c3 >>> 7 &&& 1#8) == 1) = false) (w : World) : Calls Try.prog 38 #[.agg (G r), .agg (A8 r), .int .i64 2, .int .u64 (U v)] w fun e w' => e = .returned (.agg (A8 (r))) ∧ More w w' := by
  go_enter Try.func38, Try.ntmps38
  go_wp2_with (first | (go_at_call 39; refine (RBit_7 _ _).mono ?_; rintro e w' ⟨rfl, rfl⟩) | (go_at_call 40; refine (RWay_any _ _).mono ?_; rintro e w' ⟨rfl, rfl⟩) | (go_at_call 41; refine (RAddress_any _ _).mono ?_; rintro e w' ⟨rfl, rfl⟩))
  refine bodyPost_ret (v := .agg (A8 (r))) (by simp [results, Try.results38, go_sem]; rfl) rfl ⟨rfl, (below3 _ _ _ _).alloc _⟩

set_option maxHeartbeats 1000000 in
theorem RAdr_2_nw (r : Regs) (v : BitVec 64) (h1 : (U1 (r.c2 >>> 7 &&& 1#8) == 1) = false) (h2 : (U1 (r.c3 >>> 7 &&& 1#8) == 1) = true) (h3 : (U1 (r.c3 >>> 3 &&& 3#8) == 1) = true) (w : World) : Calls Try.prog 38 #[.agg (G r), .agg (A8 r), .int .i64 2, .int .u64 (U v)] w fun e w' => e = .returned (.agg (A8 (r))) ∧ More w w' := by
  go_enter Try.func38, Try.ntmps38
  go_wp2_with (first | (go_at_call 39; refine (RBit_7 _ _).mono ?_; rintro e w' ⟨rfl, rfl⟩) | (go_at_call 40; refine (RWay_any _ _).mono ?_; rintro e w' ⟨rfl, rfl⟩) | (go_at_call 41; refine (RAddress_any _ _).mono ?_; rintro e w' ⟨rfl, rfl⟩))
  refine bodyPost_ret (v := .agg (A8 (r))) (by simp [results, Try.results38, go_sem]; rfl) rfl ⟨rfl, (below3 _ _ _ _).alloc _⟩

set_option maxHeartbeats 1000000 in
theorem RAdr_2_no (r : Regs) (v : BitVec 64) (h1 : (U1 (r.c2 >>> 7 &&& 1#8) == 1) = false) (h2 : (U1 (r.c3 >>> 7 &&& 1#8) == 1) = true) (h3 : (U1 (r.c3 >>> 3 &&& 3#8) == 1) = false) (w : World) : Calls Try.prog 38 #[.agg (G r), .agg (A8 r), .int .i64 2, .int .u64 (U v)] w fun e w' => e = .returned (.agg (A8 ({ r with a2 := v &&& 18014398509481983#64 }))) ∧ More w w' := by
  go_enter Try.func38, Try.ntmps38
  go_wp2_with (first | (go_at_call 39; refine (RBit_7 _ _).mono ?_; rintro e w' ⟨rfl, rfl⟩) | (go_at_call 40; refine (RWay_any _ _).mono ?_; rintro e w' ⟨rfl, rfl⟩) | (go_at_call 41; refine (RAddress_any _ _).mono ?_; rintro e w' ⟨rfl, rfl⟩))
  refine bodyPost_ret (v := .agg (A8 ({ r with a2 := v &&& 18014398509481983#64 }))) (by simp [results, Try.results38, go_sem]; rfl) rfl ⟨rfl, (below3 _ _ _ _).alloc _⟩

set_option maxHeartbeats 1000000 in
theorem RAdr_2_f (r : Regs) (v : BitVec 64) (h1 : (U1 (r.c2 >>> 7 &&& 1#8) == 1) = false) (h2 : (U1 (r.c3 >>> 7 &&& 1#8) == 1) = false) (w : World) : Calls Try.prog 38 #[.agg (G r), .agg (A8 r), .int .i64 2, .int .u64 (U v)] w fun e w' => e = .returned (.agg (A8 ({ r with a2 := v &&& 18014398509481983#64 }))) ∧ More w w' := by
  go_enter Try.func38, Try.ntmps38
  go_wp2_with (first | (go_at_call 39; refine (RBit_7 _ _).mono ?_; rintro e w' ⟨rfl, rfl⟩) | (go_at_call 40; refine (RWay_any _ _).mono ?_; rintro e w' ⟨rfl, rfl⟩) | (go_at_call 41; refine (RAddress_any _ _).mono ?_; rintro e w' ⟨rfl, rfl⟩))
  refine bodyPost_ret (v := .agg (A8 ({ r with a2 := v &&& 18014398509481983#64 }))) (by simp [results, Try.results38, go_sem]; rfl) rfl ⟨rfl, (below3 _ _ _ _).alloc _⟩

theorem RAdr_2 (r : Regs) (v : BitVec 64) (w : World) : Calls Try.prog 38 #[.agg (G r), .agg (A8 r), .int .i64 2, .int .u64 (U v)] w fun e w' => e = .returned (.agg (A8 (adrW2 r v))) ∧ More w w' := by
  unfold adrW2 nextLocks
  by_cases h1 : r.c2 &&& 128#8 = 0#8
  · by_cases h2 : r.c3 &&& 128#8 = 0#8
    · rw [if_neg (by simp [h1, h2])]
      exact RAdr_2_f r v (by rw [bit7, u1_z _ h1]) (by rw [bit7, u1_z _ h2]) w
    · by_cases h3 : r.c3 >>> 3 &&& 3#8 = 1#8
      · rw [if_pos (.inr ⟨h2, h3⟩)]
        exact RAdr_2_nw r v (by rw [bit7, u1_z _ h1]) (by rw [bit7, u1_nz _ h2]) (u1_eq _ 1#8 1 rfl h3) w
      · rw [if_neg (by simp [h1, h3])]
        exact RAdr_2_no r v (by rw [bit7, u1_z _ h1]) (by rw [bit7, u1_nz _ h2]) (u1_ne _ 1#8 1 rfl h3) w
  · rw [if_pos (.inl h1)]
    by_cases h2 : r.c3 &&& 128#8 = 0#8
    · exact RAdr_2_l1 r v (by rw [bit7, u1_nz _ h1]) (by rw [bit7, u1_z _ h2]) w
    · exact RAdr_2_l0 r v (by rw [bit7, u1_nz _ h1]) (by rw [bit7, u1_nz _ h2]) w

set_option maxHeartbeats 1000000 in
theorem RAdr_3_l0 (r : Regs) (v : BitVec 64) (h1 : (U1 (r.c3 >>> 7 &&& 1#8) == 1) = true) (h2 : (U1 (r.c4 >>> 7 &&& 1#8) == 1) = true) (w : World) : Calls Try.prog 38 #[.agg (G r), .agg (A8 r), .int .i64 3, .int .u64 (U v)] w fun e w' => e = .returned (.agg (A8 (r))) ∧ More w w' := by
  go_enter Try.func38, Try.ntmps38
  go_wp2_with (first | (go_at_call 39; refine (RBit_7 _ _).mono ?_; rintro e w' ⟨rfl, rfl⟩) | (go_at_call 40; refine (RWay_any _ _).mono ?_; rintro e w' ⟨rfl, rfl⟩) | (go_at_call 41; refine (RAddress_any _ _).mono ?_; rintro e w' ⟨rfl, rfl⟩))
  refine bodyPost_ret (v := .agg (A8 (r))) (by simp [results, Try.results38, go_sem]; rfl) rfl ⟨rfl, (below3 _ _ _ _).alloc _⟩

set_option maxHeartbeats 1000000 in
theorem RAdr_3_l1 (r : Regs) (v : BitVec 64) (h1 : (U1 (r.c3 >>> 7 &&& 1#8) == 1) = true) (h2 : (U1 (r.c4 >>> 7 &&& 1#8) == 1) = false) (w : World) : Calls Try.prog 38 #[.agg (G r), .agg (A8 r), .int .i64 3, .int .u64 (U v)] w fun e w' => e = .returned (.agg (A8 (r))) ∧ More w w' := by
  go_enter Try.func38, Try.ntmps38
  go_wp2_with (first | (go_at_call 39; refine (RBit_7 _ _).mono ?_; rintro e w' ⟨rfl, rfl⟩) | (go_at_call 40; refine (RWay_any _ _).mono ?_; rintro e w' ⟨rfl, rfl⟩) | (go_at_call 41; refine (RAddress_any _ _).mono ?_; rintro e w' ⟨rfl, rfl⟩))
  refine bodyPost_ret (v := .agg (A8 (r))) (by simp [results, Try.results38, go_sem]; rfl) rfl ⟨rfl, (below3 _ _ _ _).alloc _⟩

set_option maxHeartbeats 1000000 in
theorem RAdr_3_nw (r : Regs) (v : BitVec 64) (h1 : (U1 (r.c3 >>> 7 &&& 1#8) == 1) = false) (h2 : (U1 (r.c4 >>> 7 &&& 1#8) == 1) = true) (h3 : (U1 (r.c4 >>> 3 &&& 3#8) == 1) = true) (w : World) : Calls Try.prog 38 #[.agg (G r), .agg (A8 r), .int .i64 3, .int .u64 (U v)] w fun e w' => e = .returned (.agg (A8 (r))) ∧ More w w' := by
  go_enter Try.func38, Try.ntmps38
  go_wp2_with (first | (go_at_call 39; refine (RBit_7 _ _).mono ?_; rintro e w' ⟨rfl, rfl⟩) | (go_at_call 40; refine (RWay_any _ _).mono ?_; rintro e w' ⟨rfl, rfl⟩) | (go_at_call 41; refine (RAddress_any _ _).mono ?_; rintro e w' ⟨rfl, rfl⟩))
  refine bodyPost_ret (v := .agg (A8 (r))) (by simp [results, Try.results38, go_sem]; rfl) rfl ⟨rfl, (below3 _ _ _ _).alloc _⟩

set_option maxHeartbeats 1000000 in
theorem RAdr_3_no (r : Regs) (v : BitVec 64) (h1 : (U1 (r.c3 >>> 7 &&& 1#8) == 1) = false) (h2 : (U1 (r.c4 >>> 7 &&& 1#8) == 1) = true) (h3 : (U1 (r.c4 >>> 3 &&& 3#8) == 1) = false) (w : World) : Calls Try.prog 38 #[.agg (G r), .agg (A8 r), .int .i64 3, .int .u64 (U v)] w fun e w' => e = .returned (.agg (A8 ({ r with a3 := v &&& 18014398509481983#64 }))) ∧ More w w' := by
  go_enter Try.func38, Try.ntmps38
  go_wp2_with (first | (go_at_call 39; refine (RBit_7 _ _).mono ?_; rintro e w' ⟨rfl, rfl⟩) | (go_at_call 40; refine (RWay_any _ _).mono ?_; rintro e w' ⟨rfl, rfl⟩) | (go_at_call 41; refine (RAddress_any _ _).mono ?_; rintro e w' ⟨rfl, rfl⟩))
  refine bodyPost_ret (v := .agg (A8 ({ r with a3 := v &&& 18014398509481983#64 }))) (by simp [results, Try.results38, go_sem]; rfl) rfl ⟨rfl, (below3 _ _ _ _).alloc _⟩

set_option maxHeartbeats 1000000 in
theorem RAdr_3_f (r : Regs) (v : BitVec 64) (h1 : (U1 (r.c3 >>> 7 &&& 1#8) == 1) = false) (h2 : (U1 (r.c4 >>> 7 &&& 1#8) == 1) = false) (w : World) : Calls Try.prog 38 #[.agg (G r), .agg (A8 r), .int .i64 3, .int .u64 (U v)] w fun e w' => e = .returned (.agg (A8 ({ r with a3 := v &&& 18014398509481983#64 }))) ∧ More w w' := by
  go_enter Try.func38, Try.ntmps38
  go_wp2_with (first | (go_at_call 39; refine (RBit_7 _ _).mono ?_; rintro e w' ⟨rfl, rfl⟩) | (go_at_call 40; refine (RWay_any _ _).mono ?_; rintro e w' ⟨rfl, rfl⟩) | (go_at_call 41; refine (RAddress_any _ _).mono ?_; rintro e w' ⟨rfl, rfl⟩))
  refine bodyPost_ret (v := .agg (A8 ({ r with a3 := v &&& 18014398509481983#64 }))) (by simp [results, Try.results38, go_sem]; rfl) rfl ⟨rfl, (below3 _ _ _ _).alloc _⟩

theorem RAdr_3 (r : Regs) (v : BitVec 64) (w : World) : Calls Try.prog 38 #[.agg (G r), .agg (A8 r), .int .i64 3, .int .u64 (U v)] w fun e w' => e = .returned (.agg (A8 (adrW3 r v))) ∧ More w w' := by
  unfold adrW3 nextLocks
  by_cases h1 : r.c3 &&& 128#8 = 0#8
  · by_cases h2 : r.c4 &&& 128#8 = 0#8
    · rw [if_neg (by simp [h1, h2])]
      exact RAdr_3_f r v (by rw [bit7, u1_z _ h1]) (by rw [bit7, u1_z _ h2]) w
    · by_cases h3 : r.c4 >>> 3 &&& 3#8 = 1#8
      · rw [if_pos (.inr ⟨h2, h3⟩)]
        exact RAdr_3_nw r v (by rw [bit7, u1_z _ h1]) (by rw [bit7, u1_nz _ h2]) (u1_eq _ 1#8 1 rfl h3) w
      · rw [if_neg (by simp [h1, h3])]
        exact RAdr_3_no r v (by rw [bit7, u1_z _ h1]) (by rw [bit7, u1_nz _ h2]) (u1_ne _ 1#8 1 rfl h3) w
  · rw [if_pos (.inl h1)]
    by_cases h2 : r.c4 &&& 128#8 = 0#8
    · exact RAdr_3_l1 r v (by rw [bit7, u1_nz _ h1]) (by rw [bit7, u1_z _ h2]) w
    · exact RAdr_3_l0 r v (by rw [bit7, u1_nz _ h1]) (by rw [bit7, u1_nz _ h2]) w

set_option maxHeartbeats 1000000 in
theorem RAdr_4_l0 (r : Regs) (v : BitVec 64) (h1 : (U1 (r.c4 >>> 7 &&& 1#8) == 1) = true) (h2 : (U1 (r.c5 >>> 7 &&& 1#8) == 1) = true) (w : World) : Calls Try.prog 38 #[.agg (G r), .agg (A8 r), .int .i64 4, .int .u64 (U v)] w fun e w' => e = .returned (.agg (A8 (r))) ∧ More w w' := by
  go_enter Try.func38, Try.ntmps38
  go_wp2_with (first | (go_at_call 39; refine (RBit_7 _ _).mono ?_; rintro e w' ⟨rfl, rfl⟩) | (go_at_call 40; refine (RWay_any _ _).mono ?_; rintro e w' ⟨rfl, rfl⟩) | (go_at_call 41; refine (RAddress_any _ _).mono ?_; rintro e w' ⟨rfl, rfl⟩))
  refine bodyPost_ret (v := .agg (A8 (r))) (by simp [results, Try.results38, go_sem]; rfl) rfl ⟨rfl, (below3 _ _ _ _).alloc _⟩

set_option maxHeartbeats 1000000 in
theorem RAdr_4_l1 (r : Regs) (v : BitVec 64) (h1 : (U1 (r.c4 >>> 7 &&& 1#8) == 1) = true) (h2 : (U1 (r.c5 >>> 7 &&& 1#8) == 1) = false) (w : World) : Calls Try.prog 38 #[.agg (G r), .agg (A8 r), .int .i64 4, .int .u64 (U v)] w fun e w' => e = .returned (.agg (A8 (r))) ∧ More w w' := by
  go_enter Try.func38, Try.ntmps38
  go_wp2_with (first | (go_at_call 39; refine (RBit_7 _ _).mono ?_; rintro e w' ⟨rfl, rfl⟩) | (go_at_call 40; refine (RWay_any _ _).mono ?_; rintro e w' ⟨rfl, rfl⟩) | (go_at_call 41; refine (RAddress_any _ _).mono ?_; rintro e w' ⟨rfl, rfl⟩))
  refine bodyPost_ret (v := .agg (A8 (r))) (by simp [results, Try.results38, go_sem]; rfl) rfl ⟨rfl, (below3 _ _ _ _).alloc _⟩

set_option maxHeartbeats 1000000 in
theorem RAdr_4_nw (r : Regs) (v : BitVec 64) (h1 : (U1 (r.c4 >>> 7 &&& 1#8) == 1) = false) (h2 : (U1 (r.c5 >>> 7 &&& 1#8) == 1) = true) (h3 : (U1 (r.c5 >>> 3 &&& 3#8) == 1) = true) (w : World) : Calls Try.prog 38 #[.agg (G r), .agg (A8 r), .int .i64 4, .int .u64 (U v)] w fun e w' => e = .returned (.agg (A8 (r))) ∧ More w w' := by
  go_enter Try.func38, Try.ntmps38
  go_wp2_with (first | (go_at_call 39; refine (RBit_7 _ _).mono ?_; rintro e w' ⟨rfl, rfl⟩) | (go_at_call 40; refine (RWay_any _ _).mono ?_; rintro e w' ⟨rfl, rfl⟩) | (go_at_call 41; refine (RAddress_any _ _).mono ?_; rintro e w' ⟨rfl, rfl⟩))
  refine bodyPost_ret (v := .agg (A8 (r))) (by simp [results, Try.results38, go_sem]; rfl) rfl ⟨rfl, (below3 _ _ _ _).alloc _⟩

set_option maxHeartbeats 1000000 in
theorem RAdr_4_no (r : Regs) (v : BitVec 64) (h1 : (U1 (r.c4 >>> 7 &&& 1#8) == 1) = false) (h2 : (U1 (r.c5 >>> 7 &&& 1#8) == 1) = true) (h3 : (U1 (r.c5 >>> 3 &&& 3#8) == 1) = false) (w : World) : Calls Try.prog 38 #[.agg (G r), .agg (A8 r), .int .i64 4, .int .u64 (U v)] w fun e w' => e = .returned (.agg (A8 ({ r with a4 := v &&& 18014398509481983#64 }))) ∧ More w w' := by
  go_enter Try.func38, Try.ntmps38
  go_wp2_with (first | (go_at_call 39; refine (RBit_7 _ _).mono ?_; rintro e w' ⟨rfl, rfl⟩) | (go_at_call 40; refine (RWay_any _ _).mono ?_; rintro e w' ⟨rfl, rfl⟩) | (go_at_call 41; refine (RAddress_any _ _).mono ?_; rintro e w' ⟨rfl, rfl⟩))
  refine bodyPost_ret (v := .agg (A8 ({ r with a4 := v &&& 18014398509481983#64 }))) (by simp [results, Try.results38, go_sem]; rfl) rfl ⟨rfl, (below3 _ _ _ _).alloc _⟩

set_option maxHeartbeats 1000000 in
theorem RAdr_4_f (r : Regs) (v : BitVec 64) (h1 : (U1 (r.c4 >>> 7 &&& 1#8) == 1) = false) (h2 : (U1 (r.c5 >>> 7 &&& 1#8) == 1) = false) (w : World) : Calls Try.prog 38 #[.agg (G r), .agg (A8 r), .int .i64 4, .int .u64 (U v)] w fun e w' => e = .returned (.agg (A8 ({ r with a4 := v &&& 18014398509481983#64 }))) ∧ More w w' := by
  go_enter Try.func38, Try.ntmps38
  go_wp2_with (first | (go_at_call 39; refine (RBit_7 _ _).mono ?_; rintro e w' ⟨rfl, rfl⟩) | (go_at_call 40; refine (RWay_any _ _).mono ?_; rintro e w' ⟨rfl, rfl⟩) | (go_at_call 41; refine (RAddress_any _ _).mono ?_; rintro e w' ⟨rfl, rfl⟩))
  refine bodyPost_ret (v := .agg (A8 ({ r with a4 := v &&& 18014398509481983#64 }))) (by simp [results, Try.results38, go_sem]; rfl) rfl ⟨rfl, (below3 _ _ _ _).alloc _⟩

theorem RAdr_4 (r : Regs) (v : BitVec 64) (w : World) : Calls Try.prog 38 #[.agg (G r), .agg (A8 r), .int .i64 4, .int .u64 (U v)] w fun e w' => e = .returned (.agg (A8 (adrW4 r v))) ∧ More w w' := by
  unfold adrW4 nextLocks
  by_cases h1 : r.c4 &&& 128#8 = 0#8
  · by_cases h2 : r.c5 &&& 128#8 = 0#8
    · rw [if_neg (by simp [h1, h2])]
      exact RAdr_4_f r v (by rw [bit7, u1_z _ h1]) (by rw [bit7, u1_z _ h2]) w
    · by_cases h3 : r.c5 >>> 3 &&& 3#8 = 1#8
      · rw [if_pos (.inr ⟨h2, h3⟩)]
        exact RAdr_4_nw r v (by rw [bit7, u1_z _ h1]) (by rw [bit7, u1_nz _ h2]) (u1_eq _ 1#8 1 rfl h3) w
      · rw [if_neg (by simp [h1, h3])]
        exact RAdr_4_no r v (by rw [bit7, u1_z _ h1]) (by rw [bit7, u1_nz _ h2]) (u1_ne _ 1#8 1 rfl h3) w
  · rw [if_pos (.inl h1)]
    by_cases h2 : r.c5 &&& 128#8 = 0#8
    · exact RAdr_4_l1 r v (by rw [bit7, u1_nz _ h1]) (by rw [bit7, u1_z _ h2]) w
    · exact RAdr_4_l0 r v (by rw [bit7, u1_nz _ h1]) (by rw [bit7, u1_nz _ h2]) w

set_option maxHeartbeats 1000000 in
theorem RAdr_5_l0 (r : Regs) (v : BitVec 64) (h1 : (U1 (r.c5 >>> 7 &&& 1#8) == 1) = true) (h2 : (U1 (r.c6 >>> 7 &&& 1#8) == 1) = true) (w : World) : Calls Try.prog 38 #[.agg (G r), .agg (A8 r), .int .i64 5, .int .u64 (U v)] w fun e w' => e = .returned (.agg (A8 (r))) ∧ More w w' := by
  go_enter Try.func38, Try.ntmps38
  go_wp2_with (first | (go_at_call 39; refine (RBit_7 _ _).mono ?_; rintro e w' ⟨rfl, rfl⟩) | (go_at_call 40; refine (RWay_any _ _).mono ?_; rintro e w' ⟨rfl, rfl⟩) | (go_at_call 41; refine (RAddress_any _ _).mono ?_; rintro e w' ⟨rfl, rfl⟩))
  refine bodyPost_ret (v := .agg (A8 (r))) (by simp [results, Try.results38, go_sem]; rfl) rfl ⟨rfl, (below3 _ _ _ _).alloc _⟩

set_option maxHeartbeats 1000000 in
theorem RAdr_5_l1 (r : Regs) (v : BitVec 64) (h1 : (U1 (r.c5 >>> 7 &&& 1#8) == 1) = true) (h2 : (U1 (r.c6 >>> 7 &&& 1#8) == 1) = false) (w : World) : Calls Try.prog 38 #[.agg (G r), .agg (A8 r), .int .i64 5, .int .u64 (U v)] w fun e w' => e = .returned (.agg (A8 (r))) ∧ More w w' := by
  go_enter Try.func38, Try.ntmps38
  go_wp2_with (first | (go_at_call 39; refine (RBit_7 _ _).mono ?_; rintro e w' ⟨rfl, rfl⟩) | (go_at_call 40; refine (RWay_any _ _).mono ?_; rintro e w' ⟨rfl, rfl⟩) | (go_at_call 41; refine (RAddress_any _ _).mono ?_; rintro e w' ⟨rfl, rfl⟩))
  refine bodyPost_ret (v := .agg (A8 (r))) (by simp [results, Try.results38, go_sem]; rfl) rfl ⟨rfl, (below3 _ _ _ _).alloc _⟩

set_option maxHeartbeats 1000000 in
theorem RAdr_5_nw (r : Regs) (v : BitVec 64) (h1 : (U1 (r.c5 >>> 7 &&& 1#8) == 1) = false) (h2 : (U1 (r.c6 >>> 7 &&& 1#8) == 1) = true) (h3 : (U1 (r.c6 >>> 3 &&& 3#8) == 1) = true) (w : World) : Calls Try.prog 38 #[.agg (G r), .agg (A8 r), .int .i64 5, .int .u64 (U v)] w fun e w' => e = .returned (.agg (A8 (r))) ∧ More w w' := by
  go_enter Try.func38, Try.ntmps38
  go_wp2_with (first | (go_at_call 39; refine (RBit_7 _ _).mono ?_; rintro e w' ⟨rfl, rfl⟩) | (go_at_call 40; refine (RWay_any _ _).mono ?_; rintro e w' ⟨rfl, rfl⟩) | (go_at_call 41; refine (RAddress_any _ _).mono ?_; rintro e w' ⟨rfl, rfl⟩))
  refine bodyPost_ret (v := .agg (A8 (r))) (by simp [results, Try.results38, go_sem]; rfl) rfl ⟨rfl, (below3 _ _ _ _).alloc _⟩

set_option maxHeartbeats 1000000 in
theorem RAdr_5_no (r : Regs) (v : BitVec 64) (h1 : (U1 (r.c5 >>> 7 &&& 1#8) == 1) = false) (h2 : (U1 (r.c6 >>> 7 &&& 1#8) == 1) = true) (h3 : (U1 (r.c6 >>> 3 &&& 3#8) == 1) = false) (w : World) : Calls Try.prog 38 #[.agg (G r), .agg (A8 r), .int .i64 5, .int .u64 (U v)] w fun e w' => e = .returned (.agg (A8 ({ r with a5 := v &&& 18014398509481983#64 }))) ∧ More w w' := by
  go_enter Try.func38, Try.ntmps38
  go_wp2_with (first | (go_at_call 39; refine (RBit_7 _ _).mono ?_; rintro e w' ⟨rfl, rfl⟩) | (go_at_call 40; refine (RWay_any _ _).mono ?_; rintro e w' ⟨rfl, rfl⟩) | (go_at_call 41; refine (RAddress_any _ _).mono ?_; rintro e w' ⟨rfl, rfl⟩))
  refine bodyPost_ret (v := .agg (A8 ({ r with a5 := v &&& 18014398509481983#64 }))) (by simp [results, Try.results38, go_sem]; rfl) rfl ⟨rfl, (below3 _ _ _ _).alloc _⟩

set_option maxHeartbeats 1000000 in
theorem RAdr_5_f (r : Regs) (v : BitVec 64) (h1 : (U1 (r.c5 >>> 7 &&& 1#8) == 1) = false) (h2 : (U1 (r.c6 >>> 7 &&& 1#8) == 1) = false) (w : World) : Calls Try.prog 38 #[.agg (G r), .agg (A8 r), .int .i64 5, .int .u64 (U v)] w fun e w' => e = .returned (.agg (A8 ({ r with a5 := v &&& 18014398509481983#64 }))) ∧ More w w' := by
  go_enter Try.func38, Try.ntmps38
  go_wp2_with (first | (go_at_call 39; refine (RBit_7 _ _).mono ?_; rintro e w' ⟨rfl, rfl⟩) | (go_at_call 40; refine (RWay_any _ _).mono ?_; rintro e w' ⟨rfl, rfl⟩) | (go_at_call 41; refine (RAddress_any _ _).mono ?_; rintro e w' ⟨rfl, rfl⟩))
  refine bodyPost_ret (v := .agg (A8 ({ r with a5 := v &&& 18014398509481983#64 }))) (by simp [results, Try.results38, go_sem]; rfl) rfl ⟨rfl, (below3 _ _ _ _).alloc _⟩

theorem RAdr_5 (r : Regs) (v : BitVec 64) (w : World) : Calls Try.prog 38 #[.agg (G r), .agg (A8 r), .int .i64 5, .int .u64 (U v)] w fun e w' => e = .returned (.agg (A8 (adrW5 r v))) ∧ More w w' := by
  unfold adrW5 nextLocks
  by_cases h1 : r.c5 &&& 128#8 = 0#8
  · by_cases h2 : r.c6 &&& 128#8 = 0#8
    · rw [if_neg (by simp [h1, h2])]
      exact RAdr_5_f r v (by rw [bit7, u1_z _ h1]) (by rw [bit7, u1_z _ h2]) w
    · by_cases h3 : r.c6 >>> 3 &&& 3#8 = 1#8
      · rw [if_pos (.inr ⟨h2, h3⟩)]
        exact RAdr_5_nw r v (by rw [bit7, u1_z _ h1]) (by rw [bit7, u1_nz _ h2]) (u1_eq _ 1#8 1 rfl h3) w
      · rw [if_neg (by simp [h1, h3])]
        exact RAdr_5_no r v (by rw [bit7, u1_z _ h1]) (by rw [bit7, u1_nz _ h2]) (u1_ne _ 1#8 1 rfl h3) w
  · rw [if_pos (.inl h1)]
    by_cases h2 : r.c6 &&& 128#8 = 0#8
    · exact RAdr_5_l1 r v (by rw [bit7, u1_nz _ h1]) (by rw [bit7, u1_z _ h2]) w
    · exact RAdr_5_l0 r v (by rw [bit7, u1_nz _ h1]) (by rw [bit7, u1_nz _ h2]) w

set_option maxHeartbeats 1000000 in
theorem RAdr_6_l0 (r : Regs) (v : BitVec 64) (h1 : (U1 (r.c6 >>> 7 &&& 1#8) == 1) = true) (h2 : (U1 (r.c7 >>> 7 &&& 1#8) == 1) = true) (w : World) : Calls Try.prog 38 #[.agg (G r), .agg (A8 r), .int .i64 6, .int .u64 (U v)] w fun e w' => e = .returned (.agg (A8 (r))) ∧ More w w' := by
  go_enter Try.func38, Try.ntmps38
  go_wp2_with (first | (go_at_call 39; refine (RBit_7 _ _).mono ?_; rintro e w' ⟨rfl, rfl⟩) | (go_at_call 40; refine (RWay_any _ _).mono ?_; rintro e w' ⟨rfl, rfl⟩) | (go_at_call 41; refine (RAddress_any _ _).mono ?_; rintro e w' ⟨rfl, rfl⟩))
  refine bodyPost_ret (v := .agg (A8 (r))) (by simp [results, Try.results38, go_sem]; rfl) rfl ⟨rfl, (below3 _ _ _ _).alloc _⟩

set_option maxHeartbeats 1000000 in
theorem RAdr_6_l1 (r : Regs) (v : BitVec 64) (h1 : (U1 (r.c6 >>> 7 &&& 1#8) == 1) = true) (h2 : (U1 (r.c7 >>> 7 &&& 1#8) == 1) = false) (w : World) : Calls Try.prog 38 #[.agg (G r), .agg (A8 r), .int .i64 6, .int .u64 (U v)] w fun e w' => e = .returned (.agg (A8 (r))) ∧ More w w' := by
  go_enter Try.func38, Try.ntmps38
  go_wp2_with (first | (go_at_call 39; refine (RBit_7 _ _).mono ?_; rintro e w' ⟨rfl, rfl⟩) | (go_at_call 40; refine (RWay_any _ _).mono ?_; rintro e w' ⟨rfl, rfl⟩) | (go_at_call 41; refine (RAddress_any _ _).mono ?_; rintro e w' ⟨rfl, rfl⟩))
  refine bodyPost_ret (v := .agg (A8 (r))) (by simp [results, Try.results38, go_sem]; rfl) rfl ⟨rfl, (below3 _ _ _ _).alloc _⟩

set_option maxHeartbeats 1000000 in
theorem RAdr_6_nw (r : Regs) (v : BitVec 64) (h1 : (U1 (r.c6 >>> 7 &&& 1#8) == 1) = false) (h2 : (U1 (r.c7 >>> 7 &&& 1#8) == 1) = true) (h3 : (U1 (r.c7 >>> 3 &&& 3#8) == 1) = true) (w : World) : Calls Try.prog 38 #[.agg (G r), .agg (A8 r), .int .i64 6, .int .u64 (U v)] w fun e w' => e = .returned (.agg (A8 (r))) ∧ More w w' := by
  go_enter Try.func38, Try.ntmps38
  go_wp2_with (first | (go_at_call 39; refine (RBit_7 _ _).mono ?_; rintro e w' ⟨rfl, rfl⟩) | (go_at_call 40; refine (RWay_any _ _).mono ?_; rintro e w' ⟨rfl, rfl⟩) | (go_at_call 41; refine (RAddress_any _ _).mono ?_; rintro e w' ⟨rfl, rfl⟩))
  refine bodyPost_ret (v := .agg (A8 (r))) (by simp [results, Try.results38, go_sem]; rfl) rfl ⟨rfl, (below3 _ _ _ _).alloc _⟩

set_option maxHeartbeats 1000000 in
theorem RAdr_6_no (r : Regs) (v : BitVec 64) (h1 : (U1 (r.c6 >>> 7 &&& 1#8) == 1) = false) (h2 : (U1 (r.c7 >>> 7 &&& 1#8) == 1) = true) (h3 : (U1 (r.c7 >>> 3 &&& 3#8) == 1) = false) (w : World) : Calls Try.prog 38 #[.agg (G r), .agg (A8 r), .int .i64 6, .int .u64 (U v)] w fun e w' => e = .returned (.agg (A8 ({ r with a6 := v &&& 18014398509481983#64 }))) ∧ More w w' := by
  go_enter Try.func38, Try.ntmps38
  go_wp2_with (first | (go_at_call 39; refine (RBit_7 _ _).mono ?_; rintro e w' ⟨rfl, rfl⟩) | (go_at_call 40; refine (RWay_any _ _).mono ?_; rintro e w' ⟨rfl, rfl⟩) | (go_at_call 41; refine (RAddress_any _ _).mono ?_; rintro e w' ⟨rfl, rfl⟩))
  refine bodyPost_ret (v := .agg (A8 ({ r with a6 := v &&& 18014398509481983#64 }))) (by simp [results, Try.results38, go_sem]; rfl) rfl ⟨rfl, (below3 _ _ _ _).alloc _⟩

set_option maxHeartbeats 1000000 in
theorem RAdr_6_f (r : Regs) (v : BitVec 64) (h1 : (U1 (r.c6 >>> 7 &&& 1#8) == 1) = false) (h2 : (U1 (r.c7 >>> 7 &&& 1#8) == 1) = false) (w : World) : Calls Try.prog 38 #[.agg (G r), .agg (A8 r), .int .i64 6, .int .u64 (U v)] w fun e w' => e = .returned (.agg (A8 ({ r with a6 := v &&& 18014398509481983#64 }))) ∧ More w w' := by
  go_enter Try.func38, Try.ntmps38
  go_wp2_with (first | (go_at_call 39; refine (RBit_7 _ _).mono ?_; rintro e w' ⟨rfl, rfl⟩) | (go_at_call 40; refine (RWay_any _ _).mono ?_; rintro e w' ⟨rfl, rfl⟩) | (go_at_call 41; refine (RAddress_any _ _).mono ?_; rintro e w' ⟨rfl, rfl⟩))
  refine bodyPost_ret (v := .agg (A8 ({ r with a6 := v &&& 18014398509481983#64 }))) (by simp [results, Try.results38, go_sem]; rfl) rfl ⟨rfl, (below3 _ _ _ _).alloc _⟩

theorem RAdr_6 (r : Regs) (v : BitVec 64) (w : World) : Calls Try.prog 38 #[.agg (G r), .agg (A8 r), .int .i64 6, .int .u64 (U v)] w fun e w' => e = .returned (.agg (A8 (adrW6 r v))) ∧ More w w' := by
  unfold adrW6 nextLocks
  by_cases h1 : r.c6 &&& 128#8 = 0#8
  · by_cases h2 : r.c7 &&& 128#8 = 0#8
    · rw [if_neg (by simp [h1, h2])]
      exact RAdr_6_f r v (by rw [bit7, u1_z _ h1]) (by rw [bit7, u1_z _ h2]) w
    · by_cases h3 : r.c7 >>> 3 &&& 3#8 = 1#8
      · rw [if_pos (.inr ⟨h2, h3⟩)]
        exact RAdr_6_nw r v (by rw [bit7, u1_z _ h1]) (by rw [bit7, u1_nz _ h2]) (u1_eq _ 1#8 1 rfl h3) w
      · rw [if_neg (by simp [h1, h3])]
        exact RAdr_6_no r v (by rw [bit7, u1_z _ h1]) (by rw [bit7, u1_nz _ h2]) (u1_ne _ 1#8 1 rfl h3) w
  · rw [if_pos (.inl h1)]
    by_cases h2 : r.c7 &&& 128#8 = 0#8
    · exact RAdr_6_l1 r v (by rw [bit7, u1_nz _ h1]) (by rw [bit7, u1_z _ h2]) w
    · exact RAdr_6_l0 r v (by rw [bit7, u1_nz _ h1]) (by rw [bit7, u1_nz _ h2]) w

set_option maxHeartbeats 1000000 in
theorem RAdr_7_l (r : Regs) (v : BitVec 64) (h1 : (U1 (r.c7 >>> 7 &&& 1#8) == 1) = true) (w : World) : Calls Try.prog 38 #[.agg (G r), .agg (A8 r), .int .i64 7, .int .u64 (U v)] w fun e w' => e = .returned (.agg (A8 (r))) ∧ More w w' := by
  go_enter Try.func38, Try.ntmps38
  go_wp2_with (first | (go_at_call 39; refine (RBit_7 _ _).mono ?_; rintro e w' ⟨rfl, rfl⟩) | (go_at_call 40; refine (RWay_any _ _).mono ?_; rintro e w' ⟨rfl, rfl⟩) | (go_at_call 41; refine (RAddress_any _ _).mono ?_; rintro e w' ⟨rfl, rfl⟩))
  refine bodyPost_ret (v := .agg (A8 (r))) (by simp [results, Try.results38, go_sem]; rfl) rfl ⟨rfl, (below3 _ _ _ _).alloc _⟩

set_option maxHeartbeats 1000000 in
theorem RAdr_7_f (r : Regs) (v : BitVec 64) (h1 : (U1 (r.c7 >>> 7 &&& 1#8) == 1) = false) (w : World) : Calls Try.prog 38 #[.agg (G r), .agg (A8 r), .int .i64 7, .int .u64 (U v)] w fun e w' => e = .returned (.agg (A8 ({ r with a7 := v &&& 18014398509481983#64 }))) ∧ More w w' := by
  go_enter Try.func38, Try.ntmps38
  go_wp2_with (first | (go_at_call 39; refine (RBit_7 _ _).mono ?_; rintro e w' ⟨rfl, rfl⟩) | (go_at_call 40; refine (RWay_any _ _).mono ?_; rintro e w' ⟨rfl, rfl⟩) | (go_at_call 41; refine (RAddress_any _ _).mono ?_; rintro e w' ⟨rfl, rfl⟩))
  refine bodyPost_ret (v := .agg (A8 ({ r with a7 := v &&& 18014398509481983#64 }))) (by simp [results, Try.results38, go_sem]; rfl) rfl ⟨rfl, (below3 _ _ _ _).alloc _⟩

theorem RAdr_7 (r : Regs) (v : BitVec 64) (w : World) : Calls Try.prog 38 #[.agg (G r), .agg (A8 r), .int .i64 7, .int .u64 (U v)] w fun e w' => e = .returned (.agg (A8 (adrW7 r v))) ∧ More w w' := by
  unfold adrW7
  by_cases h1 : r.c7 &&& 128#8 = 0#8
  · rw [if_neg (by simp [h1])]
    exact RAdr_7_f r v (by rw [bit7, u1_z _ h1]) w
  · rw [if_pos h1]
    exact RAdr_7_l r v (by rw [bit7, u1_nz _ h1]) w

end Go.Proofs.Ytgkajhpmgeofkaa
