/-
  The walks of the document's answer (tandemref05): common, Do, Branch, Atomic, Extend. (Printed by gen_alur4.py.)
-/
import Derived.Test.YtkmdahokomnjcaaAluR3
import Derived.Test.YtkmdahokomnjcaaAluC
namespace Go.Proofs.Ytkmdahokomnjcaa
set_option linter.unusedVariables false
open Go.RowKit

theorem set_Z_add {k : Nat} (hk : k ≤ 64) (x y : BitVec k) : Z ((Z x + Z y).setWidth k) = Z (x + y) := by rw [BitVec.setWidth_add _ _ hk, Z_back hk, Z_back hk]
theorem set_Z_mul {k : Nat} (hk : k ≤ 64) (x y : BitVec k) : Z ((Z x * Z y).setWidth k) = Z (x * y) := by rw [BitVec.setWidth_mul _ _ hk, Z_back hk, Z_back hk]
theorem set_Z_sub {k : Nat} (hk : k ≤ 64) (x y : BitVec k) : Z ((Z x - Z y).setWidth k) = Z (x - y) := by
  rw [BitVec.sub_eq_add_neg, BitVec.setWidth_add _ _ hk, BitVec.setWidth_neg_of_le hk, Z_back hk, Z_back hk, ← BitVec.sub_eq_add_neg]
theorem S_small (z : BitVec 64) (n : Nat) (h : z.toNat = n) (hn : n < 9223372036854775808) : S z = n := by
  unfold S; rw [BitVec.toInt_eq_toNat_cond, h, if_pos (by omega)]
theorem S_mod {k : Nat} (hk : k ≤ 64) (y : BitVec k) (d : BitVec 64) (hd : 0 < d.toNat) (hd2 : d.toNat ≤ 64) : S (Z y % d) = ((y.toNat % d.toNat : Nat) : Int) := by
  have := Nat.mod_lt y.toNat hd
  exact S_small _ _ (by rw [BitVec.toNat_umod, Z_toNat hk]) (by omega)
theorem ones_low32 : (18446744073709551615#64).setWidth 32 = BitVec.allOnes 32 := by decide
theorem ones_low64 : (18446744073709551615#64).setWidth 64 = BitVec.allOnes 64 := by decide

set_option maxHeartbeats 400000 in
theorem common32_add (x y : BitVec 32)  (w : World) : Calls Try.prog 25 #[.int .i64 13, .int .u64 (U (Z x)), .int .u64 (U (Z y)), .int .i64 32] w fun e w' => e = .returned (.tuple #[.int .u64 (U (Z (x + y))), .bool true]) ∧ w = w' := by
  go_enter Try.func25, Try.ntmps25
  go_wp2_with fail
  refine (low_any _ 32 (by decide) _ rfl _).mono ?_; rintro e w' ⟨rfl, rfl⟩
  go_wp2_with fail
  go_ret2
  exact ⟨rret2 (rint (congrArg U (set_Z_add (by decide) x y))) rfl, rfl⟩

set_option maxHeartbeats 400000 in
theorem common32_sub (x y : BitVec 32)  (w : World) : Calls Try.prog 25 #[.int .i64 14, .int .u64 (U (Z x)), .int .u64 (U (Z y)), .int .i64 32] w fun e w' => e = .returned (.tuple #[.int .u64 (U (Z (x - y))), .bool true]) ∧ w = w' := by
  go_enter Try.func25, Try.ntmps25
  go_wp2_with fail
  refine (low_any _ 32 (by decide) _ rfl _).mono ?_; rintro e w' ⟨rfl, rfl⟩
  go_wp2_with fail
  go_ret2
  exact ⟨rret2 (rint (congrArg U (set_Z_sub (by decide) x y))) rfl, rfl⟩

set_option maxHeartbeats 400000 in
theorem common32_mul (x y : BitVec 32)  (w : World) : Calls Try.prog 25 #[.int .i64 23, .int .u64 (U (Z x)), .int .u64 (U (Z y)), .int .i64 32] w fun e w' => e = .returned (.tuple #[.int .u64 (U (Z (x * y))), .bool true]) ∧ w = w' := by
  go_enter Try.func25, Try.ntmps25
  go_wp2_with fail
  refine (product_any _ _ _).mono ?_; rintro e w' ⟨rfl, rfl⟩
  go_wp2_with fail
  refine (low_any _ 32 (by decide) _ rfl _).mono ?_; rintro e w' ⟨rfl, rfl⟩
  go_wp2_with fail
  go_ret2
  exact ⟨rret2 (rint (congrArg U (set_Z_mul (by decide) x y))) rfl, rfl⟩

set_option maxHeartbeats 400000 in
theorem common32_sll (x y : BitVec 32)  (w : World) : Calls Try.prog 25 #[.int .i64 15, .int .u64 (U (Z x)), .int .u64 (U (Z y)), .int .i64 32] w fun e w' => e = .returned (.tuple #[.int .u64 (U (Z (x <<< (y.toNat % 32)))), .bool true]) ∧ w = w' := by
  have t : ¬ U 32#64 = 0 := by decide +kernel
  have g : S (Z y % 32#64) = ((y.toNat % 32 : Nat) : Int) := S_mod (by decide) y 32#64 (by decide) (by decide)
  have gl : y.toNat % 32 ≤ 64 := by omega
  have G := hide g
  clear g
  go_enter Try.func25, Try.ntmps25
  go_wp2_with fail
  refine (shift_sll x (by decide) (by decide) (y.toNat % 32) gl _ G.out _ rfl _).mono ?_; rintro e w' ⟨rfl, rfl⟩
  go_wp2_with fail
  go_ret2
  exact ⟨rret2 (rint (congrArg U (rfl))) rfl, rfl⟩

set_option maxHeartbeats 400000 in
theorem common32_srl (x y : BitVec 32)  (w : World) : Calls Try.prog 25 #[.int .i64 19, .int .u64 (U (Z x)), .int .u64 (U (Z y)), .int .i64 32] w fun e w' => e = .returned (.tuple #[.int .u64 (U (Z (x >>> (y.toNat % 32)))), .bool true]) ∧ w = w' := by
  have t : ¬ U 32#64 = 0 := by decide +kernel
  have g : S (Z y % 32#64) = ((y.toNat % 32 : Nat) : Int) := S_mod (by decide) y 32#64 (by decide) (by decide)
  have gl : y.toNat % 32 ≤ 64 := by omega
  have G := hide g
  clear g
  go_enter Try.func25, Try.ntmps25
  go_wp2_with fail
  refine (shift_srl x (by decide) (by decide) (y.toNat % 32) gl _ G.out _ rfl _).mono ?_; rintro e w' ⟨rfl, rfl⟩
  go_wp2_with fail
  go_ret2
  exact ⟨rret2 (rint (congrArg U (rfl))) rfl, rfl⟩

set_option maxHeartbeats 400000 in
theorem common32_sra (x y : BitVec 32)  (w : World) : Calls Try.prog 25 #[.int .i64 20, .int .u64 (U (Z x)), .int .u64 (U (Z y)), .int .i64 32] w fun e w' => e = .returned (.tuple #[.int .u64 (U (Z (x.sshiftRight (y.toNat % 32)))), .bool true]) ∧ w = w' := by
  have t : ¬ U 32#64 = 0 := by decide +kernel
  have g : S (Z y % 32#64) = ((y.toNat % 32 : Nat) : Int) := S_mod (by decide) y 32#64 (by decide) (by decide)
  have gl : y.toNat % 32 ≤ 64 := by omega
  have G := hide g
  clear g
  go_enter Try.func25, Try.ntmps25
  go_wp2_with fail
  refine (shift_sra x (by decide) (by decide) (y.toNat % 32) gl _ G.out _ rfl _).mono ?_; rintro e w' ⟨rfl, rfl⟩
  go_wp2_with fail
  go_ret2
  exact ⟨rret2 (rint (congrArg U (rfl))) rfl, rfl⟩

set_option maxHeartbeats 400000 in
theorem common32_div0 (x y : BitVec 32) (hy : y = 0#32) (w : World) : Calls Try.prog 25 #[.int .i64 27, .int .u64 (U (Z x)), .int .u64 (U (Z y)), .int .i64 32] w fun e w' => e = .returned (.tuple #[.int .u64 (U (Z (BitVec.allOnes 32))), .bool true]) ∧ w = w' := by
  have t : (U (Z y) == 0) = true := by rw [hy]; decide +kernel
  have HY := hide hy
  clear hy
  go_enter Try.func25, Try.ntmps25
  go_wp2_with fail
  refine (low_any 18446744073709551615#64 32 (by decide) _ rfl _).mono ?_; rintro e w' ⟨rfl, rfl⟩
  go_wp2_with fail
  go_ret2
  exact ⟨rret2 (rint (congrArg U (congrArg Z ones_low32))) rfl, rfl⟩

set_option maxHeartbeats 400000 in
theorem common32_divu0 (x y : BitVec 32) (hy : y = 0#32) (w : World) : Calls Try.prog 25 #[.int .i64 28, .int .u64 (U (Z x)), .int .u64 (U (Z y)), .int .i64 32] w fun e w' => e = .returned (.tuple #[.int .u64 (U (Z (BitVec.allOnes 32))), .bool true]) ∧ w = w' := by
  have t : (U (Z y) == 0) = true := by rw [hy]; decide +kernel
  have HY := hide hy
  clear hy
  go_enter Try.func25, Try.ntmps25
  go_wp2_with fail
  refine (low_any 18446744073709551615#64 32 (by decide) _ rfl _).mono ?_; rintro e w' ⟨rfl, rfl⟩
  go_wp2_with fail
  go_ret2
  exact ⟨rret2 (rint (congrArg U (congrArg Z ones_low32))) rfl, rfl⟩

set_option maxHeartbeats 400000 in
theorem common32_rem0 (x y : BitVec 32) (hy : y = 0#32) (w : World) : Calls Try.prog 25 #[.int .i64 29, .int .u64 (U (Z x)), .int .u64 (U (Z y)), .int .i64 32] w fun e w' => e = .returned (.tuple #[.int .u64 (U (Z (x.srem y))), .bool true]) ∧ w = w' := by
  have t : (U (Z y) == 0) = true := by rw [hy]; decide +kernel
  have HY := hide hy
  clear hy
  go_enter Try.func25, Try.ntmps25
  go_wp2_with fail
  go_ret2
  exact ⟨rret2 (rint (congrArg U (by rw [HY.out]; simp))) rfl, rfl⟩

set_option maxHeartbeats 400000 in
theorem common32_remu0 (x y : BitVec 32) (hy : y = 0#32) (w : World) : Calls Try.prog 25 #[.int .i64 30, .int .u64 (U (Z x)), .int .u64 (U (Z y)), .int .i64 32] w fun e w' => e = .returned (.tuple #[.int .u64 (U (Z (x % y))), .bool true]) ∧ w = w' := by
  have t : (U (Z y) == 0) = true := by rw [hy]; decide +kernel
  have HY := hide hy
  clear hy
  go_enter Try.func25, Try.ntmps25
  go_wp2_with fail
  go_ret2
  exact ⟨rret2 (rint (congrArg U (by rw [HY.out]; simp))) rfl, rfl⟩

set_option maxHeartbeats 400000 in
theorem common32_div1 (x y : BitVec 32) (hy : y ≠ 0#32) (w : World) : Calls Try.prog 25 #[.int .i64 27, .int .u64 (U (Z x)), .int .u64 (U (Z y)), .int .i64 32] w fun e w' => e = .returned (.tuple #[.int .u64 (U (Z (x.sdiv y))), .bool true]) ∧ w = w' := by
  have t : (U (Z y) == 0) = false := by rw [beq_eq_false_iff_ne]; exact fun e => Z_ne (by decide) hy (U_zero.1 e)
  have HY := hide hy
  clear hy
  go_enter Try.func25, Try.ntmps25
  go_wp2_with fail
  refine (signed_any x y (by decide) (by decide) HY _ rfl _).mono ?_; rintro e w' ⟨rfl, rfl⟩
  go_wp2_with fail
  go_ret2
  exact ⟨rret2 (rint (congrArg U (rfl))) rfl, rfl⟩

set_option maxHeartbeats 400000 in
theorem common32_divu1 (x y : BitVec 32) (hy : y ≠ 0#32) (w : World) : Calls Try.prog 25 #[.int .i64 28, .int .u64 (U (Z x)), .int .u64 (U (Z y)), .int .i64 32] w fun e w' => e = .returned (.tuple #[.int .u64 (U (Z (x / y))), .bool true]) ∧ w = w' := by
  have t : (U (Z y) == 0) = false := by rw [beq_eq_false_iff_ne]; exact fun e => Z_ne (by decide) hy (U_zero.1 e)
  have HY := hide hy
  clear hy
  go_enter Try.func25, Try.ntmps25
  go_wp2_with fail
  refine (divide_any x y (by decide) (by decide) HY _ rfl _).mono ?_; rintro e w' ⟨rfl, rfl⟩
  go_wp2_with fail
  go_ret2
  exact ⟨rret2 (rint (congrArg U (rfl))) rfl, rfl⟩

set_option maxHeartbeats 400000 in
theorem common32_rem1 (x y : BitVec 32) (hy : y ≠ 0#32) (w : World) : Calls Try.prog 25 #[.int .i64 29, .int .u64 (U (Z x)), .int .u64 (U (Z y)), .int .i64 32] w fun e w' => e = .returned (.tuple #[.int .u64 (U (Z (x.srem y))), .bool true]) ∧ w = w' := by
  have t : (U (Z y) == 0) = false := by rw [beq_eq_false_iff_ne]; exact fun e => Z_ne (by decide) hy (U_zero.1 e)
  have HY := hide hy
  clear hy
  go_enter Try.func25, Try.ntmps25
  go_wp2_with fail
  refine (signed_any x y (by decide) (by decide) HY _ rfl _).mono ?_; rintro e w' ⟨rfl, rfl⟩
  go_wp2_with fail
  go_ret2
  exact ⟨rret2 (rint (congrArg U (rfl))) rfl, rfl⟩

set_option maxHeartbeats 400000 in
theorem common32_remu1 (x y : BitVec 32) (hy : y ≠ 0#32) (w : World) : Calls Try.prog 25 #[.int .i64 30, .int .u64 (U (Z x)), .int .u64 (U (Z y)), .int .i64 32] w fun e w' => e = .returned (.tuple #[.int .u64 (U (Z (x % y))), .bool true]) ∧ w = w' := by
  have t : (U (Z y) == 0) = false := by rw [beq_eq_false_iff_ne]; exact fun e => Z_ne (by decide) hy (U_zero.1 e)
  have HY := hide hy
  clear hy
  go_enter Try.func25, Try.ntmps25
  go_wp2_with fail
  refine (divide_any x y (by decide) (by decide) HY _ rfl _).mono ?_; rintro e w' ⟨rfl, rfl⟩
  go_wp2_with fail
  go_ret2
  exact ⟨rret2 (rint (congrArg U (rfl))) rfl, rfl⟩

set_option maxHeartbeats 400000 in
theorem common32_none (k : Int) (x y : BitVec 32) (n13 : (k == 13) = false) (n14 : (k == 14) = false) (n23 : (k == 23) = false) (n15 : (k == 15) = false) (n19 : (k == 19) = false) (n20 : (k == 20) = false) (n27 : (k == 27) = false) (n28 : (k == 28) = false) (n29 : (k == 29) = false) (n30 : (k == 30) = false) (w : World) : Calls Try.prog 25 #[.int .i64 k, .int .u64 (U (Z x)), .int .u64 (U (Z y)), .int .i64 32] w fun e w' => e = .returned (.tuple #[.int .u64 (U (Z (0#32))), .bool false]) ∧ w = w' := by
  go_enter Try.func25, Try.ntmps25
  go_wp2_with fail
  go_ret2
  exact ⟨rfl, rfl⟩

theorem common32_any (k : Int) (a b : BitVec 32) (w : World) : Calls Try.prog 25 #[.int .i64 k, .int .u64 (U (Z a)), .int .u64 (U (Z b)), .int .i64 32] w fun e w' => e = .returned (.tuple #[.int .u64 (U (Z (doW k a b).1)), .bool (doW k a b).2]) ∧ w = w' := by
  by_cases k13 : k = 13
  · subst k13; exact common32_add a b w
  by_cases k14 : k = 14
  · subst k14; exact common32_sub a b w
  by_cases k23 : k = 23
  · subst k23; exact common32_mul a b w
  by_cases k15 : k = 15
  · subst k15; exact common32_sll a b w
  by_cases k19 : k = 19
  · subst k19; exact common32_srl a b w
  by_cases k20 : k = 20
  · subst k20; exact common32_sra a b w
  by_cases k27 : k = 27
  · subst k27
    have e : doW 27 a b = (if b = 0#32 then BitVec.allOnes 32 else a.sdiv b, true) := by simp [doW]
    rw [e]
    by_cases hb : b = 0#32
    · rw [if_pos hb]; exact common32_div0 a b hb w
    · rw [if_neg hb]; exact common32_div1 a b hb w
  by_cases k28 : k = 28
  · subst k28
    have e : doW 28 a b = (if b = 0#32 then BitVec.allOnes 32 else a / b, true) := by simp [doW]
    rw [e]
    by_cases hb : b = 0#32
    · rw [if_pos hb]; exact common32_divu0 a b hb w
    · rw [if_neg hb]; exact common32_divu1 a b hb w
  by_cases k29 : k = 29
  · subst k29
    have e : doW 29 a b = (a.srem b, true) := by simp [doW]
    rw [e]
    by_cases hb : b = 0#32
    · exact common32_rem0 a b hb w
    · exact common32_rem1 a b hb w
  by_cases k30 : k = 30
  · subst k30
    have e : doW 30 a b = (a % b, true) := by simp [doW]
    rw [e]
    by_cases hb : b = 0#32
    · exact common32_remu0 a b hb w
    · exact common32_remu1 a b hb w
  have e : doW k a b = (0#32, false) := by simp [doW, k13, k14, k23, k15, k19, k20, k27, k28, k29, k30]
  rw [e]
  exact common32_none k a b (beq_eq_false_iff_ne.2 k13) (beq_eq_false_iff_ne.2 k14) (beq_eq_false_iff_ne.2 k23) (beq_eq_false_iff_ne.2 k15) (beq_eq_false_iff_ne.2 k19) (beq_eq_false_iff_ne.2 k20) (beq_eq_false_iff_ne.2 k27) (beq_eq_false_iff_ne.2 k28) (beq_eq_false_iff_ne.2 k29) (beq_eq_false_iff_ne.2 k30) w

set_option maxHeartbeats 400000 in
theorem common64_add (x y : BitVec 64)  (w : World) : Calls Try.prog 25 #[.int .i64 13, .int .u64 (U (Z x)), .int .u64 (U (Z y)), .int .i64 64] w fun e w' => e = .returned (.tuple #[.int .u64 (U (Z (x + y))), .bool true]) ∧ w = w' := by
  go_enter Try.func25, Try.ntmps25
  go_wp2_with fail
  refine (low_any _ 64 (by decide) _ rfl _).mono ?_; rintro e w' ⟨rfl, rfl⟩
  go_wp2_with fail
  go_ret2
  exact ⟨rret2 (rint (congrArg U (set_Z_add (by decide) x y))) rfl, rfl⟩

set_option maxHeartbeats 400000 in
theorem common64_sub (x y : BitVec 64)  (w : World) : Calls Try.prog 25 #[.int .i64 14, .int .u64 (U (Z x)), .int .u64 (U (Z y)), .int .i64 64] w fun e w' => e = .returned (.tuple #[.int .u64 (U (Z (x - y))), .bool true]) ∧ w = w' := by
  go_enter Try.func25, Try.ntmps25
  go_wp2_with fail
  refine (low_any _ 64 (by decide) _ rfl _).mono ?_; rintro e w' ⟨rfl, rfl⟩
  go_wp2_with fail
  go_ret2
  exact ⟨rret2 (rint (congrArg U (set_Z_sub (by decide) x y))) rfl, rfl⟩

set_option maxHeartbeats 400000 in
theorem common64_mul (x y : BitVec 64)  (w : World) : Calls Try.prog 25 #[.int .i64 23, .int .u64 (U (Z x)), .int .u64 (U (Z y)), .int .i64 64] w fun e w' => e = .returned (.tuple #[.int .u64 (U (Z (x * y))), .bool true]) ∧ w = w' := by
  go_enter Try.func25, Try.ntmps25
  go_wp2_with fail
  refine (product_any _ _ _).mono ?_; rintro e w' ⟨rfl, rfl⟩
  go_wp2_with fail
  refine (low_any _ 64 (by decide) _ rfl _).mono ?_; rintro e w' ⟨rfl, rfl⟩
  go_wp2_with fail
  go_ret2
  exact ⟨rret2 (rint (congrArg U (set_Z_mul (by decide) x y))) rfl, rfl⟩

set_option maxHeartbeats 400000 in
theorem common64_sll (x y : BitVec 64)  (w : World) : Calls Try.prog 25 #[.int .i64 15, .int .u64 (U (Z x)), .int .u64 (U (Z y)), .int .i64 64] w fun e w' => e = .returned (.tuple #[.int .u64 (U (Z (x <<< (y.toNat % 64)))), .bool true]) ∧ w = w' := by
  have t : ¬ U 64#64 = 0 := by decide +kernel
  have g : S (Z y % 64#64) = ((y.toNat % 64 : Nat) : Int) := S_mod (by decide) y 64#64 (by decide) (by decide)
  have gl : y.toNat % 64 ≤ 64 := by omega
  have G := hide g
  clear g
  go_enter Try.func25, Try.ntmps25
  go_wp2_with fail
  refine (shift_sll x (by decide) (by decide) (y.toNat % 64) gl _ G.out _ rfl _).mono ?_; rintro e w' ⟨rfl, rfl⟩
  go_wp2_with fail
  go_ret2
  exact ⟨rret2 (rint (congrArg U (rfl))) rfl, rfl⟩

set_option maxHeartbeats 400000 in
theorem common64_srl (x y : BitVec 64)  (w : World) : Calls Try.prog 25 #[.int .i64 19, .int .u64 (U (Z x)), .int .u64 (U (Z y)), .int .i64 64] w fun e w' => e = .returned (.tuple #[.int .u64 (U (Z (x >>> (y.toNat % 64)))), .bool true]) ∧ w = w' := by
  have t : ¬ U 64#64 = 0 := by decide +kernel
  have g : S (Z y % 64#64) = ((y.toNat % 64 : Nat) : Int) := S_mod (by decide) y 64#64 (by decide) (by decide)
  have gl : y.toNat % 64 ≤ 64 := by omega
  have G := hide g
  clear g
  go_enter Try.func25, Try.ntmps25
  go_wp2_with fail
  refine (shift_srl x (by decide) (by decide) (y.toNat % 64) gl _ G.out _ rfl _).mono ?_; rintro e w' ⟨rfl, rfl⟩
  go_wp2_with fail
  go_ret2
  exact ⟨rret2 (rint (congrArg U (rfl))) rfl, rfl⟩

set_option maxHeartbeats 400000 in
theorem common64_sra (x y : BitVec 64)  (w : World) : Calls Try.prog 25 #[.int .i64 20, .int .u64 (U (Z x)), .int .u64 (U (Z y)), .int .i64 64] w fun e w' => e = .returned (.tuple #[.int .u64 (U (Z (x.sshiftRight (y.toNat % 64)))), .bool true]) ∧ w = w' := by
  have t : ¬ U 64#64 = 0 := by decide +kernel
  have g : S (Z y % 64#64) = ((y.toNat % 64 : Nat) : Int) := S_mod (by decide) y 64#64 (by decide) (by decide)
  have gl : y.toNat % 64 ≤ 64 := by omega
  have G := hide g
  clear g
  go_enter Try.func25, Try.ntmps25
  go_wp2_with fail
  refine (shift_sra x (by decide) (by decide) (y.toNat % 64) gl _ G.out _ rfl _).mono ?_; rintro e w' ⟨rfl, rfl⟩
  go_wp2_with fail
  go_ret2
  exact ⟨rret2 (rint (congrArg U (rfl))) rfl, rfl⟩

set_option maxHeartbeats 400000 in
theorem common64_div0 (x y : BitVec 64) (hy : y = 0#64) (w : World) : Calls Try.prog 25 #[.int .i64 27, .int .u64 (U (Z x)), .int .u64 (U (Z y)), .int .i64 64] w fun e w' => e = .returned (.tuple #[.int .u64 (U (Z (BitVec.allOnes 64))), .bool true]) ∧ w = w' := by
  have t : (U (Z y) == 0) = true := by rw [hy]; decide +kernel
  have HY := hide hy
  clear hy
  go_enter Try.func25, Try.ntmps25
  go_wp2_with fail
  refine (low_any 18446744073709551615#64 64 (by decide) _ rfl _).mono ?_; rintro e w' ⟨rfl, rfl⟩
  go_wp2_with fail
  go_ret2
  exact ⟨rret2 (rint (congrArg U (congrArg Z ones_low64))) rfl, rfl⟩

set_option maxHeartbeats 400000 in
theorem common64_divu0 (x y : BitVec 64) (hy : y = 0#64) (w : World) : Calls Try.prog 25 #[.int .i64 28, .int .u64 (U (Z x)), .int .u64 (U (Z y)), .int .i64 64] w fun e w' => e = .returned (.tuple #[.int .u64 (U (Z (BitVec.allOnes 64))), .bool true]) ∧ w = w' := by
  have t : (U (Z y) == 0) = true := by rw [hy]; decide +kernel
  have HY := hide hy
  clear hy
  go_enter Try.func25, Try.ntmps25
  go_wp2_with fail
  refine (low_any 18446744073709551615#64 64 (by decide) _ rfl _).mono ?_; rintro e w' ⟨rfl, rfl⟩
  go_wp2_with fail
  go_ret2
  exact ⟨rret2 (rint (congrArg U (congrArg Z ones_low64))) rfl, rfl⟩

set_option maxHeartbeats 400000 in
theorem common64_rem0 (x y : BitVec 64) (hy : y = 0#64) (w : World) : Calls Try.prog 25 #[.int .i64 29, .int .u64 (U (Z x)), .int .u64 (U (Z y)), .int .i64 64] w fun e w' => e = .returned (.tuple #[.int .u64 (U (Z (x.srem y))), .bool true]) ∧ w = w' := by
  have t : (U (Z y) == 0) = true := by rw [hy]; decide +kernel
  have HY := hide hy
  clear hy
  go_enter Try.func25, Try.ntmps25
  go_wp2_with fail
  go_ret2
  exact ⟨rret2 (rint (congrArg U (by rw [HY.out]; simp))) rfl, rfl⟩

set_option maxHeartbeats 400000 in
theorem common64_remu0 (x y : BitVec 64) (hy : y = 0#64) (w : World) : Calls Try.prog 25 #[.int .i64 30, .int .u64 (U (Z x)), .int .u64 (U (Z y)), .int .i64 64] w fun e w' => e = .returned (.tuple #[.int .u64 (U (Z (x % y))), .bool true]) ∧ w = w' := by
  have t : (U (Z y) == 0) = true := by rw [hy]; decide +kernel
  have HY := hide hy
  clear hy
  go_enter Try.func25, Try.ntmps25
  go_wp2_with fail
  go_ret2
  exact ⟨rret2 (rint (congrArg U (by rw [HY.out]; simp))) rfl, rfl⟩

set_option maxHeartbeats 400000 in
theorem common64_div1 (x y : BitVec 64) (hy : y ≠ 0#64) (w : World) : Calls Try.prog 25 #[.int .i64 27, .int .u64 (U (Z x)), .int .u64 (U (Z y)), .int .i64 64] w fun e w' => e = .returned (.tuple #[.int .u64 (U (Z (x.sdiv y))), .bool true]) ∧ w = w' := by
  have t : (U (Z y) == 0) = false := by rw [beq_eq_false_iff_ne]; exact fun e => Z_ne (by decide) hy (U_zero.1 e)
  have HY := hide hy
  clear hy
  go_enter Try.func25, Try.ntmps25
  go_wp2_with fail
  refine (signed_any x y (by decide) (by decide) HY _ rfl _).mono ?_; rintro e w' ⟨rfl, rfl⟩
  go_wp2_with fail
  go_ret2
  exact ⟨rret2 (rint (congrArg U (rfl))) rfl, rfl⟩

set_option maxHeartbeats 400000 in
theorem common64_divu1 (x y : BitVec 64) (hy : y ≠ 0#64) (w : World) : Calls Try.prog 25 #[.int .i64 28, .int .u64 (U (Z x)), .int .u64 (U (Z y)), .int .i64 64] w fun e w' => e = .returned (.tuple #[.int .u64 (U (Z (x / y))), .bool true]) ∧ w = w' := by
  have t : (U (Z y) == 0) = false := by rw [beq_eq_false_iff_ne]; exact fun e => Z_ne (by decide) hy (U_zero.1 e)
  have HY := hide hy
  clear hy
  go_enter Try.func25, Try.ntmps25
  go_wp2_with fail
  refine (divide_any x y (by decide) (by decide) HY _ rfl _).mono ?_; rintro e w' ⟨rfl, rfl⟩
  go_wp2_with fail
  go_ret2
  exact ⟨rret2 (rint (congrArg U (rfl))) rfl, rfl⟩

set_option maxHeartbeats 400000 in
theorem common64_rem1 (x y : BitVec 64) (hy : y ≠ 0#64) (w : World) : Calls Try.prog 25 #[.int .i64 29, .int .u64 (U (Z x)), .int .u64 (U (Z y)), .int .i64 64] w fun e w' => e = .returned (.tuple #[.int .u64 (U (Z (x.srem y))), .bool true]) ∧ w = w' := by
  have t : (U (Z y) == 0) = false := by rw [beq_eq_false_iff_ne]; exact fun e => Z_ne (by decide) hy (U_zero.1 e)
  have HY := hide hy
  clear hy
  go_enter Try.func25, Try.ntmps25
  go_wp2_with fail
  refine (signed_any x y (by decide) (by decide) HY _ rfl _).mono ?_; rintro e w' ⟨rfl, rfl⟩
  go_wp2_with fail
  go_ret2
  exact ⟨rret2 (rint (congrArg U (rfl))) rfl, rfl⟩

set_option maxHeartbeats 400000 in
theorem common64_remu1 (x y : BitVec 64) (hy : y ≠ 0#64) (w : World) : Calls Try.prog 25 #[.int .i64 30, .int .u64 (U (Z x)), .int .u64 (U (Z y)), .int .i64 64] w fun e w' => e = .returned (.tuple #[.int .u64 (U (Z (x % y))), .bool true]) ∧ w = w' := by
  have t : (U (Z y) == 0) = false := by rw [beq_eq_false_iff_ne]; exact fun e => Z_ne (by decide) hy (U_zero.1 e)
  have HY := hide hy
  clear hy
  go_enter Try.func25, Try.ntmps25
  go_wp2_with fail
  refine (divide_any x y (by decide) (by decide) HY _ rfl _).mono ?_; rintro e w' ⟨rfl, rfl⟩
  go_wp2_with fail
  go_ret2
  exact ⟨rret2 (rint (congrArg U (rfl))) rfl, rfl⟩

set_option maxHeartbeats 400000 in
theorem common64_none (k : Int) (x y : BitVec 64) (n13 : (k == 13) = false) (n14 : (k == 14) = false) (n23 : (k == 23) = false) (n15 : (k == 15) = false) (n19 : (k == 19) = false) (n20 : (k == 20) = false) (n27 : (k == 27) = false) (n28 : (k == 28) = false) (n29 : (k == 29) = false) (n30 : (k == 30) = false) (w : World) : Calls Try.prog 25 #[.int .i64 k, .int .u64 (U (Z x)), .int .u64 (U (Z y)), .int .i64 64] w fun e w' => e = .returned (.tuple #[.int .u64 (U (Z (0#64))), .bool false]) ∧ w = w' := by
  go_enter Try.func25, Try.ntmps25
  go_wp2_with fail
  go_ret2
  exact ⟨rfl, rfl⟩

theorem common64_any (k : Int) (a b : BitVec 64) (w : World) : Calls Try.prog 25 #[.int .i64 k, .int .u64 (U (Z a)), .int .u64 (U (Z b)), .int .i64 64] w fun e w' => e = .returned (.tuple #[.int .u64 (U (Z (doW k a b).1)), .bool (doW k a b).2]) ∧ w = w' := by
  by_cases k13 : k = 13
  · subst k13; exact common64_add a b w
  by_cases k14 : k = 14
  · subst k14; exact common64_sub a b w
  by_cases k23 : k = 23
  · subst k23; exact common64_mul a b w
  by_cases k15 : k = 15
  · subst k15; exact common64_sll a b w
  by_cases k19 : k = 19
  · subst k19; exact common64_srl a b w
  by_cases k20 : k = 20
  · subst k20; exact common64_sra a b w
  by_cases k27 : k = 27
  · subst k27
    have e : doW 27 a b = (if b = 0#64 then BitVec.allOnes 64 else a.sdiv b, true) := by simp [doW]
    rw [e]
    by_cases hb : b = 0#64
    · rw [if_pos hb]; exact common64_div0 a b hb w
    · rw [if_neg hb]; exact common64_div1 a b hb w
  by_cases k28 : k = 28
  · subst k28
    have e : doW 28 a b = (if b = 0#64 then BitVec.allOnes 64 else a / b, true) := by simp [doW]
    rw [e]
    by_cases hb : b = 0#64
    · rw [if_pos hb]; exact common64_divu0 a b hb w
    · rw [if_neg hb]; exact common64_divu1 a b hb w
  by_cases k29 : k = 29
  · subst k29
    have e : doW 29 a b = (a.srem b, true) := by simp [doW]
    rw [e]
    by_cases hb : b = 0#64
    · exact common64_rem0 a b hb w
    · exact common64_rem1 a b hb w
  by_cases k30 : k = 30
  · subst k30
    have e : doW 30 a b = (a % b, true) := by simp [doW]
    rw [e]
    by_cases hb : b = 0#64
    · exact common64_remu0 a b hb w
    · exact common64_remu1 a b hb w
  have e : doW k a b = (0#64, false) := by simp [doW, k13, k14, k23, k15, k19, k20, k27, k28, k29, k30]
  rw [e]
  exact common64_none k a b (beq_eq_false_iff_ne.2 k13) (beq_eq_false_iff_ne.2 k14) (beq_eq_false_iff_ne.2 k23) (beq_eq_false_iff_ne.2 k15) (beq_eq_false_iff_ne.2 k19) (beq_eq_false_iff_ne.2 k20) (beq_eq_false_iff_ne.2 k27) (beq_eq_false_iff_ne.2 k28) (beq_eq_false_iff_ne.2 k29) (beq_eq_false_iff_ne.2 k30) w

theorem high64 (a : BitVec 64) (w : World) : Calls Try.prog 30 #[.int .u64 (U a), .int .i64 64] w fun e w' => e = .returned (.bool a.msb) ∧ w = w' := by
  have h := high_any a (by decide) (by decide) 64 rfl w
  rwa [Z_64] at h
theorem below64 (a b : BitVec 64) (w : World) : Calls Try.prog 29 #[.int .u64 (U a), .int .u64 (U b), .int .i64 64, .bool true] w fun e w' => e = .returned (.bool (a.slt b)) ∧ w = w' := by
  have h := below_any a b (by decide) (by decide) 64 rfl w
  rwa [Z_64, Z_64] at h
theorem common64 (k : Int) (a b : BitVec 64) (w : World) : Calls Try.prog 25 #[.int .i64 k, .int .u64 (U a), .int .u64 (U b), .int .i64 64] w fun e w' => e = .returned (.tuple #[.int .u64 (U (doW k a b).1), .bool (doW k a b).2]) ∧ w = w' := by
  have h := common64_any k a b w
  rwa [Z_64, Z_64, Z_64] at h
theorem xor_andNot (a b : BitVec 64) : (a &&& ~~~b) ||| (b &&& ~~~a) = a ^^^ b := by
  apply BitVec.eq_of_getLsbD_eq
  intro i hi
  simp only [BitVec.getLsbD_or, BitVec.getLsbD_and, BitVec.getLsbD_not, BitVec.getLsbD_xor, hi, decide_true, Bool.true_and]
  cases a.getLsbD i <;> cases b.getLsbD i <;> rfl

set_option maxHeartbeats 400000 in
theorem RDo_word_true (k : Int) (a b : BitVec 64) (r : BitVec 32) (hr : doW k (a.setWidth 32) (b.setWidth 32) = (r, true)) (w : World) : Calls Try.prog 12 #[.int .i64 k, .bool true, .int .u64 (U a), .int .u64 (U b)] w fun e w' => e = .returned (.tuple #[.int .u64 (U (r.signExtend 64)), .bool true]) ∧ w = w' := by
  have c : ∀ w, Calls Try.prog 25 #[.int .i64 k, .int .u64 (U (Z (a.setWidth 32))), .int .u64 (U (Z (b.setWidth 32))), .int .i64 32] w fun e w' => e = .returned (.tuple #[.int .u64 (U (Z r)), .bool true]) ∧ w = w' := fun w => by
    have h := common32_any k (a.setWidth 32) (b.setWidth 32) w
    rwa [hr] at h
  have C := hide c
  have e1 : (Z r).setWidth 32 = r := Z_back (by decide) r
  have E := hide e1
  clear c hr e1
  go_enter Try.func12, Try.ntmps12
  go_wp2_with fail
  refine (low_any _ 32 (by decide) _ rfl _).mono ?_; rintro e w' ⟨rfl, rfl⟩
  go_wp2_with fail
  refine (low_any _ 32 (by decide) _ rfl _).mono ?_; rintro e w' ⟨rfl, rfl⟩
  go_wp2_with fail
  refine (C.out _).mono ?_; rintro e w' ⟨rfl, rfl⟩
  go_wp2_with fail
  refine (Wide_any _ 32 (by decide) (by decide) _ rfl _).mono ?_; rintro e w' ⟨rfl, rfl⟩
  go_wp2_with fail
  go_ret2
  exact ⟨rret2 (rint (by rw [E.out])) rfl, rfl⟩

set_option maxHeartbeats 400000 in
theorem RDo_word_false (k : Int) (a b : BitVec 64) (r : BitVec 32) (hr : doW k (a.setWidth 32) (b.setWidth 32) = (r, false)) (w : World) : Calls Try.prog 12 #[.int .i64 k, .bool true, .int .u64 (U a), .int .u64 (U b)] w fun e w' => e = .returned (.tuple #[.int .u64 (U (0#64)), .bool false]) ∧ w = w' := by
  have c : ∀ w, Calls Try.prog 25 #[.int .i64 k, .int .u64 (U (Z (a.setWidth 32))), .int .u64 (U (Z (b.setWidth 32))), .int .i64 32] w fun e w' => e = .returned (.tuple #[.int .u64 (U (Z r)), .bool false]) ∧ w = w' := fun w => by
    have h := common32_any k (a.setWidth 32) (b.setWidth 32) w
    rwa [hr] at h
  have C := hide c
  have e1 : (Z r).setWidth 32 = r := Z_back (by decide) r
  have E := hide e1
  clear c hr e1
  go_enter Try.func12, Try.ntmps12
  go_wp2_with fail
  refine (low_any _ 32 (by decide) _ rfl _).mono ?_; rintro e w' ⟨rfl, rfl⟩
  go_wp2_with fail
  refine (low_any _ 32 (by decide) _ rfl _).mono ?_; rintro e w' ⟨rfl, rfl⟩
  go_wp2_with fail
  refine (C.out _).mono ?_; rintro e w' ⟨rfl, rfl⟩
  go_wp2_with fail
  go_ret2
  exact ⟨rfl, rfl⟩

theorem doW_false {k : Int} {x y r : BitVec 32} (h : doW k x y = (r, false)) : r = 0#32 := by
  unfold doW at h
  repeat' (split at h)
  all_goals (first | (injection h with h1 h2; cases h2; done) | (injection h with h1 h2; exact h1.symm))

set_option maxHeartbeats 400000 in
theorem RDo_slt (a b : BitVec 64) (w : World) : Calls Try.prog 12 #[.int .i64 16, .bool false, .int .u64 (U a), .int .u64 (U b)] w fun e w' => e = .returned (.tuple #[.int .u64 (U (bit (a.slt b))), .bool true]) ∧ w = w' := by
  rcases h : a.slt b with _ | _
  all_goals
    have H := hide h
    clear h
    go_enter Try.func12, Try.ntmps12
    go_wp2_with (go_at_call 28; refine (product_any _ _ _).mono ?_; rintro e w' ⟨rfl, rfl⟩)
    refine (below64 _ _ _).mono ?_; rintro e w' ⟨rfl, rfl⟩
    rw [H.out]
    go_wp2_with fail
    go_ret2
    exact ⟨rfl, rfl⟩

set_option maxHeartbeats 400000 in
theorem RDo_sltu (a b : BitVec 64) (w : World) : Calls Try.prog 12 #[.int .i64 17, .bool false, .int .u64 (U a), .int .u64 (U b)] w fun e w' => e = .returned (.tuple #[.int .u64 (U (bit (a.ult b))), .bool true]) ∧ w = w' := by
  have hu := ult_U a b
  rcases h : a.ult b with _ | _
  all_goals
    rw [h] at hu
    have hd := hu.symm
    clear hu h
    simp only [decide_eq_true_eq, decide_eq_false_iff_not] at hd
    go_enter Try.func12, Try.ntmps12
    go_wp2_with (go_at_call 28; refine (product_any _ _ _).mono ?_; rintro e w' ⟨rfl, rfl⟩)
    go_ret2
    exact ⟨rfl, rfl⟩

set_option maxHeartbeats 400000 in
theorem RDo_xor (a b : BitVec 64) (w : World) : Calls Try.prog 12 #[.int .i64 18, .bool false, .int .u64 (U a), .int .u64 (U b)] w fun e w' => e = .returned (.tuple #[.int .u64 (U (a ^^^ b)), .bool true]) ∧ w = w' := by
  go_enter Try.func12, Try.ntmps12
  go_wp2_with (go_at_call 28; refine (product_any _ _ _).mono ?_; rintro e w' ⟨rfl, rfl⟩)
  go_ret2
  exact ⟨rret2 (rint (congrArg U (xor_andNot a b))) rfl, rfl⟩

set_option maxHeartbeats 400000 in
theorem RDo_or (a b : BitVec 64) (w : World) : Calls Try.prog 12 #[.int .i64 21, .bool false, .int .u64 (U a), .int .u64 (U b)] w fun e w' => e = .returned (.tuple #[.int .u64 (U (a ||| b)), .bool true]) ∧ w = w' := by
  go_enter Try.func12, Try.ntmps12
  go_wp2_with (go_at_call 28; refine (product_any _ _ _).mono ?_; rintro e w' ⟨rfl, rfl⟩)
  go_ret2
  exact ⟨rret2 (rint (congrArg U (rfl))) rfl, rfl⟩

set_option maxHeartbeats 400000 in
theorem RDo_and (a b : BitVec 64) (w : World) : Calls Try.prog 12 #[.int .i64 22, .bool false, .int .u64 (U a), .int .u64 (U b)] w fun e w' => e = .returned (.tuple #[.int .u64 (U (a &&& b)), .bool true]) ∧ w = w' := by
  go_enter Try.func12, Try.ntmps12
  go_wp2_with (go_at_call 28; refine (product_any _ _ _).mono ?_; rintro e w' ⟨rfl, rfl⟩)
  go_ret2
  exact ⟨rret2 (rint (congrArg U (rfl))) rfl, rfl⟩

set_option maxHeartbeats 400000 in
theorem RDo_mulh (a b : BitVec 64) (w : World) : Calls Try.prog 12 #[.int .i64 24, .bool false, .int .u64 (U a), .int .u64 (U b)] w fun e w' => e = .returned (.tuple #[.int .u64 (U (mulHi a b - some_ b.msb a - some_ a.msb b)), .bool true]) ∧ w = w' := by
  rcases h : a.msb with _ | _ <;> rcases g : b.msb with _ | _
  all_goals
    have H := hide h
    have G := hide g
    clear h g
    go_enter Try.func12, Try.ntmps12
    go_wp2_with (go_at_call 28; refine (product_any _ _ _).mono ?_; rintro e w' ⟨rfl, rfl⟩)
    refine (high64 _ _).mono ?_; rintro e w' ⟨rfl, rfl⟩
    rw [H.out]
    go_wp2_with fail
    refine (high64 _ _).mono ?_; rintro e w' ⟨rfl, rfl⟩
    rw [G.out]
    go_wp2_with fail
    go_ret2
    exact ⟨rret2 (rint (congrArg U (by first | (simp [some_]; done) | (simp only [some_, if_true]; rw [BitVec.sub_sub, BitVec.sub_sub, BitVec.add_comm])))) rfl, rfl⟩

set_option maxHeartbeats 400000 in
theorem RDo_mulhsu (a b : BitVec 64) (w : World) : Calls Try.prog 12 #[.int .i64 25, .bool false, .int .u64 (U a), .int .u64 (U b)] w fun e w' => e = .returned (.tuple #[.int .u64 (U (mulHi a b - some_ a.msb b)), .bool true]) ∧ w = w' := by
  rcases h : a.msb with _ | _
  all_goals
    have H := hide h
    clear h
    go_enter Try.func12, Try.ntmps12
    go_wp2_with (go_at_call 28; refine (product_any _ _ _).mono ?_; rintro e w' ⟨rfl, rfl⟩)
    refine (high64 _ _).mono ?_; rintro e w' ⟨rfl, rfl⟩
    rw [H.out]
    go_wp2_with fail
    go_ret2
    exact ⟨rret2 (rint (congrArg U (by simp [some_]))) rfl, rfl⟩

set_option maxHeartbeats 400000 in
theorem RDo_mulhu (a b : BitVec 64) (w : World) : Calls Try.prog 12 #[.int .i64 26, .bool false, .int .u64 (U a), .int .u64 (U b)] w fun e w' => e = .returned (.tuple #[.int .u64 (U (mulHi a b)), .bool true]) ∧ w = w' := by
  go_enter Try.func12, Try.ntmps12
  go_wp2_with (go_at_call 28; refine (product_any _ _ _).mono ?_; rintro e w' ⟨rfl, rfl⟩)
  go_ret2
  exact ⟨rret2 (rint (congrArg U (rfl))) rfl, rfl⟩

set_option maxHeartbeats 400000 in
theorem RDo_rest (k : Int) (a b : BitVec 64) (n16 : (k == 16) = false) (n17 : (k == 17) = false) (n18 : (k == 18) = false) (n21 : (k == 21) = false) (n22 : (k == 22) = false) (n24 : (k == 24) = false) (n25 : (k == 25) = false) (n26 : (k == 26) = false) (w : World) : Calls Try.prog 12 #[.int .i64 k, .bool false, .int .u64 (U a), .int .u64 (U b)] w fun e w' => e = .returned (.tuple #[.int .u64 (U (doW k a b).1), .bool (doW k a b).2]) ∧ w = w' := by
  go_enter Try.func12, Try.ntmps12
  go_wp2_with (first | (go_at_call 28; refine (product_any _ _ _).mono ?_; rintro e w' ⟨rfl, rfl⟩) | (go_at_call 25; refine (common64 _ _ _ _).mono ?_; rintro e w' ⟨rfl, rfl⟩))
  go_ret2
  exact ⟨rfl, rfl⟩

theorem RDo_any (k : Int) (word : Bool) (a b : BitVec 64) (w : World) : Calls Try.prog 12 #[.int .i64 k, .bool word, .int .u64 (U a), .int .u64 (U b)] w fun e w' => e = .returned (.tuple #[.int .u64 (U (doD k word a b).1), .bool (doD k word a b).2]) ∧ w = w' := by
  cases word
  · by_cases k16 : k = 16
    · subst k16; exact RDo_slt a b w
    by_cases k17 : k = 17
    · subst k17; exact RDo_sltu a b w
    by_cases k18 : k = 18
    · subst k18; exact RDo_xor a b w
    by_cases k21 : k = 21
    · subst k21; exact RDo_or a b w
    by_cases k22 : k = 22
    · subst k22; exact RDo_and a b w
    by_cases k24 : k = 24
    · subst k24; exact RDo_mulh a b w
    by_cases k25 : k = 25
    · subst k25; exact RDo_mulhsu a b w
    by_cases k26 : k = 26
    · subst k26; exact RDo_mulhu a b w
    have e : doD k false a b = doW k a b := by simp [doD, k16, k17, k18, k21, k22, k24, k25, k26]
    rw [e]
    exact RDo_rest k a b (beq_eq_false_iff_ne.2 k16) (beq_eq_false_iff_ne.2 k17) (beq_eq_false_iff_ne.2 k18) (beq_eq_false_iff_ne.2 k21) (beq_eq_false_iff_ne.2 k22) (beq_eq_false_iff_ne.2 k24) (beq_eq_false_iff_ne.2 k25) (beq_eq_false_iff_ne.2 k26) w
  · have e : doD k true a b = ((doW k (a.setWidth 32) (b.setWidth 32)).1.signExtend 64, (doW k (a.setWidth 32) (b.setWidth 32)).2) := by simp [doD]
    rw [e]
    rcases h : doW k (a.setWidth 32) (b.setWidth 32) with ⟨r, _ | _⟩
    · have h0 := doW_false h
      subst h0
      exact RDo_word_false k a b _ h w
    · exact RDo_word_true k a b r h w

set_option maxHeartbeats 400000 in
theorem RBranch_5 (a b : BitVec 64) (w : World) : Calls Try.prog 15 #[.int .i64 5, .int .u64 (U a), .int .u64 (U b)] w fun e w' => e = .returned (.tuple #[.bool (a == b), .bool true]) ∧ w = w' := by
  go_enter Try.func15, Try.ntmps15
  go_wp2_with (go_at_call 29; refine (below64 _ _ _).mono ?_; rintro e w' ⟨rfl, rfl⟩)
  go_ret2
  exact ⟨rret2 (rbool (U_beq a b)) rfl, rfl⟩

set_option maxHeartbeats 400000 in
theorem RBranch_6 (a b : BitVec 64) (w : World) : Calls Try.prog 15 #[.int .i64 6, .int .u64 (U a), .int .u64 (U b)] w fun e w' => e = .returned (.tuple #[.bool (a != b), .bool true]) ∧ w = w' := by
  go_enter Try.func15, Try.ntmps15
  go_wp2_with (go_at_call 29; refine (below64 _ _ _).mono ?_; rintro e w' ⟨rfl, rfl⟩)
  go_ret2
  exact ⟨rret2 (rbool (U_bne a b)) rfl, rfl⟩

set_option maxHeartbeats 400000 in
theorem RBranch_7 (a b : BitVec 64) (w : World) : Calls Try.prog 15 #[.int .i64 7, .int .u64 (U a), .int .u64 (U b)] w fun e w' => e = .returned (.tuple #[.bool (a.slt b), .bool true]) ∧ w = w' := by
  go_enter Try.func15, Try.ntmps15
  go_wp2_with (go_at_call 29; refine (below64 _ _ _).mono ?_; rintro e w' ⟨rfl, rfl⟩)
  go_ret2
  exact ⟨rret2 (rbool (rfl)) rfl, rfl⟩

set_option maxHeartbeats 400000 in
theorem RBranch_8 (a b : BitVec 64) (w : World) : Calls Try.prog 15 #[.int .i64 8, .int .u64 (U a), .int .u64 (U b)] w fun e w' => e = .returned (.tuple #[.bool (!a.slt b), .bool true]) ∧ w = w' := by
  go_enter Try.func15, Try.ntmps15
  go_wp2_with (go_at_call 29; refine (below64 _ _ _).mono ?_; rintro e w' ⟨rfl, rfl⟩)
  go_ret2
  exact ⟨rret2 (rbool (rfl)) rfl, rfl⟩

set_option maxHeartbeats 400000 in
theorem RBranch_9 (a b : BitVec 64) (w : World) : Calls Try.prog 15 #[.int .i64 9, .int .u64 (U a), .int .u64 (U b)] w fun e w' => e = .returned (.tuple #[.bool (a.ult b), .bool true]) ∧ w = w' := by
  go_enter Try.func15, Try.ntmps15
  go_wp2_with (go_at_call 29; refine (below64 _ _ _).mono ?_; rintro e w' ⟨rfl, rfl⟩)
  go_ret2
  exact ⟨rret2 (rbool ((ult_U a b).symm)) rfl, rfl⟩

set_option maxHeartbeats 400000 in
theorem RBranch_10 (a b : BitVec 64) (w : World) : Calls Try.prog 15 #[.int .i64 10, .int .u64 (U a), .int .u64 (U b)] w fun e w' => e = .returned (.tuple #[.bool (!a.ult b), .bool true]) ∧ w = w' := by
  go_enter Try.func15, Try.ntmps15
  go_wp2_with (go_at_call 29; refine (below64 _ _ _).mono ?_; rintro e w' ⟨rfl, rfl⟩)
  go_ret2
  exact ⟨rret2 (rbool (by rw [ult_U, ← decide_not]; exact decide_eq_decide.2 Int.not_lt.symm)) rfl, rfl⟩

set_option maxHeartbeats 400000 in
theorem RBranch_none (k : Int) (a b : BitVec 64) (n5 : (k == 5) = false) (n6 : (k == 6) = false) (n7 : (k == 7) = false) (n8 : (k == 8) = false) (n9 : (k == 9) = false) (n10 : (k == 10) = false) (w : World) : Calls Try.prog 15 #[.int .i64 k, .int .u64 (U a), .int .u64 (U b)] w fun e w' => e = .returned (.tuple #[.bool false, .bool false]) ∧ w = w' := by
  go_enter Try.func15, Try.ntmps15
  go_wp2_with (go_at_call 29; refine (below64 _ _ _).mono ?_; rintro e w' ⟨rfl, rfl⟩)
  go_ret2
  exact ⟨rfl, rfl⟩

theorem RBranch_any (k : Int) (a b : BitVec 64) (w : World) : Calls Try.prog 15 #[.int .i64 k, .int .u64 (U a), .int .u64 (U b)] w fun e w' => e = .returned (.tuple #[.bool (brD k a b).1, .bool (brD k a b).2]) ∧ w = w' := by
  by_cases k5 : k = 5
  · subst k5; exact RBranch_5 a b w
  by_cases k6 : k = 6
  · subst k6; exact RBranch_6 a b w
  by_cases k7 : k = 7
  · subst k7; exact RBranch_7 a b w
  by_cases k8 : k = 8
  · subst k8; exact RBranch_8 a b w
  by_cases k9 : k = 9
  · subst k9; exact RBranch_9 a b w
  by_cases k10 : k = 10
  · subst k10; exact RBranch_10 a b w
  have e : brD k a b = (false, false) := by simp [brD, k5, k6, k7, k8, k9, k10]
  rw [e]
  exact RBranch_none k a b (beq_eq_false_iff_ne.2 k5) (beq_eq_false_iff_ne.2 k6) (beq_eq_false_iff_ne.2 k7) (beq_eq_false_iff_ne.2 k8) (beq_eq_false_iff_ne.2 k9) (beq_eq_false_iff_ne.2 k10) w

set_option maxHeartbeats 400000 in
theorem RExtend_1_true (v : BitVec 64) (w : World) : Calls Try.prog 19 #[.int .u64 (U v), .int .i64 1, .bool true] w fun e w' => e = .returned (.tuple #[.int .u64 (U (Z (v.setWidth 8))), .bool true]) ∧ w = w' := by
  go_enter Try.func19, Try.ntmps19
  go_wp2_with fail
  refine (low_any _ 8 (by decide) _ rfl _).mono ?_; rintro e w' ⟨rfl, rfl⟩
  go_wp2_with fail
  go_ret2
  exact ⟨rfl, rfl⟩

set_option maxHeartbeats 400000 in
theorem RExtend_1_false (v : BitVec 64) (w : World) : Calls Try.prog 19 #[.int .u64 (U v), .int .i64 1, .bool false] w fun e w' => e = .returned (.tuple #[.int .u64 (U ((v.setWidth 8).signExtend 64)), .bool true]) ∧ w = w' := by
  go_enter Try.func19, Try.ntmps19
  go_wp2_with fail
  refine (Wide_any _ 8 (by decide) (by decide) _ rfl _).mono ?_; rintro e w' ⟨rfl, rfl⟩
  go_wp2_with fail
  go_ret2
  exact ⟨rfl, rfl⟩

set_option maxHeartbeats 400000 in
theorem RExtend_2_true (v : BitVec 64) (w : World) : Calls Try.prog 19 #[.int .u64 (U v), .int .i64 2, .bool true] w fun e w' => e = .returned (.tuple #[.int .u64 (U (Z (v.setWidth 16))), .bool true]) ∧ w = w' := by
  go_enter Try.func19, Try.ntmps19
  go_wp2_with fail
  refine (low_any _ 16 (by decide) _ rfl _).mono ?_; rintro e w' ⟨rfl, rfl⟩
  go_wp2_with fail
  go_ret2
  exact ⟨rfl, rfl⟩

set_option maxHeartbeats 400000 in
theorem RExtend_2_false (v : BitVec 64) (w : World) : Calls Try.prog 19 #[.int .u64 (U v), .int .i64 2, .bool false] w fun e w' => e = .returned (.tuple #[.int .u64 (U ((v.setWidth 16).signExtend 64)), .bool true]) ∧ w = w' := by
  go_enter Try.func19, Try.ntmps19
  go_wp2_with fail
  refine (Wide_any _ 16 (by decide) (by decide) _ rfl _).mono ?_; rintro e w' ⟨rfl, rfl⟩
  go_wp2_with fail
  go_ret2
  exact ⟨rfl, rfl⟩

set_option maxHeartbeats 400000 in
theorem RExtend_4_true (v : BitVec 64) (w : World) : Calls Try.prog 19 #[.int .u64 (U v), .int .i64 4, .bool true] w fun e w' => e = .returned (.tuple #[.int .u64 (U (Z (v.setWidth 32))), .bool true]) ∧ w = w' := by
  go_enter Try.func19, Try.ntmps19
  go_wp2_with fail
  refine (low_any _ 32 (by decide) _ rfl _).mono ?_; rintro e w' ⟨rfl, rfl⟩
  go_wp2_with fail
  go_ret2
  exact ⟨rfl, rfl⟩

set_option maxHeartbeats 400000 in
theorem RExtend_4_false (v : BitVec 64) (w : World) : Calls Try.prog 19 #[.int .u64 (U v), .int .i64 4, .bool false] w fun e w' => e = .returned (.tuple #[.int .u64 (U ((v.setWidth 32).signExtend 64)), .bool true]) ∧ w = w' := by
  go_enter Try.func19, Try.ntmps19
  go_wp2_with fail
  refine (Wide_any _ 32 (by decide) (by decide) _ rfl _).mono ?_; rintro e w' ⟨rfl, rfl⟩
  go_wp2_with fail
  go_ret2
  exact ⟨rfl, rfl⟩

set_option maxHeartbeats 400000 in
theorem RExtend_8_true (v : BitVec 64) (w : World) : Calls Try.prog 19 #[.int .u64 (U v), .int .i64 8, .bool true] w fun e w' => e = .returned (.tuple #[.int .u64 (U (Z (v.setWidth 64))), .bool true]) ∧ w = w' := by
  go_enter Try.func19, Try.ntmps19
  go_wp2_with fail
  refine (low_any _ 64 (by decide) _ rfl _).mono ?_; rintro e w' ⟨rfl, rfl⟩
  go_wp2_with fail
  go_ret2
  exact ⟨rfl, rfl⟩

set_option maxHeartbeats 400000 in
theorem RExtend_8_false (v : BitVec 64) (w : World) : Calls Try.prog 19 #[.int .u64 (U v), .int .i64 8, .bool false] w fun e w' => e = .returned (.tuple #[.int .u64 (U (v)), .bool true]) ∧ w = w' := by
  go_enter Try.func19, Try.ntmps19
  go_wp2_with fail
  refine (Wide_any _ 64 (by decide) (by decide) _ rfl _).mono ?_; rintro e w' ⟨rfl, rfl⟩
  go_wp2_with fail
  go_ret2
  exact ⟨rfl, rfl⟩

set_option maxHeartbeats 400000 in
theorem RExtend_none (v : BitVec 64) (size : Int) (unsigned : Bool) (n1 : (size != 1) = true) (n2 : (size != 2) = true) (n4 : (size != 4) = true) (n8 : (size != 8) = true) (w : World) : Calls Try.prog 19 #[.int .u64 (U v), .int .i64 size, .bool unsigned] w fun e w' => e = .returned (.tuple #[.int .u64 (U 0#64), .bool false]) ∧ w = w' := by
  go_enter Try.func19, Try.ntmps19
  go_wp2_with fail
  go_ret2
  exact ⟨rfl, rfl⟩

theorem RExtend_any (v : BitVec 64) (size : Int) (unsigned : Bool) (w : World) : Calls Try.prog 19 #[.int .u64 (U v), .int .i64 size, .bool unsigned] w fun e w' => e = .returned (.tuple #[.int .u64 (U (extD v size unsigned).1), .bool (extD v size unsigned).2]) ∧ w = w' := by
  by_cases h1 : size = 1
  · subst h1; cases unsigned
    · exact RExtend_1_false v w
    · exact RExtend_1_true v w

  by_cases h2 : size = 2
  · subst h2; cases unsigned
    · exact RExtend_2_false v w
    · exact RExtend_2_true v w

  by_cases h4 : size = 4
  · subst h4; cases unsigned
    · exact RExtend_4_false v w
    · exact RExtend_4_true v w

  by_cases h8 : size = 8
  · subst h8; cases unsigned
    · exact RExtend_8_false v w
    · have h := RExtend_8_true v w; have e : Z (v.setWidth 64) = v := by simp [Z]

      rw [e] at h; exact h
  have e : extD v size unsigned = (0#64, false) := by simp [extD, h1, h2, h4, h8]
  rw [e]
  exact RExtend_none v size unsigned (by simpa using h1) (by simpa using h2) (by simpa using h4) (by simpa using h8) w

end Go.Proofs.Ytkmdahokomnjcaa