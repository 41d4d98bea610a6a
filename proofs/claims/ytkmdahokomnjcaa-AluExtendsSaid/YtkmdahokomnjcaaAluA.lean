/-
  The walks of package alu's own functions: what each call comes to. (Printed by gen_alua.py.)
-/
import Derived.Test.YtkmdahokomnjcaaProg
import Derived.Test.YtkmdahokomnjcaaAluSpec
namespace Go.Proofs.Ytkmdahokomnjcaa
open Go.RowKit

theorem ret2 {a b : Value} {c d : Value} (h : a = c) (g : b = d) : Ending.returned (.tuple #[a, b]) = Ending.returned (.tuple #[c, d]) := by rw [h, g]
theorem ret1 {a b : Value} (h : a = b) : Ending.returned a = Ending.returned b := by rw [h]
theorem int_eq {k : IntKind} {a b : Int} (h : a = b) : Value.int k a = Value.int k b := by rw [h]
theorem bool_eq {a b : Bool} (h : a = b) : Value.bool a = Value.bool b := by rw [h]

set_option maxHeartbeats 400000 in
theorem truth_any (b : Bool) (w : World) : Calls Try.prog 22 #[.bool b] w fun e w' => e = .returned (.int .u64 (U (bit b))) ∧ w = w' := by
  cases b <;> (go_enter Try.func22, Try.ntmps22; go_wp2; go_ret; exact ⟨rfl, rfl⟩)

set_option maxHeartbeats 400000 in
theorem mul64_any (x y : BitVec 64) (w : World) : Calls Try.prog 31 #[.int .u64 (U x), .int .u64 (U y)] w fun e w' => e = .returned (.tuple #[.int .u64 (U (mulHi x y)), .int .u64 (U (x * y))]) ∧ w = w' := by
  have H := hide (mul64_eq x y)
  go_enter Try.func31, Try.ntmps31
  go_wp2
  go_ret2
  refine ⟨ret2 (int_eq ?_) rfl, rfl⟩
  rw [← H.out]

set_option maxHeartbeats 400000 in
theorem do64_add (a b : BitVec 64)  (w : World) : Calls Try.prog 24 #[.int .i64 13, .int .u64 (U a), .int .u64 (U b), .int .u64 64] w fun e w' => e = .returned (.tuple #[.int .u64 (U (a + b)), .bool true]) ∧ w = w' := by
  go_enter Try.func24, Try.ntmps24
  go_wp2
  go_ret2
  exact ⟨ret2 (int_eq (congrArg U (rfl))) rfl, rfl⟩

set_option maxHeartbeats 400000 in
theorem do64_sub (a b : BitVec 64)  (w : World) : Calls Try.prog 24 #[.int .i64 14, .int .u64 (U a), .int .u64 (U b), .int .u64 64] w fun e w' => e = .returned (.tuple #[.int .u64 (U (a - b)), .bool true]) ∧ w = w' := by
  go_enter Try.func24, Try.ntmps24
  go_wp2
  go_ret2
  exact ⟨ret2 (int_eq (congrArg U (rfl))) rfl, rfl⟩

set_option maxHeartbeats 400000 in
theorem do64_mul (a b : BitVec 64)  (w : World) : Calls Try.prog 24 #[.int .i64 23, .int .u64 (U a), .int .u64 (U b), .int .u64 64] w fun e w' => e = .returned (.tuple #[.int .u64 (U (a * b)), .bool true]) ∧ w = w' := by
  go_enter Try.func24, Try.ntmps24
  go_wp2
  go_ret2
  exact ⟨ret2 (int_eq (congrArg U (rfl))) rfl, rfl⟩

set_option maxHeartbeats 400000 in
theorem do64_sll (a b : BitVec 64)  (w : World) : Calls Try.prog 24 #[.int .i64 15, .int .u64 (U a), .int .u64 (U b), .int .u64 64] w fun e w' => e = .returned (.tuple #[.int .u64 (U (a <<< (b.toNat % 64))), .bool true]) ∧ w = w' := by
  go_enter Try.func24, Try.ntmps24
  go_wp2
  go_ret2
  exact ⟨ret2 (int_eq (congrArg U (by rw [and_63 b]))) rfl, rfl⟩

set_option maxHeartbeats 400000 in
theorem do64_srl (a b : BitVec 64)  (w : World) : Calls Try.prog 24 #[.int .i64 19, .int .u64 (U a), .int .u64 (U b), .int .u64 64] w fun e w' => e = .returned (.tuple #[.int .u64 (U (a >>> (b.toNat % 64))), .bool true]) ∧ w = w' := by
  go_enter Try.func24, Try.ntmps24
  go_wp2
  go_ret2
  exact ⟨ret2 (int_eq (congrArg U (by rw [and_63 b]))) rfl, rfl⟩

set_option maxHeartbeats 400000 in
theorem do64_sra (a b : BitVec 64)  (w : World) : Calls Try.prog 24 #[.int .i64 20, .int .u64 (U a), .int .u64 (U b), .int .u64 64] w fun e w' => e = .returned (.tuple #[.int .u64 (U (a.sshiftRight (b.toNat % 64))), .bool true]) ∧ w = w' := by
  go_enter Try.func24, Try.ntmps24
  go_wp2
  go_ret2
  exact ⟨ret2 (int_eq (congrArg U (by rw [and_63 b]))) rfl, rfl⟩

set_option maxHeartbeats 400000 in
theorem do64_div0 (a b : BitVec 64) (hb : b = 0#64) (w : World) : Calls Try.prog 24 #[.int .i64 27, .int .u64 (U a), .int .u64 (U b), .int .u64 64] w fun e w' => e = .returned (.tuple #[.int .u64 (U (BitVec.allOnes 64)), .bool true]) ∧ w = w' := by
  have n2 : (S b == 0) = true := by subst hb; decide +kernel
  clear hb
  go_enter Try.func24, Try.ntmps24
  go_wp2
  go_ret2
  exact ⟨ret2 (int_eq rfl) rfl, rfl⟩

set_option maxHeartbeats 400000 in
theorem do64_rem0 (a b : BitVec 64) (hb : b = 0#64) (w : World) : Calls Try.prog 24 #[.int .i64 29, .int .u64 (U a), .int .u64 (U b), .int .u64 64] w fun e w' => e = .returned (.tuple #[.int .u64 (U (a)), .bool true]) ∧ w = w' := by
  have n2 : (S b == 0) = true := by subst hb; decide +kernel
  clear hb
  go_enter Try.func24, Try.ntmps24
  go_wp2
  go_ret2
  exact ⟨ret2 (int_eq rfl) rfl, rfl⟩

set_option maxHeartbeats 400000 in
theorem do64_divm (a b : BitVec 64) (hb : b ≠ 0#64) (h : a = 9223372036854775808#64 ∧ b = -1#64) (w : World) : Calls Try.prog 24 #[.int .i64 27, .int .u64 (U a), .int .u64 (U b), .int .u64 64] w fun e w' => e = .returned (.tuple #[.int .u64 (U (a.sdiv b)), .bool true]) ∧ w = w' := by
  have n1 : S b ≠ 0 := fun h => hb (S_zero.1 h)
  have n2 : (S b == 0) = false := by simpa using n1
  have n3 : ¬ S b = 0 := n1
  clear n1
  have m1 : (S a == S 9223372036854775808#64) = true := by rw [h.1]; simp
  have m2 : (S b == -1) = true := by rw [h.2]; decide +kernel
  have H := hide h
  clear hb h
  go_enter Try.func24, Try.ntmps24
  go_wp2
  all_goals
    go_ret2
    exact ⟨ret2 (int_eq (congrArg U (by rw [H.out.1, H.out.2]; exact sdiv_least.symm))) rfl, rfl⟩

set_option maxHeartbeats 400000 in
theorem do64_divr1 (a b : BitVec 64) (hb : b ≠ 0#64) (h : a ≠ 9223372036854775808#64) (w : World) : Calls Try.prog 24 #[.int .i64 27, .int .u64 (U a), .int .u64 (U b), .int .u64 64] w fun e w' => e = .returned (.tuple #[.int .u64 (U (a.sdiv b)), .bool true]) ∧ w = w' := by
  have n1 : S b ≠ 0 := fun h => hb (S_zero.1 h)
  have n2 : (S b == 0) = false := by simpa using n1
  have n3 : ¬ S b = 0 := n1
  clear n1
  have m1 : (S a == S 9223372036854775808#64) = false := by rw [beq_eq_false_iff_ne]; exact fun e => h (S_inj.1 e)
  clear hb h
  go_enter Try.func24, Try.ntmps24
  go_wp2
  all_goals
    go_ret2
    exact ⟨ret2 (int_eq (rfl)) rfl, rfl⟩

set_option maxHeartbeats 400000 in
theorem do64_divr2 (a b : BitVec 64) (hb : b ≠ 0#64) (h1 : a = 9223372036854775808#64) (h : b ≠ -1#64) (w : World) : Calls Try.prog 24 #[.int .i64 27, .int .u64 (U a), .int .u64 (U b), .int .u64 64] w fun e w' => e = .returned (.tuple #[.int .u64 (U (a.sdiv b)), .bool true]) ∧ w = w' := by
  have n1 : S b ≠ 0 := fun h => hb (S_zero.1 h)
  have n2 : (S b == 0) = false := by simpa using n1
  have n3 : ¬ S b = 0 := n1
  clear n1
  have m1 : (S a == S 9223372036854775808#64) = true := by rw [h1]; simp
  have m2 : (S b == -1) = false := by rw [beq_eq_false_iff_ne]; exact fun e => h (S_mone.1 e)
  clear hb h h1
  go_enter Try.func24, Try.ntmps24
  go_wp2
  all_goals
    go_ret2
    exact ⟨ret2 (int_eq (rfl)) rfl, rfl⟩

set_option maxHeartbeats 400000 in
theorem do64_remm (a b : BitVec 64) (hb : b ≠ 0#64) (h : b = -1#64) (w : World) : Calls Try.prog 24 #[.int .i64 29, .int .u64 (U a), .int .u64 (U b), .int .u64 64] w fun e w' => e = .returned (.tuple #[.int .u64 (U (a.srem b)), .bool true]) ∧ w = w' := by
  have n1 : S b ≠ 0 := fun h => hb (S_zero.1 h)
  have n2 : (S b == 0) = false := by simpa using n1
  have n3 : ¬ S b = 0 := n1
  clear n1
  have m2 : (S b == -1) = true := by rw [h]; decide +kernel
  have H := hide h
  clear hb h
  go_enter Try.func24, Try.ntmps24
  go_wp2
  all_goals
    go_ret2
    exact ⟨ret2 (int_eq (by rw [H.out, srem_neg_one]; rfl)) rfl, rfl⟩

set_option maxHeartbeats 400000 in
theorem do64_remr (a b : BitVec 64) (hb : b ≠ 0#64) (h : ¬ b = -1#64) (w : World) : Calls Try.prog 24 #[.int .i64 29, .int .u64 (U a), .int .u64 (U b), .int .u64 64] w fun e w' => e = .returned (.tuple #[.int .u64 (U (a.srem b)), .bool true]) ∧ w = w' := by
  have n1 : S b ≠ 0 := fun h => hb (S_zero.1 h)
  have n2 : (S b == 0) = false := by simpa using n1
  have n3 : ¬ S b = 0 := n1
  clear n1
  have m2 : (S b == -1) = false := by rw [beq_eq_false_iff_ne]; exact fun e => h (S_mone.1 e)
  clear hb h
  go_enter Try.func24, Try.ntmps24
  go_wp2
  all_goals
    go_ret2
    exact ⟨ret2 (int_eq (rfl)) rfl, rfl⟩

set_option maxHeartbeats 400000 in
theorem do64_divu0 (a b : BitVec 64) (hb : b = 0#64) (w : World) : Calls Try.prog 24 #[.int .i64 28, .int .u64 (U a), .int .u64 (U b), .int .u64 64] w fun e w' => e = .returned (.tuple #[.int .u64 (U (BitVec.allOnes 64)), .bool true]) ∧ w = w' := by
  have n2 : (U b == 0) = true := by subst hb; decide +kernel
  clear hb
  go_enter Try.func24, Try.ntmps24
  go_wp2
  go_ret2
  exact ⟨ret2 (int_eq rfl) rfl, rfl⟩
set_option maxHeartbeats 400000 in
theorem do64_remu0 (a b : BitVec 64) (hb : b = 0#64) (w : World) : Calls Try.prog 24 #[.int .i64 30, .int .u64 (U a), .int .u64 (U b), .int .u64 64] w fun e w' => e = .returned (.tuple #[.int .u64 (U (a % b)), .bool true]) ∧ w = w' := by
  have n2 : (U b == 0) = true := by subst hb; decide +kernel
  have H := hide hb
  clear hb
  go_enter Try.func24, Try.ntmps24
  go_wp2
  go_ret2
  exact ⟨ret2 (int_eq (congrArg U (by rw [H.out]; simp))) rfl, rfl⟩

set_option maxHeartbeats 400000 in
theorem do64_divur (a b : BitVec 64) (hb : b ≠ 0#64) (w : World) : Calls Try.prog 24 #[.int .i64 28, .int .u64 (U a), .int .u64 (U b), .int .u64 64] w fun e w' => e = .returned (.tuple #[.int .u64 (U (a / b)), .bool true]) ∧ w = w' := by
  have n1 : U b ≠ 0 := fun h => hb (U_zero.1 h)
  have n2 : (U b == 0) = false := by simpa using n1
  have n3 : ¬ U b = 0 := n1
  clear n1 hb
  go_enter Try.func24, Try.ntmps24
  go_wp2
  all_goals
    go_ret2
    exact ⟨ret2 (int_eq (rfl)) rfl, rfl⟩

set_option maxHeartbeats 400000 in
theorem do64_remur (a b : BitVec 64) (hb : b ≠ 0#64) (w : World) : Calls Try.prog 24 #[.int .i64 30, .int .u64 (U a), .int .u64 (U b), .int .u64 64] w fun e w' => e = .returned (.tuple #[.int .u64 (U (a % b)), .bool true]) ∧ w = w' := by
  have n1 : U b ≠ 0 := fun h => hb (U_zero.1 h)
  have n2 : (U b == 0) = false := by simpa using n1
  have n3 : ¬ U b = 0 := n1
  clear n1 hb
  go_enter Try.func24, Try.ntmps24
  go_wp2
  all_goals
    go_ret2
    exact ⟨ret2 (int_eq (rfl)) rfl, rfl⟩

set_option maxHeartbeats 400000 in
theorem do64_none (k : Int) (a b : BitVec 64) (n13 : (k == 13) = false) (n14 : (k == 14) = false) (n23 : (k == 23) = false) (n15 : (k == 15) = false) (n19 : (k == 19) = false) (n20 : (k == 20) = false) (n27 : (k == 27) = false) (n28 : (k == 28) = false) (n29 : (k == 29) = false) (n30 : (k == 30) = false) (w : World) : Calls Try.prog 24 #[.int .i64 k, .int .u64 (U a), .int .u64 (U b), .int .u64 64] w fun e w' => e = .returned (.tuple #[.int .u64 (U 0#64), .bool false]) ∧ w = w' := by
  go_enter Try.func24, Try.ntmps24
  go_wp2
  go_ret2
  exact ⟨rfl, rfl⟩

theorem do64_any (k : Int) (a b : BitVec 64) (w : World) : Calls Try.prog 24 #[.int .i64 k, .int .u64 (U a), .int .u64 (U b), .int .u64 64] w fun e w' => e = .returned (.tuple #[.int .u64 (U (doW k a b).1), .bool (doW k a b).2]) ∧ w = w' := by
  by_cases k13 : k = 13
  · subst k13; exact do64_add a b w
  by_cases k14 : k = 14
  · subst k14; exact do64_sub a b w
  by_cases k23 : k = 23
  · subst k23; exact do64_mul a b w
  by_cases k15 : k = 15
  · subst k15; exact do64_sll a b w
  by_cases k19 : k = 19
  · subst k19; exact do64_srl a b w
  by_cases k20 : k = 20
  · subst k20; exact do64_sra a b w
  by_cases k27 : k = 27
  · subst k27
    have e : doW 27 a b = (if b = 0#64 then BitVec.allOnes 64 else a.sdiv b, true) := by simp [doW]
    rw [e]
    by_cases hb : b = 0#64
    · rw [if_pos hb]; exact do64_div0 a b hb w
    · rw [if_neg hb]
      by_cases h : a = 9223372036854775808#64 ∧ b = -1#64
      · exact do64_divm a b hb h w
      · by_cases h1 : a = 9223372036854775808#64
        · exact do64_divr2 a b hb h1 (fun h2 => h ⟨h1, h2⟩) w
        · exact do64_divr1 a b hb h1 w
  by_cases k28 : k = 28
  · subst k28
    have e : doW 28 a b = (if b = 0#64 then BitVec.allOnes 64 else a / b, true) := by simp [doW]
    rw [e]
    by_cases hb : b = 0#64
    · rw [if_pos hb]; exact do64_divu0 a b hb w
    · rw [if_neg hb]; exact do64_divur a b hb w
  by_cases k29 : k = 29
  · subst k29
    have e : doW 29 a b = (a.srem b, true) := by simp [doW]
    rw [e]
    by_cases hb : b = 0#64
    · have e2 : a.srem b = a := by rw [hb]; simp
      rw [e2]; exact do64_rem0 a b hb w
    · by_cases h : b = -1#64
      · exact do64_remm a b hb h w
      · exact do64_remr a b hb h w
  by_cases k30 : k = 30
  · subst k30
    have e : doW 30 a b = (a % b, true) := by simp [doW]
    rw [e]
    by_cases hb : b = 0#64
    · exact do64_remu0 a b hb w
    · exact do64_remur a b hb w
  have e : doW k a b = (0#64, false) := by simp [doW, k13, k14, k23, k15, k19, k20, k27, k28, k29, k30]
  rw [e]
  exact do64_none k a b (beq_eq_false_iff_ne.2 k13) (beq_eq_false_iff_ne.2 k14) (beq_eq_false_iff_ne.2 k23) (beq_eq_false_iff_ne.2 k15) (beq_eq_false_iff_ne.2 k19) (beq_eq_false_iff_ne.2 k20) (beq_eq_false_iff_ne.2 k27) (beq_eq_false_iff_ne.2 k28) (beq_eq_false_iff_ne.2 k29) (beq_eq_false_iff_ne.2 k30) w

set_option maxHeartbeats 400000 in
theorem do32_add (a b : BitVec 32)  (w : World) : Calls Try.prog 21 #[.int .i64 13, .int .u32 (U4 a), .int .u32 (U4 b), .int .u64 32] w fun e w' => e = .returned (.tuple #[.int .u32 (U4 (a + b)), .bool true]) ∧ w = w' := by
  go_enter Try.func21, Try.ntmps21
  go_wp2
  go_ret2
  exact ⟨ret2 (int_eq (congrArg U4 (rfl))) rfl, rfl⟩

set_option maxHeartbeats 400000 in
theorem do32_sub (a b : BitVec 32)  (w : World) : Calls Try.prog 21 #[.int .i64 14, .int .u32 (U4 a), .int .u32 (U4 b), .int .u64 32] w fun e w' => e = .returned (.tuple #[.int .u32 (U4 (a - b)), .bool true]) ∧ w = w' := by
  go_enter Try.func21, Try.ntmps21
  go_wp2
  go_ret2
  exact ⟨ret2 (int_eq (congrArg U4 (rfl))) rfl, rfl⟩

set_option maxHeartbeats 400000 in
theorem do32_mul (a b : BitVec 32)  (w : World) : Calls Try.prog 21 #[.int .i64 23, .int .u32 (U4 a), .int .u32 (U4 b), .int .u64 32] w fun e w' => e = .returned (.tuple #[.int .u32 (U4 (a * b)), .bool true]) ∧ w = w' := by
  go_enter Try.func21, Try.ntmps21
  go_wp2
  go_ret2
  exact ⟨ret2 (int_eq (congrArg U4 (rfl))) rfl, rfl⟩

set_option maxHeartbeats 400000 in
theorem do32_sll (a b : BitVec 32)  (w : World) : Calls Try.prog 21 #[.int .i64 15, .int .u32 (U4 a), .int .u32 (U4 b), .int .u64 32] w fun e w' => e = .returned (.tuple #[.int .u32 (U4 (a <<< (b.toNat % 32))), .bool true]) ∧ w = w' := by
  go_enter Try.func21, Try.ntmps21
  go_wp2
  go_ret2
  exact ⟨ret2 (int_eq (congrArg U4 (by rw [and_31 b]))) rfl, rfl⟩

set_option maxHeartbeats 400000 in
theorem do32_srl (a b : BitVec 32)  (w : World) : Calls Try.prog 21 #[.int .i64 19, .int .u32 (U4 a), .int .u32 (U4 b), .int .u64 32] w fun e w' => e = .returned (.tuple #[.int .u32 (U4 (a >>> (b.toNat % 32))), .bool true]) ∧ w = w' := by
  go_enter Try.func21, Try.ntmps21
  go_wp2
  go_ret2
  exact ⟨ret2 (int_eq (congrArg U4 (by rw [and_31 b]))) rfl, rfl⟩

set_option maxHeartbeats 400000 in
theorem do32_sra (a b : BitVec 32)  (w : World) : Calls Try.prog 21 #[.int .i64 20, .int .u32 (U4 a), .int .u32 (U4 b), .int .u64 32] w fun e w' => e = .returned (.tuple #[.int .u32 (U4 (a.sshiftRight (b.toNat % 32))), .bool true]) ∧ w = w' := by
  go_enter Try.func21, Try.ntmps21
  go_wp2
  go_ret2
  exact ⟨ret2 (int_eq (congrArg U4 (by rw [and_31 b]))) rfl, rfl⟩

set_option maxHeartbeats 400000 in
theorem do32_div0 (a b : BitVec 32) (hb : b = 0#32) (w : World) : Calls Try.prog 21 #[.int .i64 27, .int .u32 (U4 a), .int .u32 (U4 b), .int .u64 32] w fun e w' => e = .returned (.tuple #[.int .u32 (U4 (BitVec.allOnes 32)), .bool true]) ∧ w = w' := by
  have n2 : (S4 b == 0) = true := by subst hb; decide +kernel
  clear hb
  go_enter Try.func21, Try.ntmps21
  go_wp2
  go_ret2
  exact ⟨ret2 (int_eq rfl) rfl, rfl⟩

set_option maxHeartbeats 400000 in
theorem do32_rem0 (a b : BitVec 32) (hb : b = 0#32) (w : World) : Calls Try.prog 21 #[.int .i64 29, .int .u32 (U4 a), .int .u32 (U4 b), .int .u64 32] w fun e w' => e = .returned (.tuple #[.int .u32 (U4 (a)), .bool true]) ∧ w = w' := by
  have n2 : (S4 b == 0) = true := by subst hb; decide +kernel
  clear hb
  go_enter Try.func21, Try.ntmps21
  go_wp2
  go_ret2
  exact ⟨ret2 (int_eq rfl) rfl, rfl⟩

set_option maxHeartbeats 400000 in
theorem do32_divm (a b : BitVec 32) (hb : b ≠ 0#32) (h : a = 2147483648#32 ∧ b = -1#32) (w : World) : Calls Try.prog 21 #[.int .i64 27, .int .u32 (U4 a), .int .u32 (U4 b), .int .u64 32] w fun e w' => e = .returned (.tuple #[.int .u32 (U4 (a.sdiv b)), .bool true]) ∧ w = w' := by
  have n1 : S4 b ≠ 0 := fun h => hb (S4_zero.1 h)
  have n2 : (S4 b == 0) = false := by simpa using n1
  have n3 : ¬ S4 b = 0 := n1
  clear n1
  have m1 : (S4 a == S4 2147483648#32) = true := by rw [h.1]; simp
  have m2 : (S4 b == -1) = true := by rw [h.2]; decide +kernel
  have H := hide h
  clear hb h
  go_enter Try.func21, Try.ntmps21
  go_wp2
  all_goals
    go_ret2
    exact ⟨ret2 (int_eq (congrArg U4 (by rw [H.out.1, H.out.2]; exact sdiv_least4.symm))) rfl, rfl⟩

set_option maxHeartbeats 400000 in
theorem do32_divr1 (a b : BitVec 32) (hb : b ≠ 0#32) (h : a ≠ 2147483648#32) (w : World) : Calls Try.prog 21 #[.int .i64 27, .int .u32 (U4 a), .int .u32 (U4 b), .int .u64 32] w fun e w' => e = .returned (.tuple #[.int .u32 (U4 (a.sdiv b)), .bool true]) ∧ w = w' := by
  have n1 : S4 b ≠ 0 := fun h => hb (S4_zero.1 h)
  have n2 : (S4 b == 0) = false := by simpa using n1
  have n3 : ¬ S4 b = 0 := n1
  clear n1
  have m1 : (S4 a == S4 2147483648#32) = false := by rw [beq_eq_false_iff_ne]; exact fun e => h (S4_inj.1 e)
  clear hb h
  go_enter Try.func21, Try.ntmps21
  go_wp2
  all_goals
    go_ret2
    exact ⟨ret2 (int_eq (rfl)) rfl, rfl⟩

set_option maxHeartbeats 400000 in
theorem do32_divr2 (a b : BitVec 32) (hb : b ≠ 0#32) (h1 : a = 2147483648#32) (h : b ≠ -1#32) (w : World) : Calls Try.prog 21 #[.int .i64 27, .int .u32 (U4 a), .int .u32 (U4 b), .int .u64 32] w fun e w' => e = .returned (.tuple #[.int .u32 (U4 (a.sdiv b)), .bool true]) ∧ w = w' := by
  have n1 : S4 b ≠ 0 := fun h => hb (S4_zero.1 h)
  have n2 : (S4 b == 0) = false := by simpa using n1
  have n3 : ¬ S4 b = 0 := n1
  clear n1
  have m1 : (S4 a == S4 2147483648#32) = true := by rw [h1]; simp
  have m2 : (S4 b == -1) = false := by rw [beq_eq_false_iff_ne]; exact fun e => h (S4_mone.1 e)
  clear hb h h1
  go_enter Try.func21, Try.ntmps21
  go_wp2
  all_goals
    go_ret2
    exact ⟨ret2 (int_eq (rfl)) rfl, rfl⟩

set_option maxHeartbeats 400000 in
theorem do32_remm (a b : BitVec 32) (hb : b ≠ 0#32) (h : b = -1#32) (w : World) : Calls Try.prog 21 #[.int .i64 29, .int .u32 (U4 a), .int .u32 (U4 b), .int .u64 32] w fun e w' => e = .returned (.tuple #[.int .u32 (U4 (a.srem b)), .bool true]) ∧ w = w' := by
  have n1 : S4 b ≠ 0 := fun h => hb (S4_zero.1 h)
  have n2 : (S4 b == 0) = false := by simpa using n1
  have n3 : ¬ S4 b = 0 := n1
  clear n1
  have m2 : (S4 b == -1) = true := by rw [h]; decide +kernel
  have H := hide h
  clear hb h
  go_enter Try.func21, Try.ntmps21
  go_wp2
  all_goals
    go_ret2
    exact ⟨ret2 (int_eq (by rw [H.out, srem_neg_one4]; rfl)) rfl, rfl⟩

set_option maxHeartbeats 400000 in
theorem do32_remr (a b : BitVec 32) (hb : b ≠ 0#32) (h : ¬ b = -1#32) (w : World) : Calls Try.prog 21 #[.int .i64 29, .int .u32 (U4 a), .int .u32 (U4 b), .int .u64 32] w fun e w' => e = .returned (.tuple #[.int .u32 (U4 (a.srem b)), .bool true]) ∧ w = w' := by
  have n1 : S4 b ≠ 0 := fun h => hb (S4_zero.1 h)
  have n2 : (S4 b == 0) = false := by simpa using n1
  have n3 : ¬ S4 b = 0 := n1
  clear n1
  have m2 : (S4 b == -1) = false := by rw [beq_eq_false_iff_ne]; exact fun e => h (S4_mone.1 e)
  clear hb h
  go_enter Try.func21, Try.ntmps21
  go_wp2
  all_goals
    go_ret2
    exact ⟨ret2 (int_eq (rfl)) rfl, rfl⟩

set_option maxHeartbeats 400000 in
theorem do32_divu0 (a b : BitVec 32) (hb : b = 0#32) (w : World) : Calls Try.prog 21 #[.int .i64 28, .int .u32 (U4 a), .int .u32 (U4 b), .int .u64 32] w fun e w' => e = .returned (.tuple #[.int .u32 (U4 (BitVec.allOnes 32)), .bool true]) ∧ w = w' := by
  have n2 : (U4 b == 0) = true := by subst hb; decide +kernel
  clear hb
  go_enter Try.func21, Try.ntmps21
  go_wp2
  go_ret2
  exact ⟨ret2 (int_eq rfl) rfl, rfl⟩
set_option maxHeartbeats 400000 in
theorem do32_remu0 (a b : BitVec 32) (hb : b = 0#32) (w : World) : Calls Try.prog 21 #[.int .i64 30, .int .u32 (U4 a), .int .u32 (U4 b), .int .u64 32] w fun e w' => e = .returned (.tuple #[.int .u32 (U4 (a % b)), .bool true]) ∧ w = w' := by
  have n2 : (U4 b == 0) = true := by subst hb; decide +kernel
  have H := hide hb
  clear hb
  go_enter Try.func21, Try.ntmps21
  go_wp2
  go_ret2
  exact ⟨ret2 (int_eq (congrArg U4 (by rw [H.out]; simp))) rfl, rfl⟩

set_option maxHeartbeats 400000 in
theorem do32_divur (a b : BitVec 32) (hb : b ≠ 0#32) (w : World) : Calls Try.prog 21 #[.int .i64 28, .int .u32 (U4 a), .int .u32 (U4 b), .int .u64 32] w fun e w' => e = .returned (.tuple #[.int .u32 (U4 (a / b)), .bool true]) ∧ w = w' := by
  have n1 : U4 b ≠ 0 := fun h => hb (U4_zero.1 h)
  have n2 : (U4 b == 0) = false := by simpa using n1
  have n3 : ¬ U4 b = 0 := n1
  clear n1 hb
  go_enter Try.func21, Try.ntmps21
  go_wp2
  all_goals
    go_ret2
    exact ⟨ret2 (int_eq (rfl)) rfl, rfl⟩

set_option maxHeartbeats 400000 in
theorem do32_remur (a b : BitVec 32) (hb : b ≠ 0#32) (w : World) : Calls Try.prog 21 #[.int .i64 30, .int .u32 (U4 a), .int .u32 (U4 b), .int .u64 32] w fun e w' => e = .returned (.tuple #[.int .u32 (U4 (a % b)), .bool true]) ∧ w = w' := by
  have n1 : U4 b ≠ 0 := fun h => hb (U4_zero.1 h)
  have n2 : (U4 b == 0) = false := by simpa using n1
  have n3 : ¬ U4 b = 0 := n1
  clear n1 hb
  go_enter Try.func21, Try.ntmps21
  go_wp2
  all_goals
    go_ret2
    exact ⟨ret2 (int_eq (rfl)) rfl, rfl⟩

set_option maxHeartbeats 400000 in
theorem do32_none (k : Int) (a b : BitVec 32) (n13 : (k == 13) = false) (n14 : (k == 14) = false) (n23 : (k == 23) = false) (n15 : (k == 15) = false) (n19 : (k == 19) = false) (n20 : (k == 20) = false) (n27 : (k == 27) = false) (n28 : (k == 28) = false) (n29 : (k == 29) = false) (n30 : (k == 30) = false) (w : World) : Calls Try.prog 21 #[.int .i64 k, .int .u32 (U4 a), .int .u32 (U4 b), .int .u64 32] w fun e w' => e = .returned (.tuple #[.int .u32 (U4 0#32), .bool false]) ∧ w = w' := by
  go_enter Try.func21, Try.ntmps21
  go_wp2
  go_ret2
  exact ⟨rfl, rfl⟩

theorem do32_any (k : Int) (a b : BitVec 32) (w : World) : Calls Try.prog 21 #[.int .i64 k, .int .u32 (U4 a), .int .u32 (U4 b), .int .u64 32] w fun e w' => e = .returned (.tuple #[.int .u32 (U4 (doW k a b).1), .bool (doW k a b).2]) ∧ w = w' := by
  by_cases k13 : k = 13
  · subst k13; exact do32_add a b w
  by_cases k14 : k = 14
  · subst k14; exact do32_sub a b w
  by_cases k23 : k = 23
  · subst k23; exact do32_mul a b w
  by_cases k15 : k = 15
  · subst k15; exact do32_sll a b w
  by_cases k19 : k = 19
  · subst k19; exact do32_srl a b w
  by_cases k20 : k = 20
  · subst k20; exact do32_sra a b w
  by_cases k27 : k = 27
  · subst k27
    have e : doW 27 a b = (if b = 0#32 then BitVec.allOnes 32 else a.sdiv b, true) := by simp [doW]
    rw [e]
    by_cases hb : b = 0#32
    · rw [if_pos hb]; exact do32_div0 a b hb w
    · rw [if_neg hb]
      by_cases h : a = 2147483648#32 ∧ b = -1#32
      · exact do32_divm a b hb h w
      · by_cases h1 : a = 2147483648#32
        · exact do32_divr2 a b hb h1 (fun h2 => h ⟨h1, h2⟩) w
        · exact do32_divr1 a b hb h1 w
  by_cases k28 : k = 28
  · subst k28
    have e : doW 28 a b = (if b = 0#32 then BitVec.allOnes 32 else a / b, true) := by simp [doW]
    rw [e]
    by_cases hb : b = 0#32
    · rw [if_pos hb]; exact do32_divu0 a b hb w
    · rw [if_neg hb]; exact do32_divur a b hb w
  by_cases k29 : k = 29
  · subst k29
    have e : doW 29 a b = (a.srem b, true) := by simp [doW]
    rw [e]
    by_cases hb : b = 0#32
    · have e2 : a.srem b = a := by rw [hb]; simp
      rw [e2]; exact do32_rem0 a b hb w
    · by_cases h : b = -1#32
      · exact do32_remm a b hb h w
      · exact do32_remr a b hb h w
  by_cases k30 : k = 30
  · subst k30
    have e : doW 30 a b = (a % b, true) := by simp [doW]
    rw [e]
    by_cases hb : b = 0#32
    · exact do32_remu0 a b hb w
    · exact do32_remur a b hb w
  have e : doW k a b = (0#32, false) := by simp [doW, k13, k14, k23, k15, k19, k20, k27, k28, k29, k30]
  rw [e]
  exact do32_none k a b (beq_eq_false_iff_ne.2 k13) (beq_eq_false_iff_ne.2 k14) (beq_eq_false_iff_ne.2 k23) (beq_eq_false_iff_ne.2 k15) (beq_eq_false_iff_ne.2 k19) (beq_eq_false_iff_ne.2 k20) (beq_eq_false_iff_ne.2 k27) (beq_eq_false_iff_ne.2 k28) (beq_eq_false_iff_ne.2 k29) (beq_eq_false_iff_ne.2 k30) w

end Go.Proofs.Ytkmdahokomnjcaa