/-
  The walks of alu.Do, alu.Branch, alu.Extend, alu.Atomic. (Printed by gen_alub.py.)
-/
import Derived.Test.YtkmdahokomnjcaaAluA
namespace Go.Proofs.Ytkmdahokomnjcaa
open Go.RowKit

theorem msb_S (x : BitVec 64) : x.msb = true ↔ S x < 0 := by unfold S; rw [BitVec.msb_eq_toInt]; simp
theorem msb_S' (x : BitVec 64) : x.msb = false ↔ 0 ≤ S x := by unfold S; rw [BitVec.msb_eq_toInt]; simp
theorem slt_S (x y : BitVec 64) : x.slt y = decide (S x < S y) := by unfold S; rw [BitVec.slt_eq_decide]
theorem ult_U (x y : BitVec 64) : x.ult y = decide (U x < U y) := by unfold U; rw [BitVec.ult_eq_decide]; simp

set_option maxHeartbeats 400000 in
theorem upper_mulh (a b : BitVec 64) (w : World) : Calls Try.prog 23 #[.int .i64 24, .int .u64 (U a), .int .u64 (U b)] w fun e w' => e = .returned (.int .u64 (U (mulHi a b - some_ b.msb a - some_ a.msb b))) ∧ w = w' := by
  rcases ha : a.msb with _ | _ <;> rcases hb : b.msb with _ | _
  all_goals
    first | (have a1 := (msb_S a).1 ha; clear ha) | (have a1 := (msb_S' a).1 ha; clear ha)
    first | (have b1 := (msb_S b).1 hb; clear hb) | (have b1 := (msb_S' b).1 hb; clear hb)
    go_enter Try.func23, Try.ntmps23
    go_wp2_with (go_at_call 31; refine (mul64_any _ _ _).mono ?_; rintro e w' ⟨rfl, rfl⟩)
    go_ret
    exact ⟨ret1 (int_eq (congrArg U (by simp [some_]))), rfl⟩

set_option maxHeartbeats 400000 in
theorem upper_mulhsu (a b : BitVec 64) (w : World) : Calls Try.prog 23 #[.int .i64 25, .int .u64 (U a), .int .u64 (U b)] w fun e w' => e = .returned (.int .u64 (U (mulHi a b - some_ a.msb b))) ∧ w = w' := by
  rcases ha : a.msb with _ | _ <;> rcases hb : b.msb with _ | _
  all_goals
    first | (have a1 := (msb_S a).1 ha; clear ha) | (have a1 := (msb_S' a).1 ha; clear ha)
    first | (have b1 := (msb_S b).1 hb; clear hb) | (have b1 := (msb_S' b).1 hb; clear hb)
    go_enter Try.func23, Try.ntmps23
    go_wp2_with (go_at_call 31; refine (mul64_any _ _ _).mono ?_; rintro e w' ⟨rfl, rfl⟩)
    go_ret
    exact ⟨ret1 (int_eq (congrArg U (by simp [some_]))), rfl⟩

set_option maxHeartbeats 400000 in
theorem upper_mulhu (a b : BitVec 64) (w : World) : Calls Try.prog 23 #[.int .i64 26, .int .u64 (U a), .int .u64 (U b)] w fun e w' => e = .returned (.int .u64 (U (mulHi a b))) ∧ w = w' := by
  go_enter Try.func23, Try.ntmps23
  go_wp2_with (go_at_call 31; refine (mul64_any _ _ _).mono ?_; rintro e w' ⟨rfl, rfl⟩)
  go_ret
  exact ⟨rfl, rfl⟩

set_option maxHeartbeats 400000 in
theorem Do_word (k : Int) (a b : BitVec 64) (w : World) : Calls Try.prog 11 #[.int .i64 k, .bool true, .int .u64 (U a), .int .u64 (U b)] w fun e w' => e = .returned (.tuple #[.int .u64 (U (doD k true a b).1), .bool (doD k true a b).2]) ∧ w = w' := by
  go_enter Try.func11, Try.ntmps11
  go_wp2_with (go_at_call 21; refine (do32_any _ _ _ _).mono ?_; rintro e w' ⟨rfl, rfl⟩)
  go_ret2
  exact ⟨rfl, rfl⟩

set_option maxHeartbeats 400000 in
theorem Do_slt (a b : BitVec 64) (w : World) : Calls Try.prog 11 #[.int .i64 16, .bool false, .int .u64 (U a), .int .u64 (U b)] w fun e w' => e = .returned (.tuple #[.int .u64 (U (bit (a.slt b))), .bool true]) ∧ w = w' := by
  rw [slt_S]
  go_enter Try.func11, Try.ntmps11
  go_wp2_with (first | (go_at_call 23; refine (upper_mulh _ _ _).mono ?_; rintro e w' ⟨rfl, rfl⟩) | (go_at_call 22; refine (truth_any _ _).mono ?_; rintro e w' ⟨rfl, rfl⟩))
  go_ret2
  exact ⟨rfl, rfl⟩

set_option maxHeartbeats 400000 in
theorem Do_sltu (a b : BitVec 64) (w : World) : Calls Try.prog 11 #[.int .i64 17, .bool false, .int .u64 (U a), .int .u64 (U b)] w fun e w' => e = .returned (.tuple #[.int .u64 (U (bit (a.ult b))), .bool true]) ∧ w = w' := by
  rw [ult_U]
  go_enter Try.func11, Try.ntmps11
  go_wp2_with (first | (go_at_call 23; refine (upper_mulh _ _ _).mono ?_; rintro e w' ⟨rfl, rfl⟩) | (go_at_call 22; refine (truth_any _ _).mono ?_; rintro e w' ⟨rfl, rfl⟩))
  go_ret2
  exact ⟨rfl, rfl⟩

set_option maxHeartbeats 400000 in
theorem Do_xor (a b : BitVec 64) (w : World) : Calls Try.prog 11 #[.int .i64 18, .bool false, .int .u64 (U a), .int .u64 (U b)] w fun e w' => e = .returned (.tuple #[.int .u64 (U (a ^^^ b)), .bool true]) ∧ w = w' := by
  skip
  go_enter Try.func11, Try.ntmps11
  go_wp2_with (first | (go_at_call 23; refine (upper_mulh _ _ _).mono ?_; rintro e w' ⟨rfl, rfl⟩) | (go_at_call 22; refine (truth_any _ _).mono ?_; rintro e w' ⟨rfl, rfl⟩))
  go_ret2
  exact ⟨rfl, rfl⟩

set_option maxHeartbeats 400000 in
theorem Do_or (a b : BitVec 64) (w : World) : Calls Try.prog 11 #[.int .i64 21, .bool false, .int .u64 (U a), .int .u64 (U b)] w fun e w' => e = .returned (.tuple #[.int .u64 (U (a ||| b)), .bool true]) ∧ w = w' := by
  skip
  go_enter Try.func11, Try.ntmps11
  go_wp2_with (first | (go_at_call 23; refine (upper_mulh _ _ _).mono ?_; rintro e w' ⟨rfl, rfl⟩) | (go_at_call 22; refine (truth_any _ _).mono ?_; rintro e w' ⟨rfl, rfl⟩))
  go_ret2
  exact ⟨rfl, rfl⟩

set_option maxHeartbeats 400000 in
theorem Do_and (a b : BitVec 64) (w : World) : Calls Try.prog 11 #[.int .i64 22, .bool false, .int .u64 (U a), .int .u64 (U b)] w fun e w' => e = .returned (.tuple #[.int .u64 (U (a &&& b)), .bool true]) ∧ w = w' := by
  skip
  go_enter Try.func11, Try.ntmps11
  go_wp2_with (first | (go_at_call 23; refine (upper_mulh _ _ _).mono ?_; rintro e w' ⟨rfl, rfl⟩) | (go_at_call 22; refine (truth_any _ _).mono ?_; rintro e w' ⟨rfl, rfl⟩))
  go_ret2
  exact ⟨rfl, rfl⟩

set_option maxHeartbeats 400000 in
theorem Do_mulh (a b : BitVec 64) (w : World) : Calls Try.prog 11 #[.int .i64 24, .bool false, .int .u64 (U a), .int .u64 (U b)] w fun e w' => e = .returned (.tuple #[.int .u64 (U (mulHi a b - some_ b.msb a - some_ a.msb b)), .bool true]) ∧ w = w' := by
  skip
  go_enter Try.func11, Try.ntmps11
  go_wp2_with (first | (go_at_call 23; refine (upper_mulh _ _ _).mono ?_; rintro e w' ⟨rfl, rfl⟩) | (go_at_call 22; refine (truth_any _ _).mono ?_; rintro e w' ⟨rfl, rfl⟩))
  go_ret2
  exact ⟨rfl, rfl⟩

set_option maxHeartbeats 400000 in
theorem Do_mulhsu (a b : BitVec 64) (w : World) : Calls Try.prog 11 #[.int .i64 25, .bool false, .int .u64 (U a), .int .u64 (U b)] w fun e w' => e = .returned (.tuple #[.int .u64 (U (mulHi a b - some_ a.msb b)), .bool true]) ∧ w = w' := by
  skip
  go_enter Try.func11, Try.ntmps11
  go_wp2_with (first | (go_at_call 23; refine (upper_mulhsu _ _ _).mono ?_; rintro e w' ⟨rfl, rfl⟩) | (go_at_call 22; refine (truth_any _ _).mono ?_; rintro e w' ⟨rfl, rfl⟩))
  go_ret2
  exact ⟨rfl, rfl⟩

set_option maxHeartbeats 400000 in
theorem Do_mulhu (a b : BitVec 64) (w : World) : Calls Try.prog 11 #[.int .i64 26, .bool false, .int .u64 (U a), .int .u64 (U b)] w fun e w' => e = .returned (.tuple #[.int .u64 (U (mulHi a b)), .bool true]) ∧ w = w' := by
  skip
  go_enter Try.func11, Try.ntmps11
  go_wp2_with (first | (go_at_call 23; refine (upper_mulhu _ _ _).mono ?_; rintro e w' ⟨rfl, rfl⟩) | (go_at_call 22; refine (truth_any _ _).mono ?_; rintro e w' ⟨rfl, rfl⟩))
  go_ret2
  exact ⟨rfl, rfl⟩

set_option maxHeartbeats 400000 in
theorem Do_rest (k : Int) (a b : BitVec 64) (n16 : (k == 16) = false) (n17 : (k == 17) = false) (n18 : (k == 18) = false) (n21 : (k == 21) = false) (n22 : (k == 22) = false) (n24 : (k == 24) = false) (n25 : (k == 25) = false) (n26 : (k == 26) = false) (w : World) : Calls Try.prog 11 #[.int .i64 k, .bool false, .int .u64 (U a), .int .u64 (U b)] w fun e w' => e = .returned (.tuple #[.int .u64 (U (doW k a b).1), .bool (doW k a b).2]) ∧ w = w' := by
  go_enter Try.func11, Try.ntmps11
  go_wp2_with (go_at_call 24; refine (do64_any _ _ _ _).mono ?_; rintro e w' ⟨rfl, rfl⟩)
  go_ret2
  exact ⟨rfl, rfl⟩

theorem Do_any (k : Int) (word : Bool) (a b : BitVec 64) (w : World) : Calls Try.prog 11 #[.int .i64 k, .bool word, .int .u64 (U a), .int .u64 (U b)] w fun e w' => e = .returned (.tuple #[.int .u64 (U (doD k word a b).1), .bool (doD k word a b).2]) ∧ w = w' := by
  cases word
  · by_cases k16 : k = 16
    · subst k16; exact Do_slt a b w
    by_cases k17 : k = 17
    · subst k17; exact Do_sltu a b w
    by_cases k18 : k = 18
    · subst k18; exact Do_xor a b w
    by_cases k21 : k = 21
    · subst k21; exact Do_or a b w
    by_cases k22 : k = 22
    · subst k22; exact Do_and a b w
    by_cases k24 : k = 24
    · subst k24; exact Do_mulh a b w
    by_cases k25 : k = 25
    · subst k25; exact Do_mulhsu a b w
    by_cases k26 : k = 26
    · subst k26; exact Do_mulhu a b w
    have e : doD k false a b = doW k a b := by simp [doD, k16, k17, k18, k21, k22, k24, k25, k26]
    rw [e]
    exact Do_rest k a b (beq_eq_false_iff_ne.2 k16) (beq_eq_false_iff_ne.2 k17) (beq_eq_false_iff_ne.2 k18) (beq_eq_false_iff_ne.2 k21) (beq_eq_false_iff_ne.2 k22) (beq_eq_false_iff_ne.2 k24) (beq_eq_false_iff_ne.2 k25) (beq_eq_false_iff_ne.2 k26) w
  · exact Do_word k a b w

def extD (v : BitVec 64) (size : Int) (unsigned : Bool) : BitVec 64 × Bool :=
  if size = 1 then (if unsigned then Z (v.setWidth 8) else (v.setWidth 8).signExtend 64, true)
  else if size = 2 then (if unsigned then Z (v.setWidth 16) else (v.setWidth 16).signExtend 64, true)
  else if size = 4 then (if unsigned then Z (v.setWidth 32) else (v.setWidth 32).signExtend 64, true)
  else if size = 8 then (v, true)
  else (0#64, false)

theorem ext_u (n : Nat) (h : n ≤ 64) (v : BitVec 64) : (v <<< (64 - n)) >>> (64 - n) = Z (v.setWidth n) := by
  apply BitVec.eq_of_toNat_eq
  rw [Z_low h, BitVec.toNat_ushiftRight, BitVec.toNat_shiftLeft, Nat.shiftLeft_eq, Nat.shiftRight_eq_div_pow]
  have e : (2 : Nat) ^ 64 = 2 ^ n * 2 ^ (64 - n) := by rw [← Nat.pow_add]; congr 1; omega
  rw [e, Nat.mul_mod_mul_right, Nat.mul_div_cancel _ (Nat.two_pow_pos _)]
theorem ext_s (n : Nat) (h0 : 0 < n) (h : n ≤ 64) (v : BitVec 64) : (v <<< (64 - n)).sshiftRight (64 - n) = (v.setWidth n).signExtend 64 := by
  apply BitVec.eq_of_getLsbD_eq
  intro i hi
  rw [BitVec.getLsbD_sshiftRight, BitVec.getLsbD_signExtend]
  simp only [hi, decide_true, Bool.true_and, BitVec.getLsbD_shiftLeft, BitVec.getLsbD_setWidth]
  have m1 : (v <<< (64 - n)).msb = (v.setWidth n).msb := by
    rw [BitVec.msb_eq_getLsbD_last, BitVec.msb_eq_getLsbD_last, BitVec.getLsbD_shiftLeft, BitVec.getLsbD_setWidth]
    have : 64 - 1 - (64 - n) = n - 1 := by omega
    rw [this]
    have h1 : ¬ (64 - 1 < 64 - n) := by omega
    have h2 : n - 1 < n := by omega
    simp [h1, h2]
  rw [m1]
  by_cases h3 : i < n
  · have h4 : 64 - n + i < 64 := by omega
    have h5 : ¬ 64 - n + i < 64 - n := by omega
    have h6 : 64 - n + i - (64 - n) = i := by omega
    have h7 : ¬ 64 ≤ i := by omega
    simp [h3, h4, h5, h6, h7]
  · have h4 : ¬ 64 - n + i < 64 := by omega
    have h7 : ¬ 64 ≤ i := by omega
    simp [h3, h4, h7]

set_option maxHeartbeats 400000 in
theorem Extend_1_true (v : BitVec 64) (w : World) : Calls Try.prog 18 #[.int .u64 (U v), .int .i64 1, .bool true] w fun e w' => e = .returned (.tuple #[.int .u64 (U (Z (v.setWidth 8))), .bool true]) ∧ w = w' := by
  go_enter Try.func18, Try.ntmps18
  go_wp2
  go_ret2
  exact ⟨ret2 (int_eq (congrArg U (ext_u 8 (by decide) v))) rfl, rfl⟩

set_option maxHeartbeats 400000 in
theorem Extend_1_false (v : BitVec 64) (w : World) : Calls Try.prog 18 #[.int .u64 (U v), .int .i64 1, .bool false] w fun e w' => e = .returned (.tuple #[.int .u64 (U ((v.setWidth 8).signExtend 64)), .bool true]) ∧ w = w' := by
  go_enter Try.func18, Try.ntmps18
  go_wp2
  go_ret2
  exact ⟨ret2 (int_eq (congrArg U (ext_s 8 (by decide) (by decide) v))) rfl, rfl⟩

set_option maxHeartbeats 400000 in
theorem Extend_2_true (v : BitVec 64) (w : World) : Calls Try.prog 18 #[.int .u64 (U v), .int .i64 2, .bool true] w fun e w' => e = .returned (.tuple #[.int .u64 (U (Z (v.setWidth 16))), .bool true]) ∧ w = w' := by
  go_enter Try.func18, Try.ntmps18
  go_wp2
  go_ret2
  exact ⟨ret2 (int_eq (congrArg U (ext_u 16 (by decide) v))) rfl, rfl⟩

set_option maxHeartbeats 400000 in
theorem Extend_2_false (v : BitVec 64) (w : World) : Calls Try.prog 18 #[.int .u64 (U v), .int .i64 2, .bool false] w fun e w' => e = .returned (.tuple #[.int .u64 (U ((v.setWidth 16).signExtend 64)), .bool true]) ∧ w = w' := by
  go_enter Try.func18, Try.ntmps18
  go_wp2
  go_ret2
  exact ⟨ret2 (int_eq (congrArg U (ext_s 16 (by decide) (by decide) v))) rfl, rfl⟩

set_option maxHeartbeats 400000 in
theorem Extend_4_true (v : BitVec 64) (w : World) : Calls Try.prog 18 #[.int .u64 (U v), .int .i64 4, .bool true] w fun e w' => e = .returned (.tuple #[.int .u64 (U (Z (v.setWidth 32))), .bool true]) ∧ w = w' := by
  go_enter Try.func18, Try.ntmps18
  go_wp2
  go_ret2
  exact ⟨ret2 (int_eq (congrArg U (ext_u 32 (by decide) v))) rfl, rfl⟩

set_option maxHeartbeats 400000 in
theorem Extend_4_false (v : BitVec 64) (w : World) : Calls Try.prog 18 #[.int .u64 (U v), .int .i64 4, .bool false] w fun e w' => e = .returned (.tuple #[.int .u64 (U ((v.setWidth 32).signExtend 64)), .bool true]) ∧ w = w' := by
  go_enter Try.func18, Try.ntmps18
  go_wp2
  go_ret2
  exact ⟨ret2 (int_eq (congrArg U (ext_s 32 (by decide) (by decide) v))) rfl, rfl⟩

set_option maxHeartbeats 400000 in
theorem Extend_8_true (v : BitVec 64) (w : World) : Calls Try.prog 18 #[.int .u64 (U v), .int .i64 8, .bool true] w fun e w' => e = .returned (.tuple #[.int .u64 (U (v)), .bool true]) ∧ w = w' := by
  go_enter Try.func18, Try.ntmps18
  go_wp2
  go_ret2
  exact ⟨ret2 (int_eq (congrArg U (by simp))) rfl, rfl⟩

set_option maxHeartbeats 400000 in
theorem Extend_8_false (v : BitVec 64) (w : World) : Calls Try.prog 18 #[.int .u64 (U v), .int .i64 8, .bool false] w fun e w' => e = .returned (.tuple #[.int .u64 (U (v)), .bool true]) ∧ w = w' := by
  go_enter Try.func18, Try.ntmps18
  go_wp2
  go_ret2
  exact ⟨ret2 (int_eq (congrArg U (by simp))) rfl, rfl⟩

set_option maxHeartbeats 400000 in
theorem Extend_none (v : BitVec 64) (size : Int) (unsigned : Bool) (n1 : (size == 1) = false) (n2 : (size == 2) = false) (n4 : (size == 4) = false) (n8 : (size == 8) = false) (w : World) : Calls Try.prog 18 #[.int .u64 (U v), .int .i64 size, .bool unsigned] w fun e w' => e = .returned (.tuple #[.int .u64 (U 0#64), .bool false]) ∧ w = w' := by
  go_enter Try.func18, Try.ntmps18
  go_wp2
  go_ret2
  exact ⟨rfl, rfl⟩

theorem Extend_any (v : BitVec 64) (size : Int) (unsigned : Bool) (w : World) : Calls Try.prog 18 #[.int .u64 (U v), .int .i64 size, .bool unsigned] w fun e w' => e = .returned (.tuple #[.int .u64 (U (extD v size unsigned).1), .bool (extD v size unsigned).2]) ∧ w = w' := by
  by_cases h1 : size = 1
  · subst h1; cases unsigned
    · exact Extend_1_false v w
    · exact Extend_1_true v w
  by_cases h2 : size = 2
  · subst h2; cases unsigned
    · exact Extend_2_false v w
    · exact Extend_2_true v w
  by_cases h4 : size = 4
  · subst h4; cases unsigned
    · exact Extend_4_false v w
    · exact Extend_4_true v w
  by_cases h8 : size = 8
  · subst h8; cases unsigned
    · exact Extend_8_false v w
    · exact Extend_8_true v w
  have e : extD v size unsigned = (0#64, false) := by simp [extD, h1, h2, h4, h8]
  rw [e]
  exact Extend_none v size unsigned (beq_eq_false_iff_ne.2 h1) (beq_eq_false_iff_ne.2 h2) (beq_eq_false_iff_ne.2 h4) (beq_eq_false_iff_ne.2 h8) w

end Go.Proofs.Ytkmdahokomnjcaa