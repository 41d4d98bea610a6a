/-
  The walks of alu.Branch and alu.Atomic. (Printed by gen_aluc.py.)
-/
import Derived.Test.YtkmdahokomnjcaaAluB
namespace Go.Proofs.Ytkmdahokomnjcaa
open Go.RowKit

def brD (k : Int) (a b : BitVec 64) : Bool × Bool :=
  if k = 5 then (a == b, true)
  else if k = 6 then (a != b, true)
  else if k = 7 then (a.slt b, true)
  else if k = 8 then (!a.slt b, true)
  else if k = 9 then (a.ult b, true)
  else if k = 10 then (!a.ult b, true)
  else (false, false)

set_option maxHeartbeats 400000 in
theorem Branch_5 (a b : BitVec 64) (w : World) : Calls Try.prog 14 #[.int .i64 5, .int .u64 (U a), .int .u64 (U b)] w fun e w' => e = .returned (.tuple #[.bool (a == b), .bool true]) ∧ w = w' := by
  go_enter Try.func14, Try.ntmps14
  go_wp2
  go_ret2
  exact ⟨ret2 (bool_eq (U_beq a b)) rfl, rfl⟩

set_option maxHeartbeats 400000 in
theorem Branch_6 (a b : BitVec 64) (w : World) : Calls Try.prog 14 #[.int .i64 6, .int .u64 (U a), .int .u64 (U b)] w fun e w' => e = .returned (.tuple #[.bool (a != b), .bool true]) ∧ w = w' := by
  go_enter Try.func14, Try.ntmps14
  go_wp2
  go_ret2
  exact ⟨ret2 (bool_eq (U_bne a b)) rfl, rfl⟩

set_option maxHeartbeats 400000 in
theorem Branch_7 (a b : BitVec 64) (w : World) : Calls Try.prog 14 #[.int .i64 7, .int .u64 (U a), .int .u64 (U b)] w fun e w' => e = .returned (.tuple #[.bool (a.slt b), .bool true]) ∧ w = w' := by
  go_enter Try.func14, Try.ntmps14
  go_wp2
  go_ret2
  exact ⟨ret2 (bool_eq ((slt_S a b).symm)) rfl, rfl⟩

set_option maxHeartbeats 400000 in
theorem Branch_8 (a b : BitVec 64) (w : World) : Calls Try.prog 14 #[.int .i64 8, .int .u64 (U a), .int .u64 (U b)] w fun e w' => e = .returned (.tuple #[.bool (!a.slt b), .bool true]) ∧ w = w' := by
  go_enter Try.func14, Try.ntmps14
  go_wp2
  go_ret2
  exact ⟨ret2 (bool_eq (by rw [slt_S, ← decide_not]; exact decide_eq_decide.2 Int.not_lt.symm)) rfl, rfl⟩

set_option maxHeartbeats 400000 in
theorem Branch_9 (a b : BitVec 64) (w : World) : Calls Try.prog 14 #[.int .i64 9, .int .u64 (U a), .int .u64 (U b)] w fun e w' => e = .returned (.tuple #[.bool (a.ult b), .bool true]) ∧ w = w' := by
  go_enter Try.func14, Try.ntmps14
  go_wp2
  go_ret2
  exact ⟨ret2 (bool_eq ((ult_U a b).symm)) rfl, rfl⟩

set_option maxHeartbeats 400000 in
theorem Branch_10 (a b : BitVec 64) (w : World) : Calls Try.prog 14 #[.int .i64 10, .int .u64 (U a), .int .u64 (U b)] w fun e w' => e = .returned (.tuple #[.bool (!a.ult b), .bool true]) ∧ w = w' := by
  go_enter Try.func14, Try.ntmps14
  go_wp2
  go_ret2
  exact ⟨ret2 (bool_eq (by rw [ult_U, ← decide_not]; exact decide_eq_decide.2 Int.not_lt.symm)) rfl, rfl⟩

set_option maxHeartbeats 400000 in
theorem Branch_none (k : Int) (a b : BitVec 64) (n5 : (k == 5) = false) (n6 : (k == 6) = false) (n7 : (k == 7) = false) (n8 : (k == 8) = false) (n9 : (k == 9) = false) (n10 : (k == 10) = false) (w : World) : Calls Try.prog 14 #[.int .i64 k, .int .u64 (U a), .int .u64 (U b)] w fun e w' => e = .returned (.tuple #[.bool false, .bool false]) ∧ w = w' := by
  go_enter Try.func14, Try.ntmps14
  go_wp2
  go_ret2
  exact ⟨rfl, rfl⟩

theorem Branch_any (k : Int) (a b : BitVec 64) (w : World) : Calls Try.prog 14 #[.int .i64 k, .int .u64 (U a), .int .u64 (U b)] w fun e w' => e = .returned (.tuple #[.bool (brD k a b).1, .bool (brD k a b).2]) ∧ w = w' := by
  by_cases k5 : k = 5
  · subst k5; exact Branch_5 a b w
  by_cases k6 : k = 6
  · subst k6; exact Branch_6 a b w
  by_cases k7 : k = 7
  · subst k7; exact Branch_7 a b w
  by_cases k8 : k = 8
  · subst k8; exact Branch_8 a b w
  by_cases k9 : k = 9
  · subst k9; exact Branch_9 a b w
  by_cases k10 : k = 10
  · subst k10; exact Branch_10 a b w
  have e : brD k a b = (false, false) := by simp [brD, k5, k6, k7, k8, k9, k10]
  rw [e]
  exact Branch_none k a b (beq_eq_false_iff_ne.2 k5) (beq_eq_false_iff_ne.2 k6) (beq_eq_false_iff_ne.2 k7) (beq_eq_false_iff_ne.2 k8) (beq_eq_false_iff_ne.2 k9) (beq_eq_false_iff_ne.2 k10) w

def atW {w : Nat} (k : Int) (x y : BitVec w) : BitVec w × Bool :=
  if k = 40 then (y, true)
  else if k = 41 then (x + y, true)
  else if k = 42 then (x ^^^ y, true)
  else if k = 43 then (x &&& y, true)
  else if k = 44 then (x ||| y, true)
  else if k = 45 then (if x.slt y then x else y, true)
  else if k = 46 then (if y.slt x then x else y, true)
  else if k = 47 then (if y.ult x then y else x, true)
  else if k = 48 then (if x.ult y then y else x, true)
  else (0#w, false)

def atD (k size : Int) (old v : BitVec 64) : BitVec 64 × Bool :=
  if size = 4 then (Z (atW k (old.setWidth 32) (v.setWidth 32)).1, (atW k (old.setWidth 32) (v.setWidth 32)).2)
  else if size = 8 then atW k old v
  else (0#64, false)

theorem mask32 (t : BitVec 64) : t &&& 4294967295#64 = Z (t.setWidth 32) := by
  apply BitVec.eq_of_toNat_eq
  rw [Z_low (by decide), BitVec.toNat_and]
  exact Nat.and_two_pow_sub_one_eq_mod t.toNat 32
theorem mask64 (t : BitVec 64) : t &&& 18446744073709551615#64 = t := by
  have : 18446744073709551615#64 = BitVec.allOnes 64 := by decide
  rw [this, BitVec.and_allOnes]
theorem Z_ult {w : Nat} (hw : w ≤ 64) (x y : BitVec w) : (Z x).ult (Z y) = x.ult y := by
  rw [BitVec.ult_eq_decide, BitVec.ult_eq_decide, Z_toNat hw, Z_toNat hw]
theorem sext_slt (x y : BitVec 32) : (x.signExtend 64).slt (y.signExtend 64) = x.slt y := by
  rw [BitVec.slt_eq_decide, BitVec.slt_eq_decide, BitVec.toInt_signExtend_of_le (by decide), BitVec.toInt_signExtend_of_le (by decide)]
theorem ext4_Z (x : BitVec 32) : (extD (Z x) 4 false).1 = x.signExtend 64 := by simp [extD, Z_back]
theorem ext8_Z (x : BitVec 64) : (extD x 8 false).1 = x := by simp [extD]

set_option maxHeartbeats 400000 in
theorem Atomic_4_40 (old v : BitVec 64) (x y : BitVec 32) (hx : x = old.setWidth 32) (hy : y = v.setWidth 32) (w : World) : Calls Try.prog 16 #[.int .i64 40, .int .i64 4, .int .u64 (U old), .int .u64 (U v)] w fun e w' => e = .returned (.tuple #[.int .u64 (U (Z (y))), .bool true]) ∧ w = w' := by
  have mo : old &&& 4294967295#64 = Z x := by rw [mask32, hx]
  have mv : v &&& 4294967295#64 = Z y := by rw [mask32, hy]
  clear hx hy
  go_enter Try.func16, Try.ntmps16
  go_wp2_with fail
  refine (Extend_any _ _ _ _).mono ?_
  rintro e w' ⟨rfl, rfl⟩
  go_wp2_with fail
  refine (Extend_any _ _ _ _).mono ?_
  rintro e w' ⟨rfl, rfl⟩
  go_wp2_with fail
  go_ret2
  exact ⟨ret2 (int_eq (congrArg U (by rw [mask32]; simp [Z]))) rfl, rfl⟩

set_option maxHeartbeats 400000 in
theorem Atomic_4_41 (old v : BitVec 64) (x y : BitVec 32) (hx : x = old.setWidth 32) (hy : y = v.setWidth 32) (w : World) : Calls Try.prog 16 #[.int .i64 41, .int .i64 4, .int .u64 (U old), .int .u64 (U v)] w fun e w' => e = .returned (.tuple #[.int .u64 (U (Z (x + y))), .bool true]) ∧ w = w' := by
  have mo : old &&& 4294967295#64 = Z x := by rw [mask32, hx]
  have mv : v &&& 4294967295#64 = Z y := by rw [mask32, hy]
  clear hx hy
  go_enter Try.func16, Try.ntmps16
  go_wp2_with fail
  refine (Extend_any _ _ _ _).mono ?_
  rintro e w' ⟨rfl, rfl⟩
  go_wp2_with fail
  refine (Extend_any _ _ _ _).mono ?_
  rintro e w' ⟨rfl, rfl⟩
  go_wp2_with fail
  go_ret2
  exact ⟨ret2 (int_eq (congrArg U (by rw [mask32]; simp [Z, BitVec.setWidth_add]))) rfl, rfl⟩

set_option maxHeartbeats 400000 in
theorem Atomic_4_42 (old v : BitVec 64) (x y : BitVec 32) (hx : x = old.setWidth 32) (hy : y = v.setWidth 32) (w : World) : Calls Try.prog 16 #[.int .i64 42, .int .i64 4, .int .u64 (U old), .int .u64 (U v)] w fun e w' => e = .returned (.tuple #[.int .u64 (U (Z (x ^^^ y))), .bool true]) ∧ w = w' := by
  have mo : old &&& 4294967295#64 = Z x := by rw [mask32, hx]
  have mv : v &&& 4294967295#64 = Z y := by rw [mask32, hy]
  clear hx hy
  go_enter Try.func16, Try.ntmps16
  go_wp2_with fail
  refine (Extend_any _ _ _ _).mono ?_
  rintro e w' ⟨rfl, rfl⟩
  go_wp2_with fail
  refine (Extend_any _ _ _ _).mono ?_
  rintro e w' ⟨rfl, rfl⟩
  go_wp2_with fail
  go_ret2
  exact ⟨ret2 (int_eq (congrArg U (by rw [mask32]; simp [Z]))) rfl, rfl⟩

set_option maxHeartbeats 400000 in
theorem Atomic_4_43 (old v : BitVec 64) (x y : BitVec 32) (hx : x = old.setWidth 32) (hy : y = v.setWidth 32) (w : World) : Calls Try.prog 16 #[.int .i64 43, .int .i64 4, .int .u64 (U old), .int .u64 (U v)] w fun e w' => e = .returned (.tuple #[.int .u64 (U (Z (x &&& y))), .bool true]) ∧ w = w' := by
  have mo : old &&& 4294967295#64 = Z x := by rw [mask32, hx]
  have mv : v &&& 4294967295#64 = Z y := by rw [mask32, hy]
  clear hx hy
  go_enter Try.func16, Try.ntmps16
  go_wp2_with fail
  refine (Extend_any _ _ _ _).mono ?_
  rintro e w' ⟨rfl, rfl⟩
  go_wp2_with fail
  refine (Extend_any _ _ _ _).mono ?_
  rintro e w' ⟨rfl, rfl⟩
  go_wp2_with fail
  go_ret2
  exact ⟨ret2 (int_eq (congrArg U (by rw [mask32]; simp [Z]))) rfl, rfl⟩

set_option maxHeartbeats 400000 in
theorem Atomic_4_44 (old v : BitVec 64) (x y : BitVec 32) (hx : x = old.setWidth 32) (hy : y = v.setWidth 32) (w : World) : Calls Try.prog 16 #[.int .i64 44, .int .i64 4, .int .u64 (U old), .int .u64 (U v)] w fun e w' => e = .returned (.tuple #[.int .u64 (U (Z (x ||| y))), .bool true]) ∧ w = w' := by
  have mo : old &&& 4294967295#64 = Z x := by rw [mask32, hx]
  have mv : v &&& 4294967295#64 = Z y := by rw [mask32, hy]
  clear hx hy
  go_enter Try.func16, Try.ntmps16
  go_wp2_with fail
  refine (Extend_any _ _ _ _).mono ?_
  rintro e w' ⟨rfl, rfl⟩
  go_wp2_with fail
  refine (Extend_any _ _ _ _).mono ?_
  rintro e w' ⟨rfl, rfl⟩
  go_wp2_with fail
  go_ret2
  exact ⟨ret2 (int_eq (congrArg U (by rw [mask32]; simp [Z]))) rfl, rfl⟩

set_option maxHeartbeats 400000 in
theorem Atomic_4_45 (old v : BitVec 64) (x y : BitVec 32) (hx : x = old.setWidth 32) (hy : y = v.setWidth 32) (w : World) : Calls Try.prog 16 #[.int .i64 45, .int .i64 4, .int .u64 (U old), .int .u64 (U v)] w fun e w' => e = .returned (.tuple #[.int .u64 (U (Z (if x.slt y then x else y))), .bool true]) ∧ w = w' := by
  have mo : old &&& 4294967295#64 = Z x := by rw [mask32, hx]
  have mv : v &&& 4294967295#64 = Z y := by rw [mask32, hy]
  clear hx hy
  have hc : x.slt y = decide (S (extD (Z x) 4 false).1 < S (extD (Z y) 4 false).1) := by rw [← slt_S, ext4_Z, ext4_Z, sext_slt]
  rcases h : x.slt y with _ | _
  all_goals
    rw [h] at hc
    have hd := hc.symm
    clear hc
    simp only [decide_eq_true_eq, decide_eq_false_iff_not] at hd
    have H := hide h
    clear h
    go_enter Try.func16, Try.ntmps16
    go_wp2_with (go_at_call 18; refine (Extend_any _ _ _ _).mono ?_; rintro e w' ⟨rfl, rfl⟩)
    go_ret2
    exact ⟨ret2 (int_eq (congrArg U (by rw [mask32]; simp [Z]))) rfl, rfl⟩

set_option maxHeartbeats 400000 in
theorem Atomic_4_46 (old v : BitVec 64) (x y : BitVec 32) (hx : x = old.setWidth 32) (hy : y = v.setWidth 32) (w : World) : Calls Try.prog 16 #[.int .i64 46, .int .i64 4, .int .u64 (U old), .int .u64 (U v)] w fun e w' => e = .returned (.tuple #[.int .u64 (U (Z (if y.slt x then x else y))), .bool true]) ∧ w = w' := by
  have mo : old &&& 4294967295#64 = Z x := by rw [mask32, hx]
  have mv : v &&& 4294967295#64 = Z y := by rw [mask32, hy]
  clear hx hy
  have hc : y.slt x = decide (S (extD (Z y) 4 false).1 < S (extD (Z x) 4 false).1) := by rw [← slt_S, ext4_Z, ext4_Z, sext_slt]
  rcases h : y.slt x with _ | _
  all_goals
    rw [h] at hc
    have hd := hc.symm
    clear hc
    simp only [decide_eq_true_eq, decide_eq_false_iff_not] at hd
    have H := hide h
    clear h
    go_enter Try.func16, Try.ntmps16
    go_wp2_with (go_at_call 18; refine (Extend_any _ _ _ _).mono ?_; rintro e w' ⟨rfl, rfl⟩)
    go_ret2
    exact ⟨ret2 (int_eq (congrArg U (by rw [mask32]; simp [Z]))) rfl, rfl⟩

set_option maxHeartbeats 400000 in
theorem Atomic_4_47 (old v : BitVec 64) (x y : BitVec 32) (hx : x = old.setWidth 32) (hy : y = v.setWidth 32) (w : World) : Calls Try.prog 16 #[.int .i64 47, .int .i64 4, .int .u64 (U old), .int .u64 (U v)] w fun e w' => e = .returned (.tuple #[.int .u64 (U (Z (if y.ult x then y else x))), .bool true]) ∧ w = w' := by
  have mo : old &&& 4294967295#64 = Z x := by rw [mask32, hx]
  have mv : v &&& 4294967295#64 = Z y := by rw [mask32, hy]
  clear hx hy
  have hc : y.ult x = decide (U (Z y) < U (Z x)) := by rw [← ult_U, Z_ult (by decide)]
  rcases h : y.ult x with _ | _
  all_goals
    rw [h] at hc
    have hd := hc.symm
    clear hc
    simp only [decide_eq_true_eq, decide_eq_false_iff_not] at hd
    have H := hide h
    clear h
    go_enter Try.func16, Try.ntmps16
    go_wp2_with (go_at_call 18; refine (Extend_any _ _ _ _).mono ?_; rintro e w' ⟨rfl, rfl⟩)
    go_ret2
    exact ⟨ret2 (int_eq (congrArg U (by rw [mask32]; simp [Z]))) rfl, rfl⟩

set_option maxHeartbeats 400000 in
theorem Atomic_4_48 (old v : BitVec 64) (x y : BitVec 32) (hx : x = old.setWidth 32) (hy : y = v.setWidth 32) (w : World) : Calls Try.prog 16 #[.int .i64 48, .int .i64 4, .int .u64 (U old), .int .u64 (U v)] w fun e w' => e = .returned (.tuple #[.int .u64 (U (Z (if x.ult y then y else x))), .bool true]) ∧ w = w' := by
  have mo : old &&& 4294967295#64 = Z x := by rw [mask32, hx]
  have mv : v &&& 4294967295#64 = Z y := by rw [mask32, hy]
  clear hx hy
  have hc : x.ult y = decide (U (Z x) < U (Z y)) := by rw [← ult_U, Z_ult (by decide)]
  rcases h : x.ult y with _ | _
  all_goals
    rw [h] at hc
    have hd := hc.symm
    clear hc
    simp only [decide_eq_true_eq, decide_eq_false_iff_not] at hd
    have H := hide h
    clear h
    go_enter Try.func16, Try.ntmps16
    go_wp2_with (go_at_call 18; refine (Extend_any _ _ _ _).mono ?_; rintro e w' ⟨rfl, rfl⟩)
    go_ret2
    exact ⟨ret2 (int_eq (congrArg U (by rw [mask32]; simp [Z]))) rfl, rfl⟩

set_option maxHeartbeats 400000 in
theorem Atomic_8_40 (x y : BitVec 64) (w : World) : Calls Try.prog 16 #[.int .i64 40, .int .i64 8, .int .u64 (U x), .int .u64 (U y)] w fun e w' => e = .returned (.tuple #[.int .u64 (U (y)), .bool true]) ∧ w = w' := by
  have mo : x &&& 18446744073709551615#64 = x := mask64 x
  have mv : y &&& 18446744073709551615#64 = y := mask64 y
  go_enter Try.func16, Try.ntmps16
  go_wp2_with fail
  refine (Extend_any _ _ _ _).mono ?_
  rintro e w' ⟨rfl, rfl⟩
  go_wp2_with fail
  refine (Extend_any _ _ _ _).mono ?_
  rintro e w' ⟨rfl, rfl⟩
  go_wp2_with fail
  go_ret2
  exact ⟨ret2 (int_eq (congrArg U (by rfl))) rfl, rfl⟩

set_option maxHeartbeats 400000 in
theorem Atomic_8_41 (x y : BitVec 64) (w : World) : Calls Try.prog 16 #[.int .i64 41, .int .i64 8, .int .u64 (U x), .int .u64 (U y)] w fun e w' => e = .returned (.tuple #[.int .u64 (U (x + y)), .bool true]) ∧ w = w' := by
  have mo : x &&& 18446744073709551615#64 = x := mask64 x
  have mv : y &&& 18446744073709551615#64 = y := mask64 y
  go_enter Try.func16, Try.ntmps16
  go_wp2_with fail
  refine (Extend_any _ _ _ _).mono ?_
  rintro e w' ⟨rfl, rfl⟩
  go_wp2_with fail
  refine (Extend_any _ _ _ _).mono ?_
  rintro e w' ⟨rfl, rfl⟩
  go_wp2_with fail
  go_ret2
  exact ⟨ret2 (int_eq (congrArg U (mask64 _))) rfl, rfl⟩

set_option maxHeartbeats 400000 in
theorem Atomic_8_42 (x y : BitVec 64) (w : World) : Calls Try.prog 16 #[.int .i64 42, .int .i64 8, .int .u64 (U x), .int .u64 (U y)] w fun e w' => e = .returned (.tuple #[.int .u64 (U (x ^^^ y)), .bool true]) ∧ w = w' := by
  have mo : x &&& 18446744073709551615#64 = x := mask64 x
  have mv : y &&& 18446744073709551615#64 = y := mask64 y
  go_enter Try.func16, Try.ntmps16
  go_wp2_with fail
  refine (Extend_any _ _ _ _).mono ?_
  rintro e w' ⟨rfl, rfl⟩
  go_wp2_with fail
  refine (Extend_any _ _ _ _).mono ?_
  rintro e w' ⟨rfl, rfl⟩
  go_wp2_with fail
  go_ret2
  exact ⟨ret2 (int_eq (congrArg U (mask64 _))) rfl, rfl⟩

set_option maxHeartbeats 400000 in
theorem Atomic_8_43 (x y : BitVec 64) (w : World) : Calls Try.prog 16 #[.int .i64 43, .int .i64 8, .int .u64 (U x), .int .u64 (U y)] w fun e w' => e = .returned (.tuple #[.int .u64 (U (x &&& y)), .bool true]) ∧ w = w' := by
  have mo : x &&& 18446744073709551615#64 = x := mask64 x
  have mv : y &&& 18446744073709551615#64 = y := mask64 y
  go_enter Try.func16, Try.ntmps16
  go_wp2_with fail
  refine (Extend_any _ _ _ _).mono ?_
  rintro e w' ⟨rfl, rfl⟩
  go_wp2_with fail
  refine (Extend_any _ _ _ _).mono ?_
  rintro e w' ⟨rfl, rfl⟩
  go_wp2_with fail
  go_ret2
  exact ⟨ret2 (int_eq (congrArg U (mask64 _))) rfl, rfl⟩

set_option maxHeartbeats 400000 in
theorem Atomic_8_44 (x y : BitVec 64) (w : World) : Calls Try.prog 16 #[.int .i64 44, .int .i64 8, .int .u64 (U x), .int .u64 (U y)] w fun e w' => e = .returned (.tuple #[.int .u64 (U (x ||| y)), .bool true]) ∧ w = w' := by
  have mo : x &&& 18446744073709551615#64 = x := mask64 x
  have mv : y &&& 18446744073709551615#64 = y := mask64 y
  go_enter Try.func16, Try.ntmps16
  go_wp2_with fail
  refine (Extend_any _ _ _ _).mono ?_
  rintro e w' ⟨rfl, rfl⟩
  go_wp2_with fail
  refine (Extend_any _ _ _ _).mono ?_
  rintro e w' ⟨rfl, rfl⟩
  go_wp2_with fail
  go_ret2
  exact ⟨ret2 (int_eq (congrArg U (mask64 _))) rfl, rfl⟩

set_option maxHeartbeats 400000 in
theorem Atomic_8_45 (x y : BitVec 64) (w : World) : Calls Try.prog 16 #[.int .i64 45, .int .i64 8, .int .u64 (U x), .int .u64 (U y)] w fun e w' => e = .returned (.tuple #[.int .u64 (U (if x.slt y then x else y)), .bool true]) ∧ w = w' := by
  have mo : x &&& 18446744073709551615#64 = x := mask64 x
  have mv : y &&& 18446744073709551615#64 = y := mask64 y
  have hc : x.slt y = decide (S (extD (x) 8 false).1 < S (extD (y) 8 false).1) := by rw [← slt_S, ext8_Z, ext8_Z]
  rcases h : x.slt y with _ | _
  all_goals
    rw [h] at hc
    have hd := hc.symm
    clear hc
    simp only [decide_eq_true_eq, decide_eq_false_iff_not] at hd
    have H := hide h
    clear h
    go_enter Try.func16, Try.ntmps16
    go_wp2_with (go_at_call 18; refine (Extend_any _ _ _ _).mono ?_; rintro e w' ⟨rfl, rfl⟩)
    go_ret2
    exact ⟨ret2 (int_eq (congrArg U (by rfl))) rfl, rfl⟩

set_option maxHeartbeats 400000 in
theorem Atomic_8_46 (x y : BitVec 64) (w : World) : Calls Try.prog 16 #[.int .i64 46, .int .i64 8, .int .u64 (U x), .int .u64 (U y)] w fun e w' => e = .returned (.tuple #[.int .u64 (U (if y.slt x then x else y)), .bool true]) ∧ w = w' := by
  have mo : x &&& 18446744073709551615#64 = x := mask64 x
  have mv : y &&& 18446744073709551615#64 = y := mask64 y
  have hc : y.slt x = decide (S (extD (y) 8 false).1 < S (extD (x) 8 false).1) := by rw [← slt_S, ext8_Z, ext8_Z]
  rcases h : y.slt x with _ | _
  all_goals
    rw [h] at hc
    have hd := hc.symm
    clear hc
    simp only [decide_eq_true_eq, decide_eq_false_iff_not] at hd
    have H := hide h
    clear h
    go_enter Try.func16, Try.ntmps16
    go_wp2_with (go_at_call 18; refine (Extend_any _ _ _ _).mono ?_; rintro e w' ⟨rfl, rfl⟩)
    go_ret2
    exact ⟨ret2 (int_eq (congrArg U (by rfl))) rfl, rfl⟩

set_option maxHeartbeats 400000 in
theorem Atomic_8_47 (x y : BitVec 64) (w : World) : Calls Try.prog 16 #[.int .i64 47, .int .i64 8, .int .u64 (U x), .int .u64 (U y)] w fun e w' => e = .returned (.tuple #[.int .u64 (U (if y.ult x then y else x)), .bool true]) ∧ w = w' := by
  have mo : x &&& 18446744073709551615#64 = x := mask64 x
  have mv : y &&& 18446744073709551615#64 = y := mask64 y
  have hc : y.ult x = decide (U (y) < U (x)) := by rw [← ult_U]
  rcases h : y.ult x with _ | _
  all_goals
    rw [h] at hc
    have hd := hc.symm
    clear hc
    simp only [decide_eq_true_eq, decide_eq_false_iff_not] at hd
    have H := hide h
    clear h
    go_enter Try.func16, Try.ntmps16
    go_wp2_with (go_at_call 18; refine (Extend_any _ _ _ _).mono ?_; rintro e w' ⟨rfl, rfl⟩)
    go_ret2
    exact ⟨ret2 (int_eq (congrArg U (by rfl))) rfl, rfl⟩

set_option maxHeartbeats 400000 in
theorem Atomic_8_48 (x y : BitVec 64) (w : World) : Calls Try.prog 16 #[.int .i64 48, .int .i64 8, .int .u64 (U x), .int .u64 (U y)] w fun e w' => e = .returned (.tuple #[.int .u64 (U (if x.ult y then y else x)), .bool true]) ∧ w = w' := by
  have mo : x &&& 18446744073709551615#64 = x := mask64 x
  have mv : y &&& 18446744073709551615#64 = y := mask64 y
  have hc : x.ult y = decide (U (x) < U (y)) := by rw [← ult_U]
  rcases h : x.ult y with _ | _
  all_goals
    rw [h] at hc
    have hd := hc.symm
    clear hc
    simp only [decide_eq_true_eq, decide_eq_false_iff_not] at hd
    have H := hide h
    clear h
    go_enter Try.func16, Try.ntmps16
    go_wp2_with (go_at_call 18; refine (Extend_any _ _ _ _).mono ?_; rintro e w' ⟨rfl, rfl⟩)
    go_ret2
    exact ⟨ret2 (int_eq (congrArg U (by rfl))) rfl, rfl⟩

set_option maxHeartbeats 400000 in
theorem Atomic_4_none (k : Int) (old v : BitVec 64) (n40 : (k == 40) = false) (n41 : (k == 41) = false) (n42 : (k == 42) = false) (n43 : (k == 43) = false) (n44 : (k == 44) = false) (n45 : (k == 45) = false) (n46 : (k == 46) = false) (n47 : (k == 47) = false) (n48 : (k == 48) = false) (w : World) : Calls Try.prog 16 #[.int .i64 k, .int .i64 4, .int .u64 (U old), .int .u64 (U v)] w fun e w' => e = .returned (.tuple #[.int .u64 (U 0#64), .bool false]) ∧ w = w' := by
  go_enter Try.func16, Try.ntmps16
  go_wp2_with (go_at_call 18; refine (Extend_any _ _ _ _).mono ?_; rintro e w' ⟨rfl, rfl⟩)
  go_ret2
  exact ⟨rfl, rfl⟩

set_option maxHeartbeats 400000 in
theorem Atomic_8_none (k : Int) (old v : BitVec 64) (n40 : (k == 40) = false) (n41 : (k == 41) = false) (n42 : (k == 42) = false) (n43 : (k == 43) = false) (n44 : (k == 44) = false) (n45 : (k == 45) = false) (n46 : (k == 46) = false) (n47 : (k == 47) = false) (n48 : (k == 48) = false) (w : World) : Calls Try.prog 16 #[.int .i64 k, .int .i64 8, .int .u64 (U old), .int .u64 (U v)] w fun e w' => e = .returned (.tuple #[.int .u64 (U 0#64), .bool false]) ∧ w = w' := by
  go_enter Try.func16, Try.ntmps16
  go_wp2_with (go_at_call 18; refine (Extend_any _ _ _ _).mono ?_; rintro e w' ⟨rfl, rfl⟩)
  go_ret2
  exact ⟨rfl, rfl⟩

set_option maxHeartbeats 400000 in
theorem Atomic_none (k size : Int) (old v : BitVec 64) (n4 : (size != 4) = true) (n8 : (size != 8) = true) (w : World) : Calls Try.prog 16 #[.int .i64 k, .int .i64 size, .int .u64 (U old), .int .u64 (U v)] w fun e w' => e = .returned (.tuple #[.int .u64 (U 0#64), .bool false]) ∧ w = w' := by
  go_enter Try.func16, Try.ntmps16
  go_wp2_with fail
  go_ret2
  exact ⟨rfl, rfl⟩

theorem Atomic_any (k size : Int) (old v : BitVec 64) (w : World) : Calls Try.prog 16 #[.int .i64 k, .int .i64 size, .int .u64 (U old), .int .u64 (U v)] w fun e w' => e = .returned (.tuple #[.int .u64 (U (atD k size old v).1), .bool (atD k size old v).2]) ∧ w = w' := by
  by_cases s4 : size = 4
  · subst s4
    by_cases k40 : k = 40
    · subst k40; exact Atomic_4_40 old v _ _ rfl rfl w
    by_cases k41 : k = 41
    · subst k41; exact Atomic_4_41 old v _ _ rfl rfl w
    by_cases k42 : k = 42
    · subst k42; exact Atomic_4_42 old v _ _ rfl rfl w
    by_cases k43 : k = 43
    · subst k43; exact Atomic_4_43 old v _ _ rfl rfl w
    by_cases k44 : k = 44
    · subst k44; exact Atomic_4_44 old v _ _ rfl rfl w
    by_cases k45 : k = 45
    · subst k45; exact Atomic_4_45 old v _ _ rfl rfl w
    by_cases k46 : k = 46
    · subst k46; exact Atomic_4_46 old v _ _ rfl rfl w
    by_cases k47 : k = 47
    · subst k47; exact Atomic_4_47 old v _ _ rfl rfl w
    by_cases k48 : k = 48
    · subst k48; exact Atomic_4_48 old v _ _ rfl rfl w
    have e : atD k 4 old v = (0#64, false) := by simp [atD, atW, Z, k40, k41, k42, k43, k44, k45, k46, k47, k48]
    rw [e]
    exact Atomic_4_none k old v (beq_eq_false_iff_ne.2 k40) (beq_eq_false_iff_ne.2 k41) (beq_eq_false_iff_ne.2 k42) (beq_eq_false_iff_ne.2 k43) (beq_eq_false_iff_ne.2 k44) (beq_eq_false_iff_ne.2 k45) (beq_eq_false_iff_ne.2 k46) (beq_eq_false_iff_ne.2 k47) (beq_eq_false_iff_ne.2 k48) w
  by_cases s8 : size = 8
  · subst s8
    by_cases k40 : k = 40
    · subst k40; exact Atomic_8_40 old v w
    by_cases k41 : k = 41
    · subst k41; exact Atomic_8_41 old v w
    by_cases k42 : k = 42
    · subst k42; exact Atomic_8_42 old v w
    by_cases k43 : k = 43
    · subst k43; exact Atomic_8_43 old v w
    by_cases k44 : k = 44
    · subst k44; exact Atomic_8_44 old v w
    by_cases k45 : k = 45
    · subst k45; exact Atomic_8_45 old v w
    by_cases k46 : k = 46
    · subst k46; exact Atomic_8_46 old v w
    by_cases k47 : k = 47
    · subst k47; exact Atomic_8_47 old v w
    by_cases k48 : k = 48
    · subst k48; exact Atomic_8_48 old v w
    have e : atD k 8 old v = (0#64, false) := by simp [atD, atW, k40, k41, k42, k43, k44, k45, k46, k47, k48]
    rw [e]
    exact Atomic_8_none k old v (beq_eq_false_iff_ne.2 k40) (beq_eq_false_iff_ne.2 k41) (beq_eq_false_iff_ne.2 k42) (beq_eq_false_iff_ne.2 k43) (beq_eq_false_iff_ne.2 k44) (beq_eq_false_iff_ne.2 k45) (beq_eq_false_iff_ne.2 k46) (beq_eq_false_iff_ne.2 k47) (beq_eq_false_iff_ne.2 k48) w
  have e : atD k size old v = (0#64, false) := by simp [atD, s4, s8]
  rw [e]
  exact Atomic_none k size old v (by simpa using s4) (by simpa using s8) w

end Go.Proofs.Ytkmdahokomnjcaa