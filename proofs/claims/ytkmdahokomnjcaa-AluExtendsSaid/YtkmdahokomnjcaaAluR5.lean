/-
  The walk of the document's Atomic (tandemref05), and the walks of the laws AluDoes, AluBranches, AluAtomics, AluExtends. (Printed by gen_alur5.py.)
-/
import Derived.Test.YtkmdahokomnjcaaAluR4
import Derived.Test.YtkmdahokomnjcaaAluL
namespace Go.Proofs.Ytkmdahokomnjcaa
set_option linter.unusedVariables false
open Go.RowKit

theorem low64 (a : BitVec 64) (w : World) : Calls Try.prog 26 #[.int .u64 (U a), .int .i64 64] w fun e w' => e = .returned (.int .u64 (U a)) ∧ w = w' := by
  have h := low_any a 64 (by decide) 64 rfl w
  have e : Z (a.setWidth 64) = a := by simp [Z]
  rwa [e] at h
theorem slt_other {k : Nat} (x y : BitVec k) : (if x.slt y then y else x) = (if y.slt x then x else y) := by
  rw [BitVec.slt_eq_decide, BitVec.slt_eq_decide]
  by_cases h : x.toInt < y.toInt
  · have h2 : ¬ y.toInt < x.toInt := by omega
    simp [h, h2]
  · by_cases h2 : y.toInt < x.toInt
    · simp [h, h2]
    · have e : x = y := BitVec.eq_of_toInt_eq (by omega)
      simp [e]
theorem ult_other {k : Nat} (x y : BitVec k) : (if x.ult y then x else y) = (if y.ult x then y else x) := by
  rw [BitVec.ult_eq_decide, BitVec.ult_eq_decide]
  by_cases h : x.toNat < y.toNat
  · have h2 : ¬ y.toNat < x.toNat := by omega
    simp [h, h2]
  · by_cases h2 : y.toNat < x.toNat
    · simp [h, h2]
    · have e : x = y := BitVec.eq_of_toNat_eq (by omega)
      simp [e]
theorem ult_Z {k : Nat} (hk : k ≤ 64) (x y : BitVec k) : decide (U (Z x) < U (Z y)) = x.ult y := by
  rw [Bool.eq_iff_iff, decide_eq_true_eq]; exact Z_lt hk x y

set_option maxHeartbeats 400000 in
theorem RAtomic_4_40 (old v : BitVec 64) (x y : BitVec 32) (HX : Hid (old.setWidth 32 = x)) (HY : Hid (v.setWidth 32 = y)) (w : World) : Calls Try.prog 17 #[.int .i64 40, .int .i64 4, .int .u64 (U old), .int .u64 (U v)] w fun e w' => e = .returned (.tuple #[.int .u64 (U (Z (y))), .bool true]) ∧ w = w' := by
  go_enter Try.func17, Try.ntmps17
  go_wp2_with fail
  refine (low_any _ 32 (by decide) _ rfl _).mono ?_; rintro e w' ⟨rfl, rfl⟩
  rw [HX.out]
  go_wp2_with fail
  refine (low_any _ 32 (by decide) _ rfl _).mono ?_; rintro e w' ⟨rfl, rfl⟩
  rw [HY.out]
  go_wp2_with fail
  refine (below_any x y (by decide) (by decide) _ rfl _).mono ?_; rintro e w' ⟨rfl, rfl⟩
  go_wp2_with fail
  go_ret2
  exact ⟨rret2 (rint (congrArg U (rfl))) rfl, rfl⟩

set_option maxHeartbeats 400000 in
theorem RAtomic_4_41 (old v : BitVec 64) (x y : BitVec 32) (HX : Hid (old.setWidth 32 = x)) (HY : Hid (v.setWidth 32 = y)) (w : World) : Calls Try.prog 17 #[.int .i64 41, .int .i64 4, .int .u64 (U old), .int .u64 (U v)] w fun e w' => e = .returned (.tuple #[.int .u64 (U (Z (x + y))), .bool true]) ∧ w = w' := by
  go_enter Try.func17, Try.ntmps17
  go_wp2_with fail
  refine (low_any _ 32 (by decide) _ rfl _).mono ?_; rintro e w' ⟨rfl, rfl⟩
  rw [HX.out]
  go_wp2_with fail
  refine (low_any _ 32 (by decide) _ rfl _).mono ?_; rintro e w' ⟨rfl, rfl⟩
  rw [HY.out]
  go_wp2_with fail
  refine (below_any x y (by decide) (by decide) _ rfl _).mono ?_; rintro e w' ⟨rfl, rfl⟩
  go_wp2_with fail
  refine (low_any _ 32 (by decide) _ rfl _).mono ?_; rintro e w' ⟨rfl, rfl⟩
  go_wp2_with fail
  go_ret2
  exact ⟨rret2 (rint (congrArg U (set_Z_add (by decide) x y))) rfl, rfl⟩

set_option maxHeartbeats 400000 in
theorem RAtomic_4_42 (old v : BitVec 64) (x y : BitVec 32) (HX : Hid (old.setWidth 32 = x)) (HY : Hid (v.setWidth 32 = y)) (w : World) : Calls Try.prog 17 #[.int .i64 42, .int .i64 4, .int .u64 (U old), .int .u64 (U v)] w fun e w' => e = .returned (.tuple #[.int .u64 (U (Z (x ^^^ y))), .bool true]) ∧ w = w' := by
  go_enter Try.func17, Try.ntmps17
  go_wp2_with fail
  refine (low_any _ 32 (by decide) _ rfl _).mono ?_; rintro e w' ⟨rfl, rfl⟩
  rw [HX.out]
  go_wp2_with fail
  refine (low_any _ 32 (by decide) _ rfl _).mono ?_; rintro e w' ⟨rfl, rfl⟩
  rw [HY.out]
  go_wp2_with fail
  refine (below_any x y (by decide) (by decide) _ rfl _).mono ?_; rintro e w' ⟨rfl, rfl⟩
  go_wp2_with fail
  go_ret2
  exact ⟨rret2 (rint (congrArg U (by rw [xor_andNot]; simp [Z]))) rfl, rfl⟩

set_option maxHeartbeats 400000 in
theorem RAtomic_4_43 (old v : BitVec 64) (x y : BitVec 32) (HX : Hid (old.setWidth 32 = x)) (HY : Hid (v.setWidth 32 = y)) (w : World) : Calls Try.prog 17 #[.int .i64 43, .int .i64 4, .int .u64 (U old), .int .u64 (U v)] w fun e w' => e = .returned (.tuple #[.int .u64 (U (Z (x &&& y))), .bool true]) ∧ w = w' := by
  go_enter Try.func17, Try.ntmps17
  go_wp2_with fail
  refine (low_any _ 32 (by decide) _ rfl _).mono ?_; rintro e w' ⟨rfl, rfl⟩
  rw [HX.out]
  go_wp2_with fail
  refine (low_any _ 32 (by decide) _ rfl _).mono ?_; rintro e w' ⟨rfl, rfl⟩
  rw [HY.out]
  go_wp2_with fail
  refine (below_any x y (by decide) (by decide) _ rfl _).mono ?_; rintro e w' ⟨rfl, rfl⟩
  go_wp2_with fail
  go_ret2
  exact ⟨rret2 (rint (congrArg U (by simp [Z]))) rfl, rfl⟩

set_option maxHeartbeats 400000 in
theorem RAtomic_4_44 (old v : BitVec 64) (x y : BitVec 32) (HX : Hid (old.setWidth 32 = x)) (HY : Hid (v.setWidth 32 = y)) (w : World) : Calls Try.prog 17 #[.int .i64 44, .int .i64 4, .int .u64 (U old), .int .u64 (U v)] w fun e w' => e = .returned (.tuple #[.int .u64 (U (Z (x ||| y))), .bool true]) ∧ w = w' := by
  go_enter Try.func17, Try.ntmps17
  go_wp2_with fail
  refine (low_any _ 32 (by decide) _ rfl _).mono ?_; rintro e w' ⟨rfl, rfl⟩
  rw [HX.out]
  go_wp2_with fail
  refine (low_any _ 32 (by decide) _ rfl _).mono ?_; rintro e w' ⟨rfl, rfl⟩
  rw [HY.out]
  go_wp2_with fail
  refine (below_any x y (by decide) (by decide) _ rfl _).mono ?_; rintro e w' ⟨rfl, rfl⟩
  go_wp2_with fail
  go_ret2
  exact ⟨rret2 (rint (congrArg U (by simp [Z]))) rfl, rfl⟩

set_option maxHeartbeats 400000 in
theorem RAtomic_4_45 (old v : BitVec 64) (x y : BitVec 32) (HX : Hid (old.setWidth 32 = x)) (HY : Hid (v.setWidth 32 = y)) (w : World) : Calls Try.prog 17 #[.int .i64 45, .int .i64 4, .int .u64 (U old), .int .u64 (U v)] w fun e w' => e = .returned (.tuple #[.int .u64 (U (Z (if x.slt y then x else y))), .bool true]) ∧ w = w' := by
  rcases h : x.slt y with _ | _
  all_goals
    have H := hide h
    clear h
    go_enter Try.func17, Try.ntmps17
    go_wp2_with fail
    refine (low_any _ 32 (by decide) _ rfl _).mono ?_; rintro e w' ⟨rfl, rfl⟩
    rw [HX.out]
    go_wp2_with fail
    refine (low_any _ 32 (by decide) _ rfl _).mono ?_; rintro e w' ⟨rfl, rfl⟩
    rw [HY.out]
    go_wp2_with fail
    refine (below_any x y (by decide) (by decide) _ rfl _).mono ?_; rintro e w' ⟨rfl, rfl⟩
    rw [H.out]
    go_wp2_with fail
    go_ret2
    exact ⟨rfl, rfl⟩

set_option maxHeartbeats 400000 in
theorem RAtomic_4_46 (old v : BitVec 64) (x y : BitVec 32) (HX : Hid (old.setWidth 32 = x)) (HY : Hid (v.setWidth 32 = y)) (w : World) : Calls Try.prog 17 #[.int .i64 46, .int .i64 4, .int .u64 (U old), .int .u64 (U v)] w fun e w' => e = .returned (.tuple #[.int .u64 (U (Z (if y.slt x then x else y))), .bool true]) ∧ w = w' := by
  rw [← slt_other]
  rcases h : x.slt y with _ | _
  all_goals
    have H := hide h
    clear h
    go_enter Try.func17, Try.ntmps17
    go_wp2_with fail
    refine (low_any _ 32 (by decide) _ rfl _).mono ?_; rintro e w' ⟨rfl, rfl⟩
    rw [HX.out]
    go_wp2_with fail
    refine (low_any _ 32 (by decide) _ rfl _).mono ?_; rintro e w' ⟨rfl, rfl⟩
    rw [HY.out]
    go_wp2_with fail
    refine (below_any x y (by decide) (by decide) _ rfl _).mono ?_; rintro e w' ⟨rfl, rfl⟩
    rw [H.out]
    go_wp2_with fail
    go_ret2
    exact ⟨rfl, rfl⟩

set_option maxHeartbeats 400000 in
theorem RAtomic_4_47 (old v : BitVec 64) (x y : BitVec 32) (HX : Hid (old.setWidth 32 = x)) (HY : Hid (v.setWidth 32 = y)) (w : World) : Calls Try.prog 17 #[.int .i64 47, .int .i64 4, .int .u64 (U old), .int .u64 (U v)] w fun e w' => e = .returned (.tuple #[.int .u64 (U (Z (if y.ult x then y else x))), .bool true]) ∧ w = w' := by
  rw [← ult_other]
  have hu : decide (U (Z x) < U (Z y)) = x.ult y := ult_Z (by decide) x y
  rcases h : x.ult y with _ | _
  all_goals
    rw [h] at hu
    have H := hide h
    clear h
    have hu2 := hu
    simp only [decide_eq_true_eq, decide_eq_false_iff_not] at hu
    go_enter Try.func17, Try.ntmps17
    go_wp2_with fail
    refine (low_any _ 32 (by decide) _ rfl _).mono ?_; rintro e w' ⟨rfl, rfl⟩
    rw [HX.out]
    go_wp2_with fail
    refine (low_any _ 32 (by decide) _ rfl _).mono ?_; rintro e w' ⟨rfl, rfl⟩
    rw [HY.out]
    go_wp2_with fail
    refine (below_any x y (by decide) (by decide) _ rfl _).mono ?_; rintro e w' ⟨rfl, rfl⟩
    go_wp2_with fail
    go_ret2
    exact ⟨rfl, rfl⟩

set_option maxHeartbeats 400000 in
theorem RAtomic_4_48 (old v : BitVec 64) (x y : BitVec 32) (HX : Hid (old.setWidth 32 = x)) (HY : Hid (v.setWidth 32 = y)) (w : World) : Calls Try.prog 17 #[.int .i64 48, .int .i64 4, .int .u64 (U old), .int .u64 (U v)] w fun e w' => e = .returned (.tuple #[.int .u64 (U (Z (if x.ult y then y else x))), .bool true]) ∧ w = w' := by
  have hu : decide (U (Z x) < U (Z y)) = x.ult y := ult_Z (by decide) x y
  rcases h : x.ult y with _ | _
  all_goals
    rw [h] at hu
    have H := hide h
    clear h
    have hu2 := hu
    simp only [decide_eq_true_eq, decide_eq_false_iff_not] at hu
    go_enter Try.func17, Try.ntmps17
    go_wp2_with fail
    refine (low_any _ 32 (by decide) _ rfl _).mono ?_; rintro e w' ⟨rfl, rfl⟩
    rw [HX.out]
    go_wp2_with fail
    refine (low_any _ 32 (by decide) _ rfl _).mono ?_; rintro e w' ⟨rfl, rfl⟩
    rw [HY.out]
    go_wp2_with fail
    refine (below_any x y (by decide) (by decide) _ rfl _).mono ?_; rintro e w' ⟨rfl, rfl⟩
    go_wp2_with fail
    go_ret2
    exact ⟨rfl, rfl⟩

set_option maxHeartbeats 400000 in
theorem RAtomic_8_40 (x y : BitVec 64) (w : World) : Calls Try.prog 17 #[.int .i64 40, .int .i64 8, .int .u64 (U x), .int .u64 (U y)] w fun e w' => e = .returned (.tuple #[.int .u64 (U ((y))), .bool true]) ∧ w = w' := by
  go_enter Try.func17, Try.ntmps17
  go_wp2_with fail
  refine (low64 _ _).mono ?_; rintro e w' ⟨rfl, rfl⟩
  go_wp2_with fail
  refine (low64 _ _).mono ?_; rintro e w' ⟨rfl, rfl⟩
  go_wp2_with fail
  refine (below64 x y _).mono ?_; rintro e w' ⟨rfl, rfl⟩
  go_wp2_with fail
  go_ret2
  exact ⟨rret2 (rint (congrArg U (rfl))) rfl, rfl⟩

set_option maxHeartbeats 400000 in
theorem RAtomic_8_41 (x y : BitVec 64) (w : World) : Calls Try.prog 17 #[.int .i64 41, .int .i64 8, .int .u64 (U x), .int .u64 (U y)] w fun e w' => e = .returned (.tuple #[.int .u64 (U ((x + y))), .bool true]) ∧ w = w' := by
  go_enter Try.func17, Try.ntmps17
  go_wp2_with fail
  refine (low64 _ _).mono ?_; rintro e w' ⟨rfl, rfl⟩
  go_wp2_with fail
  refine (low64 _ _).mono ?_; rintro e w' ⟨rfl, rfl⟩
  go_wp2_with fail
  refine (below64 x y _).mono ?_; rintro e w' ⟨rfl, rfl⟩
  go_wp2_with fail
  refine (low64 _ _).mono ?_; rintro e w' ⟨rfl, rfl⟩
  go_wp2_with fail
  go_ret2
  exact ⟨rret2 (rint (congrArg U (rfl))) rfl, rfl⟩

set_option maxHeartbeats 400000 in
theorem RAtomic_8_42 (x y : BitVec 64) (w : World) : Calls Try.prog 17 #[.int .i64 42, .int .i64 8, .int .u64 (U x), .int .u64 (U y)] w fun e w' => e = .returned (.tuple #[.int .u64 (U ((x ^^^ y))), .bool true]) ∧ w = w' := by
  go_enter Try.func17, Try.ntmps17
  go_wp2_with fail
  refine (low64 _ _).mono ?_; rintro e w' ⟨rfl, rfl⟩
  go_wp2_with fail
  refine (low64 _ _).mono ?_; rintro e w' ⟨rfl, rfl⟩
  go_wp2_with fail
  refine (below64 x y _).mono ?_; rintro e w' ⟨rfl, rfl⟩
  go_wp2_with fail
  go_ret2
  exact ⟨rret2 (rint (congrArg U (xor_andNot x y))) rfl, rfl⟩

set_option maxHeartbeats 400000 in
theorem RAtomic_8_43 (x y : BitVec 64) (w : World) : Calls Try.prog 17 #[.int .i64 43, .int .i64 8, .int .u64 (U x), .int .u64 (U y)] w fun e w' => e = .returned (.tuple #[.int .u64 (U ((x &&& y))), .bool true]) ∧ w = w' := by
  go_enter Try.func17, Try.ntmps17
  go_wp2_with fail
  refine (low64 _ _).mono ?_; rintro e w' ⟨rfl, rfl⟩
  go_wp2_with fail
  refine (low64 _ _).mono ?_; rintro e w' ⟨rfl, rfl⟩
  go_wp2_with fail
  refine (below64 x y _).mono ?_; rintro e w' ⟨rfl, rfl⟩
  go_wp2_with fail
  go_ret2
  exact ⟨rret2 (rint (congrArg U (rfl))) rfl, rfl⟩

set_option maxHeartbeats 400000 in
theorem RAtomic_8_44 (x y : BitVec 64) (w : World) : Calls Try.prog 17 #[.int .i64 44, .int .i64 8, .int .u64 (U x), .int .u64 (U y)] w fun e w' => e = .returned (.tuple #[.int .u64 (U ((x ||| y))), .bool true]) ∧ w = w' := by
  go_enter Try.func17, Try.ntmps17
  go_wp2_with fail
  refine (low64 _ _).mono ?_; rintro e w' ⟨rfl, rfl⟩
  go_wp2_with fail
  refine (low64 _ _).mono ?_; rintro e w' ⟨rfl, rfl⟩
  go_wp2_with fail
  refine (below64 x y _).mono ?_; rintro e w' ⟨rfl, rfl⟩
  go_wp2_with fail
  go_ret2
  exact ⟨rret2 (rint (congrArg U (rfl))) rfl, rfl⟩

set_option maxHeartbeats 400000 in
theorem RAtomic_8_45 (x y : BitVec 64) (w : World) : Calls Try.prog 17 #[.int .i64 45, .int .i64 8, .int .u64 (U x), .int .u64 (U y)] w fun e w' => e = .returned (.tuple #[.int .u64 (U ((if x.slt y then x else y))), .bool true]) ∧ w = w' := by
  rcases h : x.slt y with _ | _
  all_goals
    have H := hide h
    clear h
    go_enter Try.func17, Try.ntmps17
    go_wp2_with fail
    refine (low64 _ _).mono ?_; rintro e w' ⟨rfl, rfl⟩
    go_wp2_with fail
    refine (low64 _ _).mono ?_; rintro e w' ⟨rfl, rfl⟩
    go_wp2_with fail
    refine (below64 x y _).mono ?_; rintro e w' ⟨rfl, rfl⟩
    rw [H.out]
    go_wp2_with fail
    go_ret2
    exact ⟨rfl, rfl⟩

set_option maxHeartbeats 400000 in
theorem RAtomic_8_46 (x y : BitVec 64) (w : World) : Calls Try.prog 17 #[.int .i64 46, .int .i64 8, .int .u64 (U x), .int .u64 (U y)] w fun e w' => e = .returned (.tuple #[.int .u64 (U ((if y.slt x then x else y))), .bool true]) ∧ w = w' := by
  rw [← slt_other]
  rcases h : x.slt y with _ | _
  all_goals
    have H := hide h
    clear h
    go_enter Try.func17, Try.ntmps17
    go_wp2_with fail
    refine (low64 _ _).mono ?_; rintro e w' ⟨rfl, rfl⟩
    go_wp2_with fail
    refine (low64 _ _).mono ?_; rintro e w' ⟨rfl, rfl⟩
    go_wp2_with fail
    refine (below64 x y _).mono ?_; rintro e w' ⟨rfl, rfl⟩
    rw [H.out]
    go_wp2_with fail
    go_ret2
    exact ⟨rfl, rfl⟩

set_option maxHeartbeats 400000 in
theorem RAtomic_8_47 (x y : BitVec 64) (w : World) : Calls Try.prog 17 #[.int .i64 47, .int .i64 8, .int .u64 (U x), .int .u64 (U y)] w fun e w' => e = .returned (.tuple #[.int .u64 (U ((if y.ult x then y else x))), .bool true]) ∧ w = w' := by
  rw [← ult_other]
  have hu : decide (U (x) < U (y)) = x.ult y := (ult_U x y).symm
  rcases h : x.ult y with _ | _
  all_goals
    rw [h] at hu
    have H := hide h
    clear h
    have hu2 := hu
    simp only [decide_eq_true_eq, decide_eq_false_iff_not] at hu
    go_enter Try.func17, Try.ntmps17
    go_wp2_with fail
    refine (low64 _ _).mono ?_; rintro e w' ⟨rfl, rfl⟩
    go_wp2_with fail
    refine (low64 _ _).mono ?_; rintro e w' ⟨rfl, rfl⟩
    go_wp2_with fail
    refine (below64 x y _).mono ?_; rintro e w' ⟨rfl, rfl⟩
    go_wp2_with fail
    go_ret2
    exact ⟨rfl, rfl⟩

set_option maxHeartbeats 400000 in
theorem RAtomic_8_48 (x y : BitVec 64) (w : World) : Calls Try.prog 17 #[.int .i64 48, .int .i64 8, .int .u64 (U x), .int .u64 (U y)] w fun e w' => e = .returned (.tuple #[.int .u64 (U ((if x.ult y then y else x))), .bool true]) ∧ w = w' := by
  have hu : decide (U (x) < U (y)) = x.ult y := (ult_U x y).symm
  rcases h : x.ult y with _ | _
  all_goals
    rw [h] at hu
    have H := hide h
    clear h
    have hu2 := hu
    simp only [decide_eq_true_eq, decide_eq_false_iff_not] at hu
    go_enter Try.func17, Try.ntmps17
    go_wp2_with fail
    refine (low64 _ _).mono ?_; rintro e w' ⟨rfl, rfl⟩
    go_wp2_with fail
    refine (low64 _ _).mono ?_; rintro e w' ⟨rfl, rfl⟩
    go_wp2_with fail
    refine (below64 x y _).mono ?_; rintro e w' ⟨rfl, rfl⟩
    go_wp2_with fail
    go_ret2
    exact ⟨rfl, rfl⟩

set_option maxHeartbeats 400000 in
theorem RAtomic_4_none (k : Int) (old v : BitVec 64) (n40 : (k == 40) = false) (n41 : (k == 41) = false) (n42 : (k == 42) = false) (n43 : (k == 43) = false) (n44 : (k == 44) = false) (n45 : (k == 45) = false) (n46 : (k == 46) = false) (n47 : (k == 47) = false) (n48 : (k == 48) = false) (w : World) : Calls Try.prog 17 #[.int .i64 k, .int .i64 4, .int .u64 (U old), .int .u64 (U v)] w fun e w' => e = .returned (.tuple #[.int .u64 (U 0#64), .bool false]) ∧ w = w' := by
  go_enter Try.func17, Try.ntmps17
  go_wp2_with fail
  refine (low_any _ 32 (by decide) _ rfl _).mono ?_; rintro e w' ⟨rfl, rfl⟩
  go_wp2_with fail
  refine (low_any _ 32 (by decide) _ rfl _).mono ?_; rintro e w' ⟨rfl, rfl⟩
  go_wp2_with fail
  refine (below_any _ _ (by decide) (by decide) _ rfl _).mono ?_; rintro e w' ⟨rfl, rfl⟩
  go_wp2_with fail
  go_ret2
  exact ⟨rfl, rfl⟩

set_option maxHeartbeats 400000 in
theorem RAtomic_8_none (k : Int) (old v : BitVec 64) (n40 : (k == 40) = false) (n41 : (k == 41) = false) (n42 : (k == 42) = false) (n43 : (k == 43) = false) (n44 : (k == 44) = false) (n45 : (k == 45) = false) (n46 : (k == 46) = false) (n47 : (k == 47) = false) (n48 : (k == 48) = false) (w : World) : Calls Try.prog 17 #[.int .i64 k, .int .i64 8, .int .u64 (U old), .int .u64 (U v)] w fun e w' => e = .returned (.tuple #[.int .u64 (U 0#64), .bool false]) ∧ w = w' := by
  go_enter Try.func17, Try.ntmps17
  go_wp2_with fail
  refine (low64 _ _).mono ?_; rintro e w' ⟨rfl, rfl⟩
  go_wp2_with fail
  refine (low64 _ _).mono ?_; rintro e w' ⟨rfl, rfl⟩
  go_wp2_with fail
  refine (below64 _ _ _).mono ?_; rintro e w' ⟨rfl, rfl⟩
  go_wp2_with fail
  go_ret2
  exact ⟨rfl, rfl⟩

set_option maxHeartbeats 400000 in
theorem RAtomic_none (k size : Int) (old v : BitVec 64) (n4 : (size != 4) = true) (n8 : (size != 8) = true) (w : World) : Calls Try.prog 17 #[.int .i64 k, .int .i64 size, .int .u64 (U old), .int .u64 (U v)] w fun e w' => e = .returned (.tuple #[.int .u64 (U 0#64), .bool false]) ∧ w = w' := by
  go_enter Try.func17, Try.ntmps17
  go_wp2_with fail
  go_ret2
  exact ⟨rfl, rfl⟩

theorem RAtomic_any (k size : Int) (old v : BitVec 64) (w : World) : Calls Try.prog 17 #[.int .i64 k, .int .i64 size, .int .u64 (U old), .int .u64 (U v)] w fun e w' => e = .returned (.tuple #[.int .u64 (U (atD k size old v).1), .bool (atD k size old v).2]) ∧ w = w' := by
  by_cases s4 : size = 4
  · subst s4
    by_cases k40 : k = 40
    · subst k40; exact RAtomic_4_40 old v _ _ rfl rfl w
    by_cases k41 : k = 41
    · subst k41; exact RAtomic_4_41 old v _ _ rfl rfl w
    by_cases k42 : k = 42
    · subst k42; exact RAtomic_4_42 old v _ _ rfl rfl w
    by_cases k43 : k = 43
    · subst k43; exact RAtomic_4_43 old v _ _ rfl rfl w
    by_cases k44 : k = 44
    · subst k44; exact RAtomic_4_44 old v _ _ rfl rfl w
    by_cases k45 : k = 45
    · subst k45; exact RAtomic_4_45 old v _ _ rfl rfl w
    by_cases k46 : k = 46
    · subst k46; exact RAtomic_4_46 old v _ _ rfl rfl w
    by_cases k47 : k = 47
    · subst k47; exact RAtomic_4_47 old v _ _ rfl rfl w
    by_cases k48 : k = 48
    · subst k48; exact RAtomic_4_48 old v _ _ rfl rfl w
    have e : atD k 4 old v = (0#64, false) := by simp [atD, atW, Z, k40, k41, k42, k43, k44, k45, k46, k47, k48]
    rw [e]
    exact RAtomic_4_none k old v (beq_eq_false_iff_ne.2 k40) (beq_eq_false_iff_ne.2 k41) (beq_eq_false_iff_ne.2 k42) (beq_eq_false_iff_ne.2 k43) (beq_eq_false_iff_ne.2 k44) (beq_eq_false_iff_ne.2 k45) (beq_eq_false_iff_ne.2 k46) (beq_eq_false_iff_ne.2 k47) (beq_eq_false_iff_ne.2 k48) w
  by_cases s8 : size = 8
  · subst s8
    by_cases k40 : k = 40
    · subst k40; exact RAtomic_8_40 old v w
    by_cases k41 : k = 41
    · subst k41; exact RAtomic_8_41 old v w
    by_cases k42 : k = 42
    · subst k42; exact RAtomic_8_42 old v w
    by_cases k43 : k = 43
    · subst k43; exact RAtomic_8_43 old v w
    by_cases k44 : k = 44
    · subst k44; exact RAtomic_8_44 old v w
    by_cases k45 : k = 45
    · subst k45; exact RAtomic_8_45 old v w
    by_cases k46 : k = 46
    · subst k46; exact RAtomic_8_46 old v w
    by_cases k47 : k = 47
    · subst k47; exact RAtomic_8_47 old v w
    by_cases k48 : k = 48
    · subst k48; exact RAtomic_8_48 old v w
    have e : atD k 8 old v = (0#64, false) := by simp [atD, atW, k40, k41, k42, k43, k44, k45, k46, k47, k48]
    rw [e]
    exact RAtomic_8_none k old v (beq_eq_false_iff_ne.2 k40) (beq_eq_false_iff_ne.2 k41) (beq_eq_false_iff_ne.2 k42) (beq_eq_false_iff_ne.2 k43) (beq_eq_false_iff_ne.2 k44) (beq_eq_false_iff_ne.2 k45) (beq_eq_false_iff_ne.2 k46) (beq_eq_false_iff_ne.2 k47) (beq_eq_false_iff_ne.2 k48) w
  have e : atD k size old v = (0#64, false) := by simp [atD, s4, s8]
  rw [e]
  exact RAtomic_none k size old v (by simpa using s4) (by simpa using s8) w

set_option maxHeartbeats 400000 in
theorem AluDoes_walk (k : Int) (word : Bool) (a b : BitVec 64) (w : World) : Calls Try.prog 3 #[.int .i64 k, .bool word, .int .u64 (U a), .int .u64 (U b)] w fun e w' => e = .returned (.bool true) ∧ w = w' := by
  obtain ⟨⟨x, ok⟩, hx⟩ : ∃ r, r = doD k word a b := ⟨_, rfl⟩
  have C1 : Hid (∀ w, Calls Try.prog 11 #[.int .i64 k, .bool word, .int .u64 (U a), .int .u64 (U b)] w fun e w' => e = .returned (.tuple #[.int .u64 (U x), .bool ok]) ∧ w = w') := fun w => by
    have h := Do_any k word a b w
    rwa [← hx] at h
  have C2 : Hid (∀ w, Calls Try.prog 12 #[.int .i64 k, .bool word, .int .u64 (U a), .int .u64 (U b)] w fun e w' => e = .returned (.tuple #[.int .u64 (U x), .bool ok]) ∧ w = w') := fun w => by
    have h := RDo_any k word a b w
    rwa [← hx] at h
  clear hx
  go_enter Try.func3, Try.ntmps3
  go_wp2_with fail
  refine (C1.out _).mono ?_; rintro e w' ⟨rfl, rfl⟩
  go_wp2_with fail
  refine (C2.out _).mono ?_; rintro e w' ⟨rfl, rfl⟩
  go_wp2_with (go_at_call 13; refine (fixed_any _).mono ?_; rintro e w' ⟨rfl, rfl⟩)
  go_ret
  exact ⟨rfl, rfl⟩

set_option maxHeartbeats 400000 in
theorem AluAtomics_walk (k size : Int) (a b : BitVec 64) (w : World) : Calls Try.prog 5 #[.int .i64 k, .int .i64 size, .int .u64 (U a), .int .u64 (U b)] w fun e w' => e = .returned (.bool true) ∧ w = w' := by
  obtain ⟨⟨x, ok⟩, hx⟩ : ∃ r, r = atD k size a b := ⟨_, rfl⟩
  have C1 : Hid (∀ w, Calls Try.prog 16 #[.int .i64 k, .int .i64 size, .int .u64 (U a), .int .u64 (U b)] w fun e w' => e = .returned (.tuple #[.int .u64 (U x), .bool ok]) ∧ w = w') := fun w => by
    have h := Atomic_any k size a b w
    rwa [← hx] at h
  have C2 : Hid (∀ w, Calls Try.prog 17 #[.int .i64 k, .int .i64 size, .int .u64 (U a), .int .u64 (U b)] w fun e w' => e = .returned (.tuple #[.int .u64 (U x), .bool ok]) ∧ w = w') := fun w => by
    have h := RAtomic_any k size a b w
    rwa [← hx] at h
  clear hx
  go_enter Try.func5, Try.ntmps5
  go_wp2_with fail
  refine (C1.out _).mono ?_; rintro e w' ⟨rfl, rfl⟩
  go_wp2_with fail
  refine (C2.out _).mono ?_; rintro e w' ⟨rfl, rfl⟩
  go_wp2_with (go_at_call 13; refine (fixed_any _).mono ?_; rintro e w' ⟨rfl, rfl⟩)
  go_ret
  exact ⟨rfl, rfl⟩

set_option maxHeartbeats 400000 in
theorem AluBranches_walk (k : Int) (a b : BitVec 64) (w : World) : Calls Try.prog 4 #[.int .i64 k, .int .u64 (U a), .int .u64 (U b)] w fun e w' => e = .returned (.bool true) ∧ w = w' := by
  obtain ⟨⟨x, ok⟩, hx⟩ : ∃ r, r = brD k a b := ⟨_, rfl⟩
  have C1 : Hid (∀ w, Calls Try.prog 14 #[.int .i64 k, .int .u64 (U a), .int .u64 (U b)] w fun e w' => e = .returned (.tuple #[.bool x, .bool ok]) ∧ w = w') := fun w => by
    have h := Branch_any k a b w
    rwa [← hx] at h
  have C2 : Hid (∀ w, Calls Try.prog 15 #[.int .i64 k, .int .u64 (U a), .int .u64 (U b)] w fun e w' => e = .returned (.tuple #[.bool x, .bool ok]) ∧ w = w') := fun w => by
    have h := RBranch_any k a b w
    rwa [← hx] at h
  clear hx
  go_enter Try.func4, Try.ntmps4
  go_wp2_with fail
  refine (C1.out _).mono ?_; rintro e w' ⟨rfl, rfl⟩
  go_wp2_with fail
  refine (C2.out _).mono ?_; rintro e w' ⟨rfl, rfl⟩
  go_wp2_with (go_at_call 13; refine (fixed_any _).mono ?_; rintro e w' ⟨rfl, rfl⟩)
  go_ret
  exact ⟨rfl, rfl⟩

set_option maxHeartbeats 400000 in
theorem AluExtends_walk (v : BitVec 64) (size : Int) (un : Bool) (w : World) : Calls Try.prog 6 #[.int .u64 (U v), .int .i64 size, .bool un] w fun e w' => e = .returned (.bool true) ∧ w = w' := by
  obtain ⟨⟨x, ok⟩, hx⟩ : ∃ r, r = extD v size un := ⟨_, rfl⟩
  have C1 : Hid (∀ w, Calls Try.prog 18 #[.int .u64 (U v), .int .i64 size, .bool un] w fun e w' => e = .returned (.tuple #[.int .u64 (U x), .bool ok]) ∧ w = w') := fun w => by
    have h := Extend_any v size un w
    rwa [← hx] at h
  have C2 : Hid (∀ w, Calls Try.prog 19 #[.int .u64 (U v), .int .i64 size, .bool un] w fun e w' => e = .returned (.tuple #[.int .u64 (U x), .bool ok]) ∧ w = w') := fun w => by
    have h := RExtend_any v size un w
    rwa [← hx] at h
  clear hx
  go_enter Try.func6, Try.ntmps6
  go_wp2_with fail
  refine (C1.out _).mono ?_; rintro e w' ⟨rfl, rfl⟩
  go_wp2_with fail
  refine (C2.out _).mono ?_; rintro e w' ⟨rfl, rfl⟩
  go_wp2_with (go_at_call 13; refine (fixed_any _).mono ?_; rintro e w' ⟨rfl, rfl⟩)
  go_ret
  exact ⟨rfl, rfl⟩

end Go.Proofs.Ytkmdahokomnjcaa