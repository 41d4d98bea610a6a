/-
  The walk of AluTurns. (Printed by gen_alut.py.)
-/
import Derived.Test.YtkmdahokomnjcaaAluM
namespace Go.Proofs.Ytkmdahokomnjcaa
open Go.RowKit

set_option maxRecDepth 100000 in
set_option maxHeartbeats 2000000 in
theorem turns_000 (a b s : BitVec 64) (C1 : Hid (∀ w, Calls Try.prog 11 #[.int .i64 13, .bool false, .int .u64 (U a), .int .u64 (U b)] w fun e w' => e = .returned (.tuple #[.int .u64 (U s), .bool true]) ∧ w = w')) (C2 : Hid (∀ w, Calls Try.prog 11 #[.int .i64 14, .bool false, .int .u64 (U s), .int .u64 (U b)] w fun e w' => e = .returned (.tuple #[.int .u64 (U a), .bool true]) ∧ w = w')) (C3 : Hid (∀ w, Calls Try.prog 11 #[.int .i64 15, .bool false, .int .u64 (U a), .int .u64 (U b)] w fun e w' => e = .returned (.tuple #[.int .u64 (U (a <<< (b.toNat &&& 63))), .bool true]) ∧ w = w')) (C4 : Hid (∀ w, Calls Try.prog 11 #[.int .i64 19, .bool false, .int .u64 (U (a <<< (b.toNat &&& 63))), .int .u64 (U b)] w fun e w' => e = .returned (.tuple #[.int .u64 (U ((a <<< (b.toNat &&& 63)) >>> (b.toNat &&& 63))), .bool true]) ∧ w = w')) (C5 : Hid (∀ w, Calls Try.prog 14 #[.int .i64 7, .int .u64 (U a), .int .u64 (U b)] w fun e w' => e = .returned (.tuple #[.bool false, .bool true]) ∧ w = w')) (C6 : Hid (∀ w, Calls Try.prog 14 #[.int .i64 8, .int .u64 (U a), .int .u64 (U b)] w fun e w' => e = .returned (.tuple #[.bool true, .bool true]) ∧ w = w')) (C7 : Hid (∀ w, Calls Try.prog 14 #[.int .i64 5, .int .u64 (U a), .int .u64 (U b)] w fun e w' => e = .returned (.tuple #[.bool false, .bool true]) ∧ w = w')) (C8 : Hid (∀ w, Calls Try.prog 14 #[.int .i64 6, .int .u64 (U a), .int .u64 (U b)] w fun e w' => e = .returned (.tuple #[.bool true, .bool true]) ∧ w = w')) (C9 : Hid (∀ w, Calls Try.prog 14 #[.int .i64 9, .int .u64 (U a), .int .u64 (U b)] w fun e w' => e = .returned (.tuple #[.bool false, .bool true]) ∧ w = w')) (C10 : Hid (∀ w, Calls Try.prog 14 #[.int .i64 10, .int .u64 (U a), .int .u64 (U b)] w fun e w' => e = .returned (.tuple #[.bool true, .bool true]) ∧ w = w')) (C11 : Hid (∀ w, Calls Try.prog 16 #[.int .i64 45, .int .i64 8, .int .u64 (U a), .int .u64 (U b)] w fun e w' => e = .returned (.tuple #[.int .u64 (U b), .bool true]) ∧ w = w')) (C12 : Hid (∀ w, Calls Try.prog 16 #[.int .i64 46, .int .i64 8, .int .u64 (U a), .int .u64 (U b)] w fun e w' => e = .returned (.tuple #[.int .u64 (U a), .bool true]) ∧ w = w')) (C13 : Hid (∀ w, Calls Try.prog 11 #[.int .i64 16, .bool false, .int .u64 (U a), .int .u64 (U b)] w fun e w' => e = .returned (.tuple #[.int .u64 (U 0#64), .bool true]) ∧ w = w'))
    (_t1 : (U a == U b) = false) (_t2 : (U b == U a) = false) (_t3 : (U (b ^^^ a) == U (a ^^^ b)) = true) (_t4 : (U 1#64 == 1) = true) (_t5 : (U 0#64 == 0) = true) (w : World) :
    Calls Try.prog 10 #[.int .u64 (U a), .int .u64 (U b)] w fun e w' => e = .returned (.bool true) ∧ w = w' := by
  go_enter Try.func10, Try.ntmps10
  go_wp2_with fail
  refine (C1.out _).mono ?_; rintro e w' ⟨rfl, rfl⟩
  go_wp2_with fail
  refine (C2.out _).mono ?_; rintro e w' ⟨rfl, rfl⟩
  go_wp2_with fail
  refine (C3.out _).mono ?_; rintro e w' ⟨rfl, rfl⟩
  go_wp2_with fail
  refine (C4.out _).mono ?_; rintro e w' ⟨rfl, rfl⟩
  go_wp2_with fail
  refine (C5.out _).mono ?_; rintro e w' ⟨rfl, rfl⟩
  go_wp2_with fail
  refine (C6.out _).mono ?_; rintro e w' ⟨rfl, rfl⟩
  go_wp2_with fail
  refine (C7.out _).mono ?_; rintro e w' ⟨rfl, rfl⟩
  go_wp2_with fail
  refine (C8.out _).mono ?_; rintro e w' ⟨rfl, rfl⟩
  go_wp2_with fail
  refine (C9.out _).mono ?_; rintro e w' ⟨rfl, rfl⟩
  go_wp2_with fail
  refine (C10.out _).mono ?_; rintro e w' ⟨rfl, rfl⟩
  go_wp2_with fail
  refine (C11.out _).mono ?_; rintro e w' ⟨rfl, rfl⟩
  go_wp2_with fail
  refine (C12.out _).mono ?_; rintro e w' ⟨rfl, rfl⟩
  go_wp2_with fail
  refine (C13.out _).mono ?_; rintro e w' ⟨rfl, rfl⟩
  go_wp2_with (go_at_call 13; refine (fixed_any _).mono ?_; rintro e w' ⟨rfl, rfl⟩)
  go_ret
  exact ⟨rfl, rfl⟩

set_option maxRecDepth 100000 in
set_option maxHeartbeats 2000000 in
theorem turns_001 (a b s : BitVec 64) (C1 : Hid (∀ w, Calls Try.prog 11 #[.int .i64 13, .bool false, .int .u64 (U a), .int .u64 (U b)] w fun e w' => e = .returned (.tuple #[.int .u64 (U s), .bool true]) ∧ w = w')) (C2 : Hid (∀ w, Calls Try.prog 11 #[.int .i64 14, .bool false, .int .u64 (U s), .int .u64 (U b)] w fun e w' => e = .returned (.tuple #[.int .u64 (U a), .bool true]) ∧ w = w')) (C3 : Hid (∀ w, Calls Try.prog 11 #[.int .i64 15, .bool false, .int .u64 (U a), .int .u64 (U b)] w fun e w' => e = .returned (.tuple #[.int .u64 (U (a <<< (b.toNat &&& 63))), .bool true]) ∧ w = w')) (C4 : Hid (∀ w, Calls Try.prog 11 #[.int .i64 19, .bool false, .int .u64 (U (a <<< (b.toNat &&& 63))), .int .u64 (U b)] w fun e w' => e = .returned (.tuple #[.int .u64 (U ((a <<< (b.toNat &&& 63)) >>> (b.toNat &&& 63))), .bool true]) ∧ w = w')) (C5 : Hid (∀ w, Calls Try.prog 14 #[.int .i64 7, .int .u64 (U a), .int .u64 (U b)] w fun e w' => e = .returned (.tuple #[.bool false, .bool true]) ∧ w = w')) (C6 : Hid (∀ w, Calls Try.prog 14 #[.int .i64 8, .int .u64 (U a), .int .u64 (U b)] w fun e w' => e = .returned (.tuple #[.bool true, .bool true]) ∧ w = w')) (C7 : Hid (∀ w, Calls Try.prog 14 #[.int .i64 5, .int .u64 (U a), .int .u64 (U b)] w fun e w' => e = .returned (.tuple #[.bool false, .bool true]) ∧ w = w')) (C8 : Hid (∀ w, Calls Try.prog 14 #[.int .i64 6, .int .u64 (U a), .int .u64 (U b)] w fun e w' => e = .returned (.tuple #[.bool true, .bool true]) ∧ w = w')) (C9 : Hid (∀ w, Calls Try.prog 14 #[.int .i64 9, .int .u64 (U a), .int .u64 (U b)] w fun e w' => e = .returned (.tuple #[.bool true, .bool true]) ∧ w = w')) (C10 : Hid (∀ w, Calls Try.prog 14 #[.int .i64 10, .int .u64 (U a), .int .u64 (U b)] w fun e w' => e = .returned (.tuple #[.bool false, .bool true]) ∧ w = w')) (C11 : Hid (∀ w, Calls Try.prog 16 #[.int .i64 45, .int .i64 8, .int .u64 (U a), .int .u64 (U b)] w fun e w' => e = .returned (.tuple #[.int .u64 (U b), .bool true]) ∧ w = w')) (C12 : Hid (∀ w, Calls Try.prog 16 #[.int .i64 46, .int .i64 8, .int .u64 (U a), .int .u64 (U b)] w fun e w' => e = .returned (.tuple #[.int .u64 (U a), .bool true]) ∧ w = w')) (C13 : Hid (∀ w, Calls Try.prog 11 #[.int .i64 16, .bool false, .int .u64 (U a), .int .u64 (U b)] w fun e w' => e = .returned (.tuple #[.int .u64 (U 0#64), .bool true]) ∧ w = w'))
    (_t1 : (U a == U b) = false) (_t2 : (U b == U a) = false) (_t3 : (U (b ^^^ a) == U (a ^^^ b)) = true) (_t4 : (U 1#64 == 1) = true) (_t5 : (U 0#64 == 0) = true) (w : World) :
    Calls Try.prog 10 #[.int .u64 (U a), .int .u64 (U b)] w fun e w' => e = .returned (.bool true) ∧ w = w' := by
  go_enter Try.func10, Try.ntmps10
  go_wp2_with fail
  refine (C1.out _).mono ?_; rintro e w' ⟨rfl, rfl⟩
  go_wp2_with fail
  refine (C2.out _).mono ?_; rintro e w' ⟨rfl, rfl⟩
  go_wp2_with fail
  refine (C3.out _).mono ?_; rintro e w' ⟨rfl, rfl⟩
  go_wp2_with fail
  refine (C4.out _).mono ?_; rintro e w' ⟨rfl, rfl⟩
  go_wp2_with fail
  refine (C5.out _).mono ?_; rintro e w' ⟨rfl, rfl⟩
  go_wp2_with fail
  refine (C6.out _).mono ?_; rintro e w' ⟨rfl, rfl⟩
  go_wp2_with fail
  refine (C7.out _).mono ?_; rintro e w' ⟨rfl, rfl⟩
  go_wp2_with fail
  refine (C8.out _).mono ?_; rintro e w' ⟨rfl, rfl⟩
  go_wp2_with fail
  refine (C9.out _).mono ?_; rintro e w' ⟨rfl, rfl⟩
  go_wp2_with fail
  refine (C10.out _).mono ?_; rintro e w' ⟨rfl, rfl⟩
  go_wp2_with fail
  refine (C11.out _).mono ?_; rintro e w' ⟨rfl, rfl⟩
  go_wp2_with fail
  refine (C12.out _).mono ?_; rintro e w' ⟨rfl, rfl⟩
  go_wp2_with fail
  refine (C13.out _).mono ?_; rintro e w' ⟨rfl, rfl⟩
  go_wp2_with (go_at_call 13; refine (fixed_any _).mono ?_; rintro e w' ⟨rfl, rfl⟩)
  go_ret
  exact ⟨rfl, rfl⟩

set_option maxRecDepth 100000 in
set_option maxHeartbeats 2000000 in
theorem turns_010 (a b s : BitVec 64) (C1 : Hid (∀ w, Calls Try.prog 11 #[.int .i64 13, .bool false, .int .u64 (U a), .int .u64 (U b)] w fun e w' => e = .returned (.tuple #[.int .u64 (U s), .bool true]) ∧ w = w')) (C2 : Hid (∀ w, Calls Try.prog 11 #[.int .i64 14, .bool false, .int .u64 (U s), .int .u64 (U b)] w fun e w' => e = .returned (.tuple #[.int .u64 (U a), .bool true]) ∧ w = w')) (C3 : Hid (∀ w, Calls Try.prog 11 #[.int .i64 15, .bool false, .int .u64 (U a), .int .u64 (U b)] w fun e w' => e = .returned (.tuple #[.int .u64 (U (a <<< (b.toNat &&& 63))), .bool true]) ∧ w = w')) (C4 : Hid (∀ w, Calls Try.prog 11 #[.int .i64 19, .bool false, .int .u64 (U (a <<< (b.toNat &&& 63))), .int .u64 (U b)] w fun e w' => e = .returned (.tuple #[.int .u64 (U ((a <<< (b.toNat &&& 63)) >>> (b.toNat &&& 63))), .bool true]) ∧ w = w')) (C5 : Hid (∀ w, Calls Try.prog 14 #[.int .i64 7, .int .u64 (U a), .int .u64 (U b)] w fun e w' => e = .returned (.tuple #[.bool false, .bool true]) ∧ w = w')) (C6 : Hid (∀ w, Calls Try.prog 14 #[.int .i64 8, .int .u64 (U a), .int .u64 (U b)] w fun e w' => e = .returned (.tuple #[.bool true, .bool true]) ∧ w = w')) (C7 : Hid (∀ w, Calls Try.prog 14 #[.int .i64 5, .int .u64 (U a), .int .u64 (U b)] w fun e w' => e = .returned (.tuple #[.bool true, .bool true]) ∧ w = w')) (C8 : Hid (∀ w, Calls Try.prog 14 #[.int .i64 6, .int .u64 (U a), .int .u64 (U b)] w fun e w' => e = .returned (.tuple #[.bool false, .bool true]) ∧ w = w')) (C9 : Hid (∀ w, Calls Try.prog 14 #[.int .i64 9, .int .u64 (U a), .int .u64 (U b)] w fun e w' => e = .returned (.tuple #[.bool false, .bool true]) ∧ w = w')) (C10 : Hid (∀ w, Calls Try.prog 14 #[.int .i64 10, .int .u64 (U a), .int .u64 (U b)] w fun e w' => e = .returned (.tuple #[.bool true, .bool true]) ∧ w = w')) (C11 : Hid (∀ w, Calls Try.prog 16 #[.int .i64 45, .int .i64 8, .int .u64 (U a), .int .u64 (U b)] w fun e w' => e = .returned (.tuple #[.int .u64 (U b), .bool true]) ∧ w = w')) (C12 : Hid (∀ w, Calls Try.prog 16 #[.int .i64 46, .int .i64 8, .int .u64 (U a), .int .u64 (U b)] w fun e w' => e = .returned (.tuple #[.int .u64 (U a), .bool true]) ∧ w = w')) (C13 : Hid (∀ w, Calls Try.prog 11 #[.int .i64 16, .bool false, .int .u64 (U a), .int .u64 (U b)] w fun e w' => e = .returned (.tuple #[.int .u64 (U 0#64), .bool true]) ∧ w = w'))
    (_t1 : (U a == U b) = true) (_t2 : (U b == U a) = true) (_t3 : (U (b ^^^ a) == U (a ^^^ b)) = true) (_t4 : (U 1#64 == 1) = true) (_t5 : (U 0#64 == 0) = true) (w : World) :
    Calls Try.prog 10 #[.int .u64 (U a), .int .u64 (U b)] w fun e w' => e = .returned (.bool true) ∧ w = w' := by
  go_enter Try.func10, Try.ntmps10
  go_wp2_with fail
  refine (C1.out _).mono ?_; rintro e w' ⟨rfl, rfl⟩
  go_wp2_with fail
  refine (C2.out _).mono ?_; rintro e w' ⟨rfl, rfl⟩
  go_wp2_with fail
  refine (C3.out _).mono ?_; rintro e w' ⟨rfl, rfl⟩
  go_wp2_with fail
  refine (C4.out _).mono ?_; rintro e w' ⟨rfl, rfl⟩
  go_wp2_with fail
  refine (C5.out _).mono ?_; rintro e w' ⟨rfl, rfl⟩
  go_wp2_with fail
  refine (C6.out _).mono ?_; rintro e w' ⟨rfl, rfl⟩
  go_wp2_with fail
  refine (C7.out _).mono ?_; rintro e w' ⟨rfl, rfl⟩
  go_wp2_with fail
  refine (C8.out _).mono ?_; rintro e w' ⟨rfl, rfl⟩
  go_wp2_with fail
  refine (C9.out _).mono ?_; rintro e w' ⟨rfl, rfl⟩
  go_wp2_with fail
  refine (C10.out _).mono ?_; rintro e w' ⟨rfl, rfl⟩
  go_wp2_with fail
  refine (C11.out _).mono ?_; rintro e w' ⟨rfl, rfl⟩
  go_wp2_with fail
  refine (C12.out _).mono ?_; rintro e w' ⟨rfl, rfl⟩
  go_wp2_with fail
  refine (C13.out _).mono ?_; rintro e w' ⟨rfl, rfl⟩
  go_wp2_with (go_at_call 13; refine (fixed_any _).mono ?_; rintro e w' ⟨rfl, rfl⟩)
  go_ret
  exact ⟨rfl, rfl⟩

set_option maxRecDepth 100000 in
set_option maxHeartbeats 2000000 in
theorem turns_011 (a b s : BitVec 64) (C1 : Hid (∀ w, Calls Try.prog 11 #[.int .i64 13, .bool false, .int .u64 (U a), .int .u64 (U b)] w fun e w' => e = .returned (.tuple #[.int .u64 (U s), .bool true]) ∧ w = w')) (C2 : Hid (∀ w, Calls Try.prog 11 #[.int .i64 14, .bool false, .int .u64 (U s), .int .u64 (U b)] w fun e w' => e = .returned (.tuple #[.int .u64 (U a), .bool true]) ∧ w = w')) (C3 : Hid (∀ w, Calls Try.prog 11 #[.int .i64 15, .bool false, .int .u64 (U a), .int .u64 (U b)] w fun e w' => e = .returned (.tuple #[.int .u64 (U (a <<< (b.toNat &&& 63))), .bool true]) ∧ w = w')) (C4 : Hid (∀ w, Calls Try.prog 11 #[.int .i64 19, .bool false, .int .u64 (U (a <<< (b.toNat &&& 63))), .int .u64 (U b)] w fun e w' => e = .returned (.tuple #[.int .u64 (U ((a <<< (b.toNat &&& 63)) >>> (b.toNat &&& 63))), .bool true]) ∧ w = w')) (C5 : Hid (∀ w, Calls Try.prog 14 #[.int .i64 7, .int .u64 (U a), .int .u64 (U b)] w fun e w' => e = .returned (.tuple #[.bool false, .bool true]) ∧ w = w')) (C6 : Hid (∀ w, Calls Try.prog 14 #[.int .i64 8, .int .u64 (U a), .int .u64 (U b)] w fun e w' => e = .returned (.tuple #[.bool true, .bool true]) ∧ w = w')) (C7 : Hid (∀ w, Calls Try.prog 14 #[.int .i64 5, .int .u64 (U a), .int .u64 (U b)] w fun e w' => e = .returned (.tuple #[.bool true, .bool true]) ∧ w = w')) (C8 : Hid (∀ w, Calls Try.prog 14 #[.int .i64 6, .int .u64 (U a), .int .u64 (U b)] w fun e w' => e = .returned (.tuple #[.bool false, .bool true]) ∧ w = w')) (C9 : Hid (∀ w, Calls Try.prog 14 #[.int .i64 9, .int .u64 (U a), .int .u64 (U b)] w fun e w' => e = .returned (.tuple #[.bool true, .bool true]) ∧ w = w')) (C10 : Hid (∀ w, Calls Try.prog 14 #[.int .i64 10, .int .u64 (U a), .int .u64 (U b)] w fun e w' => e = .returned (.tuple #[.bool false, .bool true]) ∧ w = w')) (C11 : Hid (∀ w, Calls Try.prog 16 #[.int .i64 45, .int .i64 8, .int .u64 (U a), .int .u64 (U b)] w fun e w' => e = .returned (.tuple #[.int .u64 (U b), .bool true]) ∧ w = w')) (C12 : Hid (∀ w, Calls Try.prog 16 #[.int .i64 46, .int .i64 8, .int .u64 (U a), .int .u64 (U b)] w fun e w' => e = .returned (.tuple #[.int .u64 (U a), .bool true]) ∧ w = w')) (C13 : Hid (∀ w, Calls Try.prog 11 #[.int .i64 16, .bool false, .int .u64 (U a), .int .u64 (U b)] w fun e w' => e = .returned (.tuple #[.int .u64 (U 0#64), .bool true]) ∧ w = w'))
    (_t1 : (U a == U b) = true) (_t2 : (U b == U a) = true) (_t3 : (U (b ^^^ a) == U (a ^^^ b)) = true) (_t4 : (U 1#64 == 1) = true) (_t5 : (U 0#64 == 0) = true) (w : World) :
    Calls Try.prog 10 #[.int .u64 (U a), .int .u64 (U b)] w fun e w' => e = .returned (.bool true) ∧ w = w' := by
  go_enter Try.func10, Try.ntmps10
  go_wp2_with fail
  refine (C1.out _).mono ?_; rintro e w' ⟨rfl, rfl⟩
  go_wp2_with fail
  refine (C2.out _).mono ?_; rintro e w' ⟨rfl, rfl⟩
  go_wp2_with fail
  refine (C3.out _).mono ?_; rintro e w' ⟨rfl, rfl⟩
  go_wp2_with fail
  refine (C4.out _).mono ?_; rintro e w' ⟨rfl, rfl⟩
  go_wp2_with fail
  refine (C5.out _).mono ?_; rintro e w' ⟨rfl, rfl⟩
  go_wp2_with fail
  refine (C6.out _).mono ?_; rintro e w' ⟨rfl, rfl⟩
  go_wp2_with fail
  refine (C7.out _).mono ?_; rintro e w' ⟨rfl, rfl⟩
  go_wp2_with fail
  refine (C8.out _).mono ?_; rintro e w' ⟨rfl, rfl⟩
  go_wp2_with fail
  refine (C9.out _).mono ?_; rintro e w' ⟨rfl, rfl⟩
  go_wp2_with fail
  refine (C10.out _).mono ?_; rintro e w' ⟨rfl, rfl⟩
  go_wp2_with fail
  refine (C11.out _).mono ?_; rintro e w' ⟨rfl, rfl⟩
  go_wp2_with fail
  refine (C12.out _).mono ?_; rintro e w' ⟨rfl, rfl⟩
  go_wp2_with fail
  refine (C13.out _).mono ?_; rintro e w' ⟨rfl, rfl⟩
  go_wp2_with (go_at_call 13; refine (fixed_any _).mono ?_; rintro e w' ⟨rfl, rfl⟩)
  go_ret
  exact ⟨rfl, rfl⟩

set_option maxRecDepth 100000 in
set_option maxHeartbeats 2000000 in
theorem turns_100 (a b s : BitVec 64) (C1 : Hid (∀ w, Calls Try.prog 11 #[.int .i64 13, .bool false, .int .u64 (U a), .int .u64 (U b)] w fun e w' => e = .returned (.tuple #[.int .u64 (U s), .bool true]) ∧ w = w')) (C2 : Hid (∀ w, Calls Try.prog 11 #[.int .i64 14, .bool false, .int .u64 (U s), .int .u64 (U b)] w fun e w' => e = .returned (.tuple #[.int .u64 (U a), .bool true]) ∧ w = w')) (C3 : Hid (∀ w, Calls Try.prog 11 #[.int .i64 15, .bool false, .int .u64 (U a), .int .u64 (U b)] w fun e w' => e = .returned (.tuple #[.int .u64 (U (a <<< (b.toNat &&& 63))), .bool true]) ∧ w = w')) (C4 : Hid (∀ w, Calls Try.prog 11 #[.int .i64 19, .bool false, .int .u64 (U (a <<< (b.toNat &&& 63))), .int .u64 (U b)] w fun e w' => e = .returned (.tuple #[.int .u64 (U ((a <<< (b.toNat &&& 63)) >>> (b.toNat &&& 63))), .bool true]) ∧ w = w')) (C5 : Hid (∀ w, Calls Try.prog 14 #[.int .i64 7, .int .u64 (U a), .int .u64 (U b)] w fun e w' => e = .returned (.tuple #[.bool true, .bool true]) ∧ w = w')) (C6 : Hid (∀ w, Calls Try.prog 14 #[.int .i64 8, .int .u64 (U a), .int .u64 (U b)] w fun e w' => e = .returned (.tuple #[.bool false, .bool true]) ∧ w = w')) (C7 : Hid (∀ w, Calls Try.prog 14 #[.int .i64 5, .int .u64 (U a), .int .u64 (U b)] w fun e w' => e = .returned (.tuple #[.bool false, .bool true]) ∧ w = w')) (C8 : Hid (∀ w, Calls Try.prog 14 #[.int .i64 6, .int .u64 (U a), .int .u64 (U b)] w fun e w' => e = .returned (.tuple #[.bool true, .bool true]) ∧ w = w')) (C9 : Hid (∀ w, Calls Try.prog 14 #[.int .i64 9, .int .u64 (U a), .int .u64 (U b)] w fun e w' => e = .returned (.tuple #[.bool false, .bool true]) ∧ w = w')) (C10 : Hid (∀ w, Calls Try.prog 14 #[.int .i64 10, .int .u64 (U a), .int .u64 (U b)] w fun e w' => e = .returned (.tuple #[.bool true, .bool true]) ∧ w = w')) (C11 : Hid (∀ w, Calls Try.prog 16 #[.int .i64 45, .int .i64 8, .int .u64 (U a), .int .u64 (U b)] w fun e w' => e = .returned (.tuple #[.int .u64 (U a), .bool true]) ∧ w = w')) (C12 : Hid (∀ w, Calls Try.prog 16 #[.int .i64 46, .int .i64 8, .int .u64 (U a), .int .u64 (U b)] w fun e w' => e = .returned (.tuple #[.int .u64 (U b), .bool true]) ∧ w = w')) (C13 : Hid (∀ w, Calls Try.prog 11 #[.int .i64 16, .bool false, .int .u64 (U a), .int .u64 (U b)] w fun e w' => e = .returned (.tuple #[.int .u64 (U 1#64), .bool true]) ∧ w = w'))
    (_t1 : (U a == U b) = false) (_t2 : (U b == U a) = false) (_t3 : (U (b ^^^ a) == U (a ^^^ b)) = true) (_t4 : (U 1#64 == 1) = true) (_t5 : (U 0#64 == 0) = true) (w : World) :
    Calls Try.prog 10 #[.int .u64 (U a), .int .u64 (U b)] w fun e w' => e = .returned (.bool true) ∧ w = w' := by
  go_enter Try.func10, Try.ntmps10
  go_wp2_with fail
  refine (C1.out _).mono ?_; rintro e w' ⟨rfl, rfl⟩
  go_wp2_with fail
  refine (C2.out _).mono ?_; rintro e w' ⟨rfl, rfl⟩
  go_wp2_with fail
  refine (C3.out _).mono ?_; rintro e w' ⟨rfl, rfl⟩
  go_wp2_with fail
  refine (C4.out _).mono ?_; rintro e w' ⟨rfl, rfl⟩
  go_wp2_with fail
  refine (C5.out _).mono ?_; rintro e w' ⟨rfl, rfl⟩
  go_wp2_with fail
  refine (C6.out _).mono ?_; rintro e w' ⟨rfl, rfl⟩
  go_wp2_with fail
  refine (C7.out _).mono ?_; rintro e w' ⟨rfl, rfl⟩
  go_wp2_with fail
  refine (C8.out _).mono ?_; rintro e w' ⟨rfl, rfl⟩
  go_wp2_with fail
  refine (C9.out _).mono ?_; rintro e w' ⟨rfl, rfl⟩
  go_wp2_with fail
  refine (C10.out _).mono ?_; rintro e w' ⟨rfl, rfl⟩
  go_wp2_with fail
  refine (C11.out _).mono ?_; rintro e w' ⟨rfl, rfl⟩
  go_wp2_with fail
  refine (C12.out _).mono ?_; rintro e w' ⟨rfl, rfl⟩
  go_wp2_with fail
  refine (C13.out _).mono ?_; rintro e w' ⟨rfl, rfl⟩
  go_wp2_with (go_at_call 13; refine (fixed_any _).mono ?_; rintro e w' ⟨rfl, rfl⟩)
  go_ret
  exact ⟨rfl, rfl⟩

set_option maxRecDepth 100000 in
set_option maxHeartbeats 2000000 in
theorem turns_101 (a b s : BitVec 64) (C1 : Hid (∀ w, Calls Try.prog 11 #[.int .i64 13, .bool false, .int .u64 (U a), .int .u64 (U b)] w fun e w' => e = .returned (.tuple #[.int .u64 (U s), .bool true]) ∧ w = w')) (C2 : Hid (∀ w, Calls Try.prog 11 #[.int .i64 14, .bool false, .int .u64 (U s), .int .u64 (U b)] w fun e w' => e = .returned (.tuple #[.int .u64 (U a), .bool true]) ∧ w = w')) (C3 : Hid (∀ w, Calls Try.prog 11 #[.int .i64 15, .bool false, .int .u64 (U a), .int .u64 (U b)] w fun e w' => e = .returned (.tuple #[.int .u64 (U (a <<< (b.toNat &&& 63))), .bool true]) ∧ w = w')) (C4 : Hid (∀ w, Calls Try.prog 11 #[.int .i64 19, .bool false, .int .u64 (U (a <<< (b.toNat &&& 63))), .int .u64 (U b)] w fun e w' => e = .returned (.tuple #[.int .u64 (U ((a <<< (b.toNat &&& 63)) >>> (b.toNat &&& 63))), .bool true]) ∧ w = w')) (C5 : Hid (∀ w, Calls Try.prog 14 #[.int .i64 7, .int .u64 (U a), .int .u64 (U b)] w fun e w' => e = .returned (.tuple #[.bool true, .bool true]) ∧ w = w')) (C6 : Hid (∀ w, Calls Try.prog 14 #[.int .i64 8, .int .u64 (U a), .int .u64 (U b)] w fun e w' => e = .returned (.tuple #[.bool false, .bool true]) ∧ w = w')) (C7 : Hid (∀ w, Calls Try.prog 14 #[.int .i64 5, .int .u64 (U a), .int .u64 (U b)] w fun e w' => e = .returned (.tuple #[.bool false, .bool true]) ∧ w = w')) (C8 : Hid (∀ w, Calls Try.prog 14 #[.int .i64 6, .int .u64 (U a), .int .u64 (U b)] w fun e w' => e = .returned (.tuple #[.bool true, .bool true]) ∧ w = w')) (C9 : Hid (∀ w, Calls Try.prog 14 #[.int .i64 9, .int .u64 (U a), .int .u64 (U b)] w fun e w' => e = .returned (.tuple #[.bool true, .bool true]) ∧ w = w')) (C10 : Hid (∀ w, Calls Try.prog 14 #[.int .i64 10, .int .u64 (U a), .int .u64 (U b)] w fun e w' => e = .returned (.tuple #[.bool false, .bool true]) ∧ w = w')) (C11 : Hid (∀ w, Calls Try.prog 16 #[.int .i64 45, .int .i64 8, .int .u64 (U a), .int .u64 (U b)] w fun e w' => e = .returned (.tuple #[.int .u64 (U a), .bool true]) ∧ w = w')) (C12 : Hid (∀ w, Calls Try.prog 16 #[.int .i64 46, .int .i64 8, .int .u64 (U a), .int .u64 (U b)] w fun e w' => e = .returned (.tuple #[.int .u64 (U b), .bool true]) ∧ w = w')) (C13 : Hid (∀ w, Calls Try.prog 11 #[.int .i64 16, .bool false, .int .u64 (U a), .int .u64 (U b)] w fun e w' => e = .returned (.tuple #[.int .u64 (U 1#64), .bool true]) ∧ w = w'))
    (_t1 : (U a == U b) = false) (_t2 : (U b == U a) = false) (_t3 : (U (b ^^^ a) == U (a ^^^ b)) = true) (_t4 : (U 1#64 == 1) = true) (_t5 : (U 0#64 == 0) = true) (w : World) :
    Calls Try.prog 10 #[.int .u64 (U a), .int .u64 (U b)] w fun e w' => e = .returned (.bool true) ∧ w = w' := by
  go_enter Try.func10, Try.ntmps10
  go_wp2_with fail
  refine (C1.out _).mono ?_; rintro e w' ⟨rfl, rfl⟩
  go_wp2_with fail
  refine (C2.out _).mono ?_; rintro e w' ⟨rfl, rfl⟩
  go_wp2_with fail
  refine (C3.out _).mono ?_; rintro e w' ⟨rfl, rfl⟩
  go_wp2_with fail
  refine (C4.out _).mono ?_; rintro e w' ⟨rfl, rfl⟩
  go_wp2_with fail
  refine (C5.out _).mono ?_; rintro e w' ⟨rfl, rfl⟩
  go_wp2_with fail
  refine (C6.out _).mono ?_; rintro e w' ⟨rfl, rfl⟩
  go_wp2_with fail
  refine (C7.out _).mono ?_; rintro e w' ⟨rfl, rfl⟩
  go_wp2_with fail
  refine (C8.out _).mono ?_; rintro e w' ⟨rfl, rfl⟩
  go_wp2_with fail
  refine (C9.out _).mono ?_; rintro e w' ⟨rfl, rfl⟩
  go_wp2_with fail
  refine (C10.out _).mono ?_; rintro e w' ⟨rfl, rfl⟩
  go_wp2_with fail
  refine (C11.out _).mono ?_; rintro e w' ⟨rfl, rfl⟩
  go_wp2_with fail
  refine (C12.out _).mono ?_; rintro e w' ⟨rfl, rfl⟩
  go_wp2_with fail
  refine (C13.out _).mono ?_; rintro e w' ⟨rfl, rfl⟩
  go_wp2_with (go_at_call 13; refine (fixed_any _).mono ?_; rintro e w' ⟨rfl, rfl⟩)
  go_ret
  exact ⟨rfl, rfl⟩

set_option maxRecDepth 100000 in
set_option maxHeartbeats 2000000 in
theorem turns_110 (a b s : BitVec 64) (C1 : Hid (∀ w, Calls Try.prog 11 #[.int .i64 13, .bool false, .int .u64 (U a), .int .u64 (U b)] w fun e w' => e = .returned (.tuple #[.int .u64 (U s), .bool true]) ∧ w = w')) (C2 : Hid (∀ w, Calls Try.prog 11 #[.int .i64 14, .bool false, .int .u64 (U s), .int .u64 (U b)] w fun e w' => e = .returned (.tuple #[.int .u64 (U a), .bool true]) ∧ w = w')) (C3 : Hid (∀ w, Calls Try.prog 11 #[.int .i64 15, .bool false, .int .u64 (U a), .int .u64 (U b)] w fun e w' => e = .returned (.tuple #[.int .u64 (U (a <<< (b.toNat &&& 63))), .bool true]) ∧ w = w')) (C4 : Hid (∀ w, Calls Try.prog 11 #[.int .i64 19, .bool false, .int .u64 (U (a <<< (b.toNat &&& 63))), .int .u64 (U b)] w fun e w' => e = .returned (.tuple #[.int .u64 (U ((a <<< (b.toNat &&& 63)) >>> (b.toNat &&& 63))), .bool true]) ∧ w = w')) (C5 : Hid (∀ w, Calls Try.prog 14 #[.int .i64 7, .int .u64 (U a), .int .u64 (U b)] w fun e w' => e = .returned (.tuple #[.bool true, .bool true]) ∧ w = w')) (C6 : Hid (∀ w, Calls Try.prog 14 #[.int .i64 8, .int .u64 (U a), .int .u64 (U b)] w fun e w' => e = .returned (.tuple #[.bool false, .bool true]) ∧ w = w')) (C7 : Hid (∀ w, Calls Try.prog 14 #[.int .i64 5, .int .u64 (U a), .int .u64 (U b)] w fun e w' => e = .returned (.tuple #[.bool true, .bool true]) ∧ w = w')) (C8 : Hid (∀ w, Calls Try.prog 14 #[.int .i64 6, .int .u64 (U a), .int .u64 (U b)] w fun e w' => e = .returned (.tuple #[.bool false, .bool true]) ∧ w = w')) (C9 : Hid (∀ w, Calls Try.prog 14 #[.int .i64 9, .int .u64 (U a), .int .u64 (U b)] w fun e w' => e = .returned (.tuple #[.bool false, .bool true]) ∧ w = w')) (C10 : Hid (∀ w, Calls Try.prog 14 #[.int .i64 10, .int .u64 (U a), .int .u64 (U b)] w fun e w' => e = .returned (.tuple #[.bool true, .bool true]) ∧ w = w')) (C11 : Hid (∀ w, Calls Try.prog 16 #[.int .i64 45, .int .i64 8, .int .u64 (U a), .int .u64 (U b)] w fun e w' => e = .returned (.tuple #[.int .u64 (U a), .bool true]) ∧ w = w')) (C12 : Hid (∀ w, Calls Try.prog 16 #[.int .i64 46, .int .i64 8, .int .u64 (U a), .int .u64 (U b)] w fun e w' => e = .returned (.tuple #[.int .u64 (U b), .bool true]) ∧ w = w')) (C13 : Hid (∀ w, Calls Try.prog 11 #[.int .i64 16, .bool false, .int .u64 (U a), .int .u64 (U b)] w fun e w' => e = .returned (.tuple #[.int .u64 (U 1#64), .bool true]) ∧ w = w'))
    (_t1 : (U a == U b) = true) (_t2 : (U b == U a) = true) (_t3 : (U (b ^^^ a) == U (a ^^^ b)) = true) (_t4 : (U 1#64 == 1) = true) (_t5 : (U 0#64 == 0) = true) (w : World) :
    Calls Try.prog 10 #[.int .u64 (U a), .int .u64 (U b)] w fun e w' => e = .returned (.bool true) ∧ w = w' := by
  go_enter Try.func10, Try.ntmps10
  go_wp2_with fail
  refine (C1.out _).mono ?_; rintro e w' ⟨rfl, rfl⟩
  go_wp2_with fail
  refine (C2.out _).mono ?_; rintro e w' ⟨rfl, rfl⟩
  go_wp2_with fail
  refine (C3.out _).mono ?_; rintro e w' ⟨rfl, rfl⟩
  go_wp2_with fail
  refine (C4.out _).mono ?_; rintro e w' ⟨rfl, rfl⟩
  go_wp2_with fail
  refine (C5.out _).mono ?_; rintro e w' ⟨rfl, rfl⟩
  go_wp2_with fail
  refine (C6.out _).mono ?_; rintro e w' ⟨rfl, rfl⟩
  go_wp2_with fail
  refine (C7.out _).mono ?_; rintro e w' ⟨rfl, rfl⟩
  go_wp2_with fail
  refine (C8.out _).mono ?_; rintro e w' ⟨rfl, rfl⟩
  go_wp2_with fail
  refine (C9.out _).mono ?_; rintro e w' ⟨rfl, rfl⟩
  go_wp2_with fail
  refine (C10.out _).mono ?_; rintro e w' ⟨rfl, rfl⟩
  go_wp2_with fail
  refine (C11.out _).mono ?_; rintro e w' ⟨rfl, rfl⟩
  go_wp2_with fail
  refine (C12.out _).mono ?_; rintro e w' ⟨rfl, rfl⟩
  go_wp2_with fail
  refine (C13.out _).mono ?_; rintro e w' ⟨rfl, rfl⟩
  go_wp2_with (go_at_call 13; refine (fixed_any _).mono ?_; rintro e w' ⟨rfl, rfl⟩)
  go_ret
  exact ⟨rfl, rfl⟩

set_option maxRecDepth 100000 in
set_option maxHeartbeats 2000000 in
theorem turns_111 (a b s : BitVec 64) (C1 : Hid (∀ w, Calls Try.prog 11 #[.int .i64 13, .bool false, .int .u64 (U a), .int .u64 (U b)] w fun e w' => e = .returned (.tuple #[.int .u64 (U s), .bool true]) ∧ w = w')) (C2 : Hid (∀ w, Calls Try.prog 11 #[.int .i64 14, .bool false, .int .u64 (U s), .int .u64 (U b)] w fun e w' => e = .returned (.tuple #[.int .u64 (U a), .bool true]) ∧ w = w')) (C3 : Hid (∀ w, Calls Try.prog 11 #[.int .i64 15, .bool false, .int .u64 (U a), .int .u64 (U b)] w fun e w' => e = .returned (.tuple #[.int .u64 (U (a <<< (b.toNat &&& 63))), .bool true]) ∧ w = w')) (C4 : Hid (∀ w, Calls Try.prog 11 #[.int .i64 19, .bool false, .int .u64 (U (a <<< (b.toNat &&& 63))), .int .u64 (U b)] w fun e w' => e = .returned (.tuple #[.int .u64 (U ((a <<< (b.toNat &&& 63)) >>> (b.toNat &&& 63))), .bool true]) ∧ w = w')) (C5 : Hid (∀ w, Calls Try.prog 14 #[.int .i64 7, .int .u64 (U a), .int .u64 (U b)] w fun e w' => e = .returned (.tuple #[.bool true, .bool true]) ∧ w = w')) (C6 : Hid (∀ w, Calls Try.prog 14 #[.int .i64 8, .int .u64 (U a), .int .u64 (U b)] w fun e w' => e = .returned (.tuple #[.bool false, .bool true]) ∧ w = w')) (C7 : Hid (∀ w, Calls Try.prog 14 #[.int .i64 5, .int .u64 (U a), .int .u64 (U b)] w fun e w' => e = .returned (.tuple #[.bool true, .bool true]) ∧ w = w')) (C8 : Hid (∀ w, Calls Try.prog 14 #[.int .i64 6, .int .u64 (U a), .int .u64 (U b)] w fun e w' => e = .returned (.tuple #[.bool false, .bool true]) ∧ w = w')) (C9 : Hid (∀ w, Calls Try.prog 14 #[.int .i64 9, .int .u64 (U a), .int .u64 (U b)] w fun e w' => e = .returned (.tuple #[.bool true, .bool true]) ∧ w = w')) (C10 : Hid (∀ w, Calls Try.prog 14 #[.int .i64 10, .int .u64 (U a), .int .u64 (U b)] w fun e w' => e = .returned (.tuple #[.bool false, .bool true]) ∧ w = w')) (C11 : Hid (∀ w, Calls Try.prog 16 #[.int .i64 45, .int .i64 8, .int .u64 (U a), .int .u64 (U b)] w fun e w' => e = .returned (.tuple #[.int .u64 (U a), .bool true]) ∧ w = w')) (C12 : Hid (∀ w, Calls Try.prog 16 #[.int .i64 46, .int .i64 8, .int .u64 (U a), .int .u64 (U b)] w fun e w' => e = .returned (.tuple #[.int .u64 (U b), .bool true]) ∧ w = w')) (C13 : Hid (∀ w, Calls Try.prog 11 #[.int .i64 16, .bool false, .int .u64 (U a), .int .u64 (U b)] w fun e w' => e = .returned (.tuple #[.int .u64 (U 1#64), .bool true]) ∧ w = w'))
    (_t1 : (U a == U b) = true) (_t2 : (U b == U a) = true) (_t3 : (U (b ^^^ a) == U (a ^^^ b)) = true) (_t4 : (U 1#64 == 1) = true) (_t5 : (U 0#64 == 0) = true) (w : World) :
    Calls Try.prog 10 #[.int .u64 (U a), .int .u64 (U b)] w fun e w' => e = .returned (.bool true) ∧ w = w' := by
  go_enter Try.func10, Try.ntmps10
  go_wp2_with fail
  refine (C1.out _).mono ?_; rintro e w' ⟨rfl, rfl⟩
  go_wp2_with fail
  refine (C2.out _).mono ?_; rintro e w' ⟨rfl, rfl⟩
  go_wp2_with fail
  refine (C3.out _).mono ?_; rintro e w' ⟨rfl, rfl⟩
  go_wp2_with fail
  refine (C4.out _).mono ?_; rintro e w' ⟨rfl, rfl⟩
  go_wp2_with fail
  refine (C5.out _).mono ?_; rintro e w' ⟨rfl, rfl⟩
  go_wp2_with fail
  refine (C6.out _).mono ?_; rintro e w' ⟨rfl, rfl⟩
  go_wp2_with fail
  refine (C7.out _).mono ?_; rintro e w' ⟨rfl, rfl⟩
  go_wp2_with fail
  refine (C8.out _).mono ?_; rintro e w' ⟨rfl, rfl⟩
  go_wp2_with fail
  refine (C9.out _).mono ?_; rintro e w' ⟨rfl, rfl⟩
  go_wp2_with fail
  refine (C10.out _).mono ?_; rintro e w' ⟨rfl, rfl⟩
  go_wp2_with fail
  refine (C11.out _).mono ?_; rintro e w' ⟨rfl, rfl⟩
  go_wp2_with fail
  refine (C12.out _).mono ?_; rintro e w' ⟨rfl, rfl⟩
  go_wp2_with fail
  refine (C13.out _).mono ?_; rintro e w' ⟨rfl, rfl⟩
  go_wp2_with (go_at_call 13; refine (fixed_any _).mono ?_; rintro e w' ⟨rfl, rfl⟩)
  go_ret
  exact ⟨rfl, rfl⟩

theorem turns_any (a b : BitVec 64) (w : World) : Calls Try.prog 10 #[.int .u64 (U a), .int .u64 (U b)] w fun e w' => e = .returned (.bool true) ∧ w = w' := by
  have n := and_63 b
  have t1 := U_beq a b
  have t2 : (U b == U a) = (a == b) := by rw [U_beq]; exact Bool.beq_comm
  have t3 : (U (b ^^^ a) == U (a ^^^ b)) = true := by rw [BitVec.xor_comm]; simp
  have d : a + b - b = a := by rw [BitVec.add_sub_cancel]
  have hle : a.slt b = false → a.slt b = false ∧ (if b.slt a then a else b) = a := fun h => ⟨h, by
    rw [BitVec.slt_eq_decide] at h ⊢
    have h1 := of_decide_eq_false h
    by_cases h2 : b.toInt < a.toInt
    · simp [h2]
    · simp only [h2, decide_false, Bool.false_eq_true, if_false]
      exact BitVec.eq_of_toInt_eq (by omega)⟩
  have hgt : a.slt b = true → (if b.slt a then a else b) = b := fun h => by
    rw [BitVec.slt_eq_decide] at h ⊢
    have h1 := of_decide_eq_true h
    have h2 : ¬ b.toInt < a.toInt := by omega
    simp [h2]
  rcases hl : a.slt b with _ | _ <;> rcases he : a == b with _ | _ <;> rcases hu : a.ult b with _ | _
  all_goals
    rw [he] at t1 t2

  · exact turns_000 a b (a + b) (hide (doD_lit (by simp [doD, doW]))) (hide (doD_lit (by simp [doD, doW, d]))) (hide (doD_lit (by simp [doD, doW, n]))) (hide (doD_lit (by simp [doD, doW, n]))) (hide (brD_lit (by simp [brD, hl]))) (hide (brD_lit (by simp [brD, hl]))) (hide (brD_lit (by simp only [brD, he]; rfl))) (hide (brD_lit (by simp only [brD, bne, he]; rfl))) (hide (brD_lit (by simp [brD, hu]))) (hide (brD_lit (by simp [brD, hu]))) (hide (atD_lit (by simp [atD, atW, hl]))) (hide (atD_lit (by simp only [atD, atW]; rw [(hle hl).2]; rfl))) (hide (doD_lit (by simp [doD, hl, bit]))) t1 t2 t3 (by decide +kernel) (by decide +kernel) w
  · exact turns_001 a b (a + b) (hide (doD_lit (by simp [doD, doW]))) (hide (doD_lit (by simp [doD, doW, d]))) (hide (doD_lit (by simp [doD, doW, n]))) (hide (doD_lit (by simp [doD, doW, n]))) (hide (brD_lit (by simp [brD, hl]))) (hide (brD_lit (by simp [brD, hl]))) (hide (brD_lit (by simp only [brD, he]; rfl))) (hide (brD_lit (by simp only [brD, bne, he]; rfl))) (hide (brD_lit (by simp [brD, hu]))) (hide (brD_lit (by simp [brD, hu]))) (hide (atD_lit (by simp [atD, atW, hl]))) (hide (atD_lit (by simp only [atD, atW]; rw [(hle hl).2]; rfl))) (hide (doD_lit (by simp [doD, hl, bit]))) t1 t2 t3 (by decide +kernel) (by decide +kernel) w
  · exact turns_010 a b (a + b) (hide (doD_lit (by simp [doD, doW]))) (hide (doD_lit (by simp [doD, doW, d]))) (hide (doD_lit (by simp [doD, doW, n]))) (hide (doD_lit (by simp [doD, doW, n]))) (hide (brD_lit (by simp [brD, hl]))) (hide (brD_lit (by simp [brD, hl]))) (hide (brD_lit (by simp only [brD, he]; rfl))) (hide (brD_lit (by simp only [brD, bne, he]; rfl))) (hide (brD_lit (by simp [brD, hu]))) (hide (brD_lit (by simp [brD, hu]))) (hide (atD_lit (by simp [atD, atW, hl]))) (hide (atD_lit (by simp only [atD, atW]; rw [(hle hl).2]; rfl))) (hide (doD_lit (by simp [doD, hl, bit]))) t1 t2 t3 (by decide +kernel) (by decide +kernel) w
  · exact turns_011 a b (a + b) (hide (doD_lit (by simp [doD, doW]))) (hide (doD_lit (by simp [doD, doW, d]))) (hide (doD_lit (by simp [doD, doW, n]))) (hide (doD_lit (by simp [doD, doW, n]))) (hide (brD_lit (by simp [brD, hl]))) (hide (brD_lit (by simp [brD, hl]))) (hide (brD_lit (by simp only [brD, he]; rfl))) (hide (brD_lit (by simp only [brD, bne, he]; rfl))) (hide (brD_lit (by simp [brD, hu]))) (hide (brD_lit (by simp [brD, hu]))) (hide (atD_lit (by simp [atD, atW, hl]))) (hide (atD_lit (by simp only [atD, atW]; rw [(hle hl).2]; rfl))) (hide (doD_lit (by simp [doD, hl, bit]))) t1 t2 t3 (by decide +kernel) (by decide +kernel) w
  · exact turns_100 a b (a + b) (hide (doD_lit (by simp [doD, doW]))) (hide (doD_lit (by simp [doD, doW, d]))) (hide (doD_lit (by simp [doD, doW, n]))) (hide (doD_lit (by simp [doD, doW, n]))) (hide (brD_lit (by simp [brD, hl]))) (hide (brD_lit (by simp [brD, hl]))) (hide (brD_lit (by simp only [brD, he]; rfl))) (hide (brD_lit (by simp only [brD, bne, he]; rfl))) (hide (brD_lit (by simp [brD, hu]))) (hide (brD_lit (by simp [brD, hu]))) (hide (atD_lit (by simp [atD, atW, hl]))) (hide (atD_lit (by simp only [atD, atW]; rw [hgt hl]; rfl))) (hide (doD_lit (by simp [doD, hl, bit]))) t1 t2 t3 (by decide +kernel) (by decide +kernel) w
  · exact turns_101 a b (a + b) (hide (doD_lit (by simp [doD, doW]))) (hide (doD_lit (by simp [doD, doW, d]))) (hide (doD_lit (by simp [doD, doW, n]))) (hide (doD_lit (by simp [doD, doW, n]))) (hide (brD_lit (by simp [brD, hl]))) (hide (brD_lit (by simp [brD, hl]))) (hide (brD_lit (by simp only [brD, he]; rfl))) (hide (brD_lit (by simp only [brD, bne, he]; rfl))) (hide (brD_lit (by simp [brD, hu]))) (hide (brD_lit (by simp [brD, hu]))) (hide (atD_lit (by simp [atD, atW, hl]))) (hide (atD_lit (by simp only [atD, atW]; rw [hgt hl]; rfl))) (hide (doD_lit (by simp [doD, hl, bit]))) t1 t2 t3 (by decide +kernel) (by decide +kernel) w
  · exact turns_110 a b (a + b) (hide (doD_lit (by simp [doD, doW]))) (hide (doD_lit (by simp [doD, doW, d]))) (hide (doD_lit (by simp [doD, doW, n]))) (hide (doD_lit (by simp [doD, doW, n]))) (hide (brD_lit (by simp [brD, hl]))) (hide (brD_lit (by simp [brD, hl]))) (hide (brD_lit (by simp only [brD, he]; rfl))) (hide (brD_lit (by simp only [brD, bne, he]; rfl))) (hide (brD_lit (by simp [brD, hu]))) (hide (brD_lit (by simp [brD, hu]))) (hide (atD_lit (by simp [atD, atW, hl]))) (hide (atD_lit (by simp only [atD, atW]; rw [hgt hl]; rfl))) (hide (doD_lit (by simp [doD, hl, bit]))) t1 t2 t3 (by decide +kernel) (by decide +kernel) w
  · exact turns_111 a b (a + b) (hide (doD_lit (by simp [doD, doW]))) (hide (doD_lit (by simp [doD, doW, d]))) (hide (doD_lit (by simp [doD, doW, n]))) (hide (doD_lit (by simp [doD, doW, n]))) (hide (brD_lit (by simp [brD, hl]))) (hide (brD_lit (by simp [brD, hl]))) (hide (brD_lit (by simp only [brD, he]; rfl))) (hide (brD_lit (by simp only [brD, bne, he]; rfl))) (hide (brD_lit (by simp [brD, hu]))) (hide (brD_lit (by simp [brD, hu]))) (hide (atD_lit (by simp [atD, atW, hl]))) (hide (atD_lit (by simp only [atD, atW]; rw [hgt hl]; rfl))) (hide (doD_lit (by simp [doD, hl, bit]))) t1 t2 t3 (by decide +kernel) (by decide +kernel) w
end Go.Proofs.Ytkmdahokomnjcaa