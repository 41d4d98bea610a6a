/-
  The walks of AluUppers and AluTurns. (Printed by gen_aluo.py.)
-/
import Derived.Test.YtkmdahokomnjcaaAluM
namespace Go.Proofs.Ytkmdahokomnjcaa
open Go.RowKit

set_option maxHeartbeats 1000000 in
theorem uppers_000max (a b lo hi low hig s t : BitVec 64) (C1 : Hid (∀ w, Calls Try.prog 11 #[.int .i64 23, .bool false, .int .u64 (U a), .int .u64 (U b)] w fun e w' => e = .returned (.tuple #[.int .u64 (U lo), .bool true]) ∧ w = w')) (C2 : Hid (∀ w, Calls Try.prog 11 #[.int .i64 26, .bool false, .int .u64 (U a), .int .u64 (U b)] w fun e w' => e = .returned (.tuple #[.int .u64 (U hi), .bool true]) ∧ w = w')) (C3 : Hid (∀ w, Calls Try.prog 11 #[.int .i64 23, .bool false, .int .u64 (U a), .int .u64 (U (b + 1#64))] w fun e w' => e = .returned (.tuple #[.int .u64 (U low), .bool true]) ∧ w = w')) (C4 : Hid (∀ w, Calls Try.prog 11 #[.int .i64 26, .bool false, .int .u64 (U a), .int .u64 (U (b + 1#64))] w fun e w' => e = .returned (.tuple #[.int .u64 (U hig), .bool true]) ∧ w = w')) (C5 : Hid (∀ w, Calls Try.prog 11 #[.int .i64 25, .bool false, .int .u64 (U a), .int .u64 (U b)] w fun e w' => e = .returned (.tuple #[.int .u64 (U s), .bool true]) ∧ w = w')) (C6 : Hid (∀ w, Calls Try.prog 11 #[.int .i64 24, .bool false, .int .u64 (U a), .int .u64 (U b)] w fun e w' => e = .returned (.tuple #[.int .u64 (U t), .bool true]) ∧ w = w'))
    (tc : U lo ≤ U (lo + a)) (ta : (U (a >>> 63) == 1) = false) (tb : (U (b >>> 63) == 1) = false) (ts : (U s == U (hi)) = true) (tt : (U t == U (hi)) = true) (tm : (U b != 18446744073709551615) = false) (tz : (U b == 0) = false) (w : World) :
    Calls Try.prog 9 #[.int .u64 (U a), .int .u64 (U b)] w fun e w' => e = .returned (.bool true) ∧ w = w' := by
  go_enter Try.func9, Try.ntmps9
  go_wp2_with fail
  refine (C1.out _).mono ?_; rintro e w' ⟨rfl, rfl⟩
  go_wp2_with fail
  refine (C2.out _).mono ?_; rintro e w' ⟨rfl, rfl⟩
  go_wp2_with fail
  refine (C3.out _).mono ?_; rintro e w' ⟨rfl, rfl⟩
  go_wp2_with fail
  refine (C4.out _).mono ?_; rintro e w' ⟨rfl, rfl⟩
  go_wp2_with fail
  refine (C5.out _).mono ?_; rintro e w' ⟨rfl, rfl⟩
  go_wp2_with fail
  refine (C6.out _).mono ?_; rintro e w' ⟨rfl, rfl⟩
  go_wp2_with (go_at_call 13; refine (fixed_any _).mono ?_; rintro e w' ⟨rfl, rfl⟩)
  go_ret
  exact ⟨rfl, rfl⟩

set_option maxHeartbeats 1000000 in
theorem uppers_000zero (a b lo hi low hig s t : BitVec 64) (C1 : Hid (∀ w, Calls Try.prog 11 #[.int .i64 23, .bool false, .int .u64 (U a), .int .u64 (U b)] w fun e w' => e = .returned (.tuple #[.int .u64 (U lo), .bool true]) ∧ w = w')) (C2 : Hid (∀ w, Calls Try.prog 11 #[.int .i64 26, .bool false, .int .u64 (U a), .int .u64 (U b)] w fun e w' => e = .returned (.tuple #[.int .u64 (U hi), .bool true]) ∧ w = w')) (C3 : Hid (∀ w, Calls Try.prog 11 #[.int .i64 23, .bool false, .int .u64 (U a), .int .u64 (U (b + 1#64))] w fun e w' => e = .returned (.tuple #[.int .u64 (U low), .bool true]) ∧ w = w')) (C4 : Hid (∀ w, Calls Try.prog 11 #[.int .i64 26, .bool false, .int .u64 (U a), .int .u64 (U (b + 1#64))] w fun e w' => e = .returned (.tuple #[.int .u64 (U hig), .bool true]) ∧ w = w')) (C5 : Hid (∀ w, Calls Try.prog 11 #[.int .i64 25, .bool false, .int .u64 (U a), .int .u64 (U b)] w fun e w' => e = .returned (.tuple #[.int .u64 (U s), .bool true]) ∧ w = w')) (C6 : Hid (∀ w, Calls Try.prog 11 #[.int .i64 24, .bool false, .int .u64 (U a), .int .u64 (U b)] w fun e w' => e = .returned (.tuple #[.int .u64 (U t), .bool true]) ∧ w = w'))
    (tc : U lo ≤ U (lo + a)) (ta : (U (a >>> 63) == 1) = false) (tb : (U (b >>> 63) == 1) = false) (ts : (U s == U (hi)) = true) (tt : (U t == U (hi)) = true) (tm : (U b != 18446744073709551615) = true) (tl : (U low != U (lo + a)) = false) (th : (U hig != U (hi)) = false) (tz : (U b == 0) = true) (tlo : (U lo != 0) = false) (thi : (U hi != 0) = false) (w : World) :
    Calls Try.prog 9 #[.int .u64 (U a), .int .u64 (U b)] w fun e w' => e = .returned (.bool true) ∧ w = w' := by
  go_enter Try.func9, Try.ntmps9
  go_wp2_with fail
  refine (C1.out _).mono ?_; rintro e w' ⟨rfl, rfl⟩
  go_wp2_with fail
  refine (C2.out _).mono ?_; rintro e w' ⟨rfl, rfl⟩
  go_wp2_with fail
  refine (C3.out _).mono ?_; rintro e w' ⟨rfl, rfl⟩
  go_wp2_with fail
  refine (C4.out _).mono ?_; rintro e w' ⟨rfl, rfl⟩
  go_wp2_with fail
  refine (C5.out _).mono ?_; rintro e w' ⟨rfl, rfl⟩
  go_wp2_with fail
  refine (C6.out _).mono ?_; rintro e w' ⟨rfl, rfl⟩
  go_wp2_with (go_at_call 13; refine (fixed_any _).mono ?_; rintro e w' ⟨rfl, rfl⟩)
  go_ret
  exact ⟨rfl, rfl⟩

set_option maxHeartbeats 1000000 in
theorem uppers_000rest (a b lo hi low hig s t : BitVec 64) (C1 : Hid (∀ w, Calls Try.prog 11 #[.int .i64 23, .bool false, .int .u64 (U a), .int .u64 (U b)] w fun e w' => e = .returned (.tuple #[.int .u64 (U lo), .bool true]) ∧ w = w')) (C2 : Hid (∀ w, Calls Try.prog 11 #[.int .i64 26, .bool false, .int .u64 (U a), .int .u64 (U b)] w fun e w' => e = .returned (.tuple #[.int .u64 (U hi), .bool true]) ∧ w = w')) (C3 : Hid (∀ w, Calls Try.prog 11 #[.int .i64 23, .bool false, .int .u64 (U a), .int .u64 (U (b + 1#64))] w fun e w' => e = .returned (.tuple #[.int .u64 (U low), .bool true]) ∧ w = w')) (C4 : Hid (∀ w, Calls Try.prog 11 #[.int .i64 26, .bool false, .int .u64 (U a), .int .u64 (U (b + 1#64))] w fun e w' => e = .returned (.tuple #[.int .u64 (U hig), .bool true]) ∧ w = w')) (C5 : Hid (∀ w, Calls Try.prog 11 #[.int .i64 25, .bool false, .int .u64 (U a), .int .u64 (U b)] w fun e w' => e = .returned (.tuple #[.int .u64 (U s), .bool true]) ∧ w = w')) (C6 : Hid (∀ w, Calls Try.prog 11 #[.int .i64 24, .bool false, .int .u64 (U a), .int .u64 (U b)] w fun e w' => e = .returned (.tuple #[.int .u64 (U t), .bool true]) ∧ w = w'))
    (tc : U lo ≤ U (lo + a)) (ta : (U (a >>> 63) == 1) = false) (tb : (U (b >>> 63) == 1) = false) (ts : (U s == U (hi)) = true) (tt : (U t == U (hi)) = true) (tm : (U b != 18446744073709551615) = true) (tl : (U low != U (lo + a)) = false) (th : (U hig != U (hi)) = false) (tz : (U b == 0) = false) (w : World) :
    Calls Try.prog 9 #[.int .u64 (U a), .int .u64 (U b)] w fun e w' => e = .returned (.bool true) ∧ w = w' := by
  go_enter Try.func9, Try.ntmps9
  go_wp2_with fail
  refine (C1.out _).mono ?_; rintro e w' ⟨rfl, rfl⟩
  go_wp2_with fail
  refine (C2.out _).mono ?_; rintro e w' ⟨rfl, rfl⟩
  go_wp2_with fail
  refine (C3.out _).mono ?_; rintro e w' ⟨rfl, rfl⟩
  go_wp2_with fail
  refine (C4.out _).mono ?_; rintro e w' ⟨rfl, rfl⟩
  go_wp2_with fail
  refine (C5.out _).mono ?_; rintro e w' ⟨rfl, rfl⟩
  go_wp2_with fail
  refine (C6.out _).mono ?_; rintro e w' ⟨rfl, rfl⟩
  go_wp2_with (go_at_call 13; refine (fixed_any _).mono ?_; rintro e w' ⟨rfl, rfl⟩)
  go_ret
  exact ⟨rfl, rfl⟩

set_option maxHeartbeats 1000000 in
theorem uppers_001max (a b lo hi low hig s t : BitVec 64) (C1 : Hid (∀ w, Calls Try.prog 11 #[.int .i64 23, .bool false, .int .u64 (U a), .int .u64 (U b)] w fun e w' => e = .returned (.tuple #[.int .u64 (U lo), .bool true]) ∧ w = w')) (C2 : Hid (∀ w, Calls Try.prog 11 #[.int .i64 26, .bool false, .int .u64 (U a), .int .u64 (U b)] w fun e w' => e = .returned (.tuple #[.int .u64 (U hi), .bool true]) ∧ w = w')) (C3 : Hid (∀ w, Calls Try.prog 11 #[.int .i64 23, .bool false, .int .u64 (U a), .int .u64 (U (b + 1#64))] w fun e w' => e = .returned (.tuple #[.int .u64 (U low), .bool true]) ∧ w = w')) (C4 : Hid (∀ w, Calls Try.prog 11 #[.int .i64 26, .bool false, .int .u64 (U a), .int .u64 (U (b + 1#64))] w fun e w' => e = .returned (.tuple #[.int .u64 (U hig), .bool true]) ∧ w = w')) (C5 : Hid (∀ w, Calls Try.prog 11 #[.int .i64 25, .bool false, .int .u64 (U a), .int .u64 (U b)] w fun e w' => e = .returned (.tuple #[.int .u64 (U s), .bool true]) ∧ w = w')) (C6 : Hid (∀ w, Calls Try.prog 11 #[.int .i64 24, .bool false, .int .u64 (U a), .int .u64 (U b)] w fun e w' => e = .returned (.tuple #[.int .u64 (U t), .bool true]) ∧ w = w'))
    (tc : U lo ≤ U (lo + a)) (ta : (U (a >>> 63) == 1) = false) (tb : (U (b >>> 63) == 1) = true) (ts : (U s == U (hi)) = true) (tt : (U t == U (hi - a)) = true) (tm : (U b != 18446744073709551615) = false) (tz : (U b == 0) = false) (w : World) :
    Calls Try.prog 9 #[.int .u64 (U a), .int .u64 (U b)] w fun e w' => e = .returned (.bool true) ∧ w = w' := by
  go_enter Try.func9, Try.ntmps9
  go_wp2_with fail
  refine (C1.out _).mono ?_; rintro e w' ⟨rfl, rfl⟩
  go_wp2_with fail
  refine (C2.out _).mono ?_; rintro e w' ⟨rfl, rfl⟩
  go_wp2_with fail
  refine (C3.out _).mono ?_; rintro e w' ⟨rfl, rfl⟩
  go_wp2_with fail
  refine (C4.out _).mono ?_; rintro e w' ⟨rfl, rfl⟩
  go_wp2_with fail
  refine (C5.out _).mono ?_; rintro e w' ⟨rfl, rfl⟩
  go_wp2_with fail
  refine (C6.out _).mono ?_; rintro e w' ⟨rfl, rfl⟩
  go_wp2_with (go_at_call 13; refine (fixed_any _).mono ?_; rintro e w' ⟨rfl, rfl⟩)
  go_ret
  exact ⟨rfl, rfl⟩

set_option maxHeartbeats 1000000 in
theorem uppers_001zero (a b lo hi low hig s t : BitVec 64) (C1 : Hid (∀ w, Calls Try.prog 11 #[.int .i64 23, .bool false, .int .u64 (U a), .int .u64 (U b)] w fun e w' => e = .returned (.tuple #[.int .u64 (U lo), .bool true]) ∧ w = w')) (C2 : Hid (∀ w, Calls Try.prog 11 #[.int .i64 26, .bool false, .int .u64 (U a), .int .u64 (U b)] w fun e w' => e = .returned (.tuple #[.int .u64 (U hi), .bool true]) ∧ w = w')) (C3 : Hid (∀ w, Calls Try.prog 11 #[.int .i64 23, .bool false, .int .u64 (U a), .int .u64 (U (b + 1#64))] w fun e w' => e = .returned (.tuple #[.int .u64 (U low), .bool true]) ∧ w = w')) (C4 : Hid (∀ w, Calls Try.prog 11 #[.int .i64 26, .bool false, .int .u64 (U a), .int .u64 (U (b + 1#64))] w fun e w' => e = .returned (.tuple #[.int .u64 (U hig), .bool true]) ∧ w = w')) (C5 : Hid (∀ w, Calls Try.prog 11 #[.int .i64 25, .bool false, .int .u64 (U a), .int .u64 (U b)] w fun e w' => e = .returned (.tuple #[.int .u64 (U s), .bool true]) ∧ w = w')) (C6 : Hid (∀ w, Calls Try.prog 11 #[.int .i64 24, .bool false, .int .u64 (U a), .int .u64 (U b)] w fun e w' => e = .returned (.tuple #[.int .u64 (U t), .bool true]) ∧ w = w'))
    (tc : U lo ≤ U (lo + a)) (ta : (U (a >>> 63) == 1) = false) (tb : (U (b >>> 63) == 1) = true) (ts : (U s == U (hi)) = true) (tt : (U t == U (hi - a)) = true) (tm : (U b != 18446744073709551615) = true) (tl : (U low != U (lo + a)) = false) (th : (U hig != U (hi)) = false) (tz : (U b == 0) = true) (tlo : (U lo != 0) = false) (thi : (U hi != 0) = false) (w : World) :
    Calls Try.prog 9 #[.int .u64 (U a), .int .u64 (U b)] w fun e w' => e = .returned (.bool true) ∧ w = w' := by
  go_enter Try.func9, Try.ntmps9
  go_wp2_with fail
  refine (C1.out _).mono ?_; rintro e w' ⟨rfl, rfl⟩
  go_wp2_with fail
  refine (C2.out _).mono ?_; rintro e w' ⟨rfl, rfl⟩
  go_wp2_with fail
  refine (C3.out _).mono ?_; rintro e w' ⟨rfl, rfl⟩
  go_wp2_with fail
  refine (C4.out _).mono ?_; rintro e w' ⟨rfl, rfl⟩
  go_wp2_with fail
  refine (C5.out _).mono ?_; rintro e w' ⟨rfl, rfl⟩
  go_wp2_with fail
  refine (C6.out _).mono ?_; rintro e w' ⟨rfl, rfl⟩
  go_wp2_with (go_at_call 13; refine (fixed_any _).mono ?_; rintro e w' ⟨rfl, rfl⟩)
  go_ret
  exact ⟨rfl, rfl⟩

set_option maxHeartbeats 1000000 in
theorem uppers_001rest (a b lo hi low hig s t : BitVec 64) (C1 : Hid (∀ w, Calls Try.prog 11 #[.int .i64 23, .bool false, .int .u64 (U a), .int .u64 (U b)] w fun e w' => e = .returned (.tuple #[.int .u64 (U lo), .bool true]) ∧ w = w')) (C2 : Hid (∀ w, Calls Try.prog 11 #[.int .i64 26, .bool false, .int .u64 (U a), .int .u64 (U b)] w fun e w' => e = .returned (.tuple #[.int .u64 (U hi), .bool true]) ∧ w = w')) (C3 : Hid (∀ w, Calls Try.prog 11 #[.int .i64 23, .bool false, .int .u64 (U a), .int .u64 (U (b + 1#64))] w fun e w' => e = .returned (.tuple #[.int .u64 (U low), .bool true]) ∧ w = w')) (C4 : Hid (∀ w, Calls Try.prog 11 #[.int .i64 26, .bool false, .int .u64 (U a), .int .u64 (U (b + 1#64))] w fun e w' => e = .returned (.tuple #[.int .u64 (U hig), .bool true]) ∧ w = w')) (C5 : Hid (∀ w, Calls Try.prog 11 #[.int .i64 25, .bool false, .int .u64 (U a), .int .u64 (U b)] w fun e w' => e = .returned (.tuple #[.int .u64 (U s), .bool true]) ∧ w = w')) (C6 : Hid (∀ w, Calls Try.prog 11 #[.int .i64 24, .bool false, .int .u64 (U a), .int .u64 (U b)] w fun e w' => e = .returned (.tuple #[.int .u64 (U t), .bool true]) ∧ w = w'))
    (tc : U lo ≤ U (lo + a)) (ta : (U (a >>> 63) == 1) = false) (tb : (U (b >>> 63) == 1) = true) (ts : (U s == U (hi)) = true) (tt : (U t == U (hi - a)) = true) (tm : (U b != 18446744073709551615) = true) (tl : (U low != U (lo + a)) = false) (th : (U hig != U (hi)) = false) (tz : (U b == 0) = false) (w : World) :
    Calls Try.prog 9 #[.int .u64 (U a), .int .u64 (U b)] w fun e w' => e = .returned (.bool true) ∧ w = w' := by
  go_enter Try.func9, Try.ntmps9
  go_wp2_with fail
  refine (C1.out _).mono ?_; rintro e w' ⟨rfl, rfl⟩
  go_wp2_with fail
  refine (C2.out _).mono ?_; rintro e w' ⟨rfl, rfl⟩
  go_wp2_with fail
  refine (C3.out _).mono ?_; rintro e w' ⟨rfl, rfl⟩
  go_wp2_with fail
  refine (C4.out _).mono ?_; rintro e w' ⟨rfl, rfl⟩
  go_wp2_with fail
  refine (C5.out _).mono ?_; rintro e w' ⟨rfl, rfl⟩
  go_wp2_with fail
  refine (C6.out _).mono ?_; rintro e w' ⟨rfl, rfl⟩
  go_wp2_with (go_at_call 13; refine (fixed_any _).mono ?_; rintro e w' ⟨rfl, rfl⟩)
  go_ret
  exact ⟨rfl, rfl⟩

set_option maxHeartbeats 1000000 in
theorem uppers_010max (a b lo hi low hig s t : BitVec 64) (C1 : Hid (∀ w, Calls Try.prog 11 #[.int .i64 23, .bool false, .int .u64 (U a), .int .u64 (U b)] w fun e w' => e = .returned (.tuple #[.int .u64 (U lo), .bool true]) ∧ w = w')) (C2 : Hid (∀ w, Calls Try.prog 11 #[.int .i64 26, .bool false, .int .u64 (U a), .int .u64 (U b)] w fun e w' => e = .returned (.tuple #[.int .u64 (U hi), .bool true]) ∧ w = w')) (C3 : Hid (∀ w, Calls Try.prog 11 #[.int .i64 23, .bool false, .int .u64 (U a), .int .u64 (U (b + 1#64))] w fun e w' => e = .returned (.tuple #[.int .u64 (U low), .bool true]) ∧ w = w')) (C4 : Hid (∀ w, Calls Try.prog 11 #[.int .i64 26, .bool false, .int .u64 (U a), .int .u64 (U (b + 1#64))] w fun e w' => e = .returned (.tuple #[.int .u64 (U hig), .bool true]) ∧ w = w')) (C5 : Hid (∀ w, Calls Try.prog 11 #[.int .i64 25, .bool false, .int .u64 (U a), .int .u64 (U b)] w fun e w' => e = .returned (.tuple #[.int .u64 (U s), .bool true]) ∧ w = w')) (C6 : Hid (∀ w, Calls Try.prog 11 #[.int .i64 24, .bool false, .int .u64 (U a), .int .u64 (U b)] w fun e w' => e = .returned (.tuple #[.int .u64 (U t), .bool true]) ∧ w = w'))
    (tc : U lo ≤ U (lo + a)) (ta : (U (a >>> 63) == 1) = true) (tb : (U (b >>> 63) == 1) = false) (ts : (U s == U (hi - b)) = true) (tt : (U t == U (hi - b)) = true) (tm : (U b != 18446744073709551615) = false) (tz : (U b == 0) = false) (w : World) :
    Calls Try.prog 9 #[.int .u64 (U a), .int .u64 (U b)] w fun e w' => e = .returned (.bool true) ∧ w = w' := by
  go_enter Try.func9, Try.ntmps9
  go_wp2_with fail
  refine (C1.out _).mono ?_; rintro e w' ⟨rfl, rfl⟩
  go_wp2_with fail
  refine (C2.out _).mono ?_; rintro e w' ⟨rfl, rfl⟩
  go_wp2_with fail
  refine (C3.out _).mono ?_; rintro e w' ⟨rfl, rfl⟩
  go_wp2_with fail
  refine (C4.out _).mono ?_; rintro e w' ⟨rfl, rfl⟩
  go_wp2_with fail
  refine (C5.out _).mono ?_; rintro e w' ⟨rfl, rfl⟩
  go_wp2_with fail
  refine (C6.out _).mono ?_; rintro e w' ⟨rfl, rfl⟩
  go_wp2_with (go_at_call 13; refine (fixed_any _).mono ?_; rintro e w' ⟨rfl, rfl⟩)
  go_ret
  exact ⟨rfl, rfl⟩

set_option maxHeartbeats 1000000 in
theorem uppers_010zero (a b lo hi low hig s t : BitVec 64) (C1 : Hid (∀ w, Calls Try.prog 11 #[.int .i64 23, .bool false, .int .u64 (U a), .int .u64 (U b)] w fun e w' => e = .returned (.tuple #[.int .u64 (U lo), .bool true]) ∧ w = w')) (C2 : Hid (∀ w, Calls Try.prog 11 #[.int .i64 26, .bool false, .int .u64 (U a), .int .u64 (U b)] w fun e w' => e = .returned (.tuple #[.int .u64 (U hi), .bool true]) ∧ w = w')) (C3 : Hid (∀ w, Calls Try.prog 11 #[.int .i64 23, .bool false, .int .u64 (U a), .int .u64 (U (b + 1#64))] w fun e w' => e = .returned (.tuple #[.int .u64 (U low), .bool true]) ∧ w = w')) (C4 : Hid (∀ w, Calls Try.prog 11 #[.int .i64 26, .bool false, .int .u64 (U a), .int .u64 (U (b + 1#64))] w fun e w' => e = .returned (.tuple #[.int .u64 (U hig), .bool true]) ∧ w = w')) (C5 : Hid (∀ w, Calls Try.prog 11 #[.int .i64 25, .bool false, .int .u64 (U a), .int .u64 (U b)] w fun e w' => e = .returned (.tuple #[.int .u64 (U s), .bool true]) ∧ w = w')) (C6 : Hid (∀ w, Calls Try.prog 11 #[.int .i64 24, .bool false, .int .u64 (U a), .int .u64 (U b)] w fun e w' => e = .returned (.tuple #[.int .u64 (U t), .bool true]) ∧ w = w'))
    (tc : U lo ≤ U (lo + a)) (ta : (U (a >>> 63) == 1) = true) (tb : (U (b >>> 63) == 1) = false) (ts : (U s == U (hi - b)) = true) (tt : (U t == U (hi - b)) = true) (tm : (U b != 18446744073709551615) = true) (tl : (U low != U (lo + a)) = false) (th : (U hig != U (hi)) = false) (tz : (U b == 0) = true) (tlo : (U lo != 0) = false) (thi : (U hi != 0) = false) (w : World) :
    Calls Try.prog 9 #[.int .u64 (U a), .int .u64 (U b)] w fun e w' => e = .returned (.bool true) ∧ w = w' := by
  go_enter Try.func9, Try.ntmps9
  go_wp2_with fail
  refine (C1.out _).mono ?_; rintro e w' ⟨rfl, rfl⟩
  go_wp2_with fail
  refine (C2.out _).mono ?_; rintro e w' ⟨rfl, rfl⟩
  go_wp2_with fail
  refine (C3.out _).mono ?_; rintro e w' ⟨rfl, rfl⟩
  go_wp2_with fail
  refine (C4.out _).mono ?_; rintro e w' ⟨rfl, rfl⟩
  go_wp2_with fail
  refine (C5.out _).mono ?_; rintro e w' ⟨rfl, rfl⟩
  go_wp2_with fail
  refine (C6.out _).mono ?_; rintro e w' ⟨rfl, rfl⟩
  go_wp2_with (go_at_call 13; refine (fixed_any _).mono ?_; rintro e w' ⟨rfl, rfl⟩)
  go_ret
  exact ⟨rfl, rfl⟩

set_option maxHeartbeats 1000000 in
theorem uppers_010rest (a b lo hi low hig s t : BitVec 64) (C1 : Hid (∀ w, Calls Try.prog 11 #[.int .i64 23, .bool false, .int .u64 (U a), .int .u64 (U b)] w fun e w' => e = .returned (.tuple #[.int .u64 (U lo), .bool true]) ∧ w = w')) (C2 : Hid (∀ w, Calls Try.prog 11 #[.int .i64 26, .bool false, .int .u64 (U a), .int .u64 (U b)] w fun e w' => e = .returned (.tuple #[.int .u64 (U hi), .bool true]) ∧ w = w')) (C3 : Hid (∀ w, Calls Try.prog 11 #[.int .i64 23, .bool false, .int .u64 (U a), .int .u64 (U (b + 1#64))] w fun e w' => e = .returned (.tuple #[.int .u64 (U low), .bool true]) ∧ w = w')) (C4 : Hid (∀ w, Calls Try.prog 11 #[.int .i64 26, .bool false, .int .u64 (U a), .int .u64 (U (b + 1#64))] w fun e w' => e = .returned (.tuple #[.int .u64 (U hig), .bool true]) ∧ w = w')) (C5 : Hid (∀ w, Calls Try.prog 11 #[.int .i64 25, .bool false, .int .u64 (U a), .int .u64 (U b)] w fun e w' => e = .returned (.tuple #[.int .u64 (U s), .bool true]) ∧ w = w')) (C6 : Hid (∀ w, Calls Try.prog 11 #[.int .i64 24, .bool false, .int .u64 (U a), .int .u64 (U b)] w fun e w' => e = .returned (.tuple #[.int .u64 (U t), .bool true]) ∧ w = w'))
    (tc : U lo ≤ U (lo + a)) (ta : (U (a >>> 63) == 1) = true) (tb : (U (b >>> 63) == 1) = false) (ts : (U s == U (hi - b)) = true) (tt : (U t == U (hi - b)) = true) (tm : (U b != 18446744073709551615) = true) (tl : (U low != U (lo + a)) = false) (th : (U hig != U (hi)) = false) (tz : (U b == 0) = false) (w : World) :
    Calls Try.prog 9 #[.int .u64 (U a), .int .u64 (U b)] w fun e w' => e = .returned (.bool true) ∧ w = w' := by
  go_enter Try.func9, Try.ntmps9
  go_wp2_with fail
  refine (C1.out _).mono ?_; rintro e w' ⟨rfl, rfl⟩
  go_wp2_with fail
  refine (C2.out _).mono ?_; rintro e w' ⟨rfl, rfl⟩
  go_wp2_with fail
  refine (C3.out _).mono ?_; rintro e w' ⟨rfl, rfl⟩
  go_wp2_with fail
  refine (C4.out _).mono ?_; rintro e w' ⟨rfl, rfl⟩
  go_wp2_with fail
  refine (C5.out _).mono ?_; rintro e w' ⟨rfl, rfl⟩
  go_wp2_with fail
  refine (C6.out _).mono ?_; rintro e w' ⟨rfl, rfl⟩
  go_wp2_with (go_at_call 13; refine (fixed_any _).mono ?_; rintro e w' ⟨rfl, rfl⟩)
  go_ret
  exact ⟨rfl, rfl⟩

set_option maxHeartbeats 1000000 in
theorem uppers_011max (a b lo hi low hig s t : BitVec 64) (C1 : Hid (∀ w, Calls Try.prog 11 #[.int .i64 23, .bool false, .int .u64 (U a), .int .u64 (U b)] w fun e w' => e = .returned (.tuple #[.int .u64 (U lo), .bool true]) ∧ w = w')) (C2 : Hid (∀ w, Calls Try.prog 11 #[.int .i64 26, .bool false, .int .u64 (U a), .int .u64 (U b)] w fun e w' => e = .returned (.tuple #[.int .u64 (U hi), .bool true]) ∧ w = w')) (C3 : Hid (∀ w, Calls Try.prog 11 #[.int .i64 23, .bool false, .int .u64 (U a), .int .u64 (U (b + 1#64))] w fun e w' => e = .returned (.tuple #[.int .u64 (U low), .bool true]) ∧ w = w')) (C4 : Hid (∀ w, Calls Try.prog 11 #[.int .i64 26, .bool false, .int .u64 (U a), .int .u64 (U (b + 1#64))] w fun e w' => e = .returned (.tuple #[.int .u64 (U hig), .bool true]) ∧ w = w')) (C5 : Hid (∀ w, Calls Try.prog 11 #[.int .i64 25, .bool false, .int .u64 (U a), .int .u64 (U b)] w fun e w' => e = .returned (.tuple #[.int .u64 (U s), .bool true]) ∧ w = w')) (C6 : Hid (∀ w, Calls Try.prog 11 #[.int .i64 24, .bool false, .int .u64 (U a), .int .u64 (U b)] w fun e w' => e = .returned (.tuple #[.int .u64 (U t), .bool true]) ∧ w = w'))
    (tc : U lo ≤ U (lo + a)) (ta : (U (a >>> 63) == 1) = true) (tb : (U (b >>> 63) == 1) = true) (ts : (U s == U (hi - b)) = true) (tt : (U t == U (hi - b - a)) = true) (tm : (U b != 18446744073709551615) = false) (tz : (U b == 0) = false) (w : World) :
    Calls Try.prog 9 #[.int .u64 (U a), .int .u64 (U b)] w fun e w' => e = .returned (.bool true) ∧ w = w' := by
  go_enter Try.func9, Try.ntmps9
  go_wp2_with fail
  refine (C1.out _).mono ?_; rintro e w' ⟨rfl, rfl⟩
  go_wp2_with fail
  refine (C2.out _).mono ?_; rintro e w' ⟨rfl, rfl⟩
  go_wp2_with fail
  refine (C3.out _).mono ?_; rintro e w' ⟨rfl, rfl⟩
  go_wp2_with fail
  refine (C4.out _).mono ?_; rintro e w' ⟨rfl, rfl⟩
  go_wp2_with fail
  refine (C5.out _).mono ?_; rintro e w' ⟨rfl, rfl⟩
  go_wp2_with fail
  refine (C6.out _).mono ?_; rintro e w' ⟨rfl, rfl⟩
  go_wp2_with (go_at_call 13; refine (fixed_any _).mono ?_; rintro e w' ⟨rfl, rfl⟩)
  go_ret
  exact ⟨rfl, rfl⟩

set_option maxHeartbeats 1000000 in
theorem uppers_011zero (a b lo hi low hig s t : BitVec 64) (C1 : Hid (∀ w, Calls Try.prog 11 #[.int .i64 23, .bool false, .int .u64 (U a), .int .u64 (U b)] w fun e w' => e = .returned (.tuple #[.int .u64 (U lo), .bool true]) ∧ w = w')) (C2 : Hid (∀ w, Calls Try.prog 11 #[.int .i64 26, .bool false, .int .u64 (U a), .int .u64 (U b)] w fun e w' => e = .returned (.tuple #[.int .u64 (U hi), .bool true]) ∧ w = w')) (C3 : Hid (∀ w, Calls Try.prog 11 #[.int .i64 23, .bool false, .int .u64 (U a), .int .u64 (U (b + 1#64))] w fun e w' => e = .returned (.tuple #[.int .u64 (U low), .bool true]) ∧ w = w')) (C4 : Hid (∀ w, Calls Try.prog 11 #[.int .i64 26, .bool false, .int .u64 (U a), .int .u64 (U (b + 1#64))] w fun e w' => e = .returned (.tuple #[.int .u64 (U hig), .bool true]) ∧ w = w')) (C5 : Hid (∀ w, Calls Try.prog 11 #[.int .i64 25, .bool false, .int .u64 (U a), .int .u64 (U b)] w fun e w' => e = .returned (.tuple #[.int .u64 (U s), .bool true]) ∧ w = w')) (C6 : Hid (∀ w, Calls Try.prog 11 #[.int .i64 24, .bool false, .int .u64 (U a), .int .u64 (U b)] w fun e w' => e = .returned (.tuple #[.int .u64 (U t), .bool true]) ∧ w = w'))
    (tc : U lo ≤ U (lo + a)) (ta : (U (a >>> 63) == 1) = true) (tb : (U (b >>> 63) == 1) = true) (ts : (U s == U (hi - b)) = true) (tt : (U t == U (hi - b - a)) = true) (tm : (U b != 18446744073709551615) = true) (tl : (U low != U (lo + a)) = false) (th : (U hig != U (hi)) = false) (tz : (U b == 0) = true) (tlo : (U lo != 0) = false) (thi : (U hi != 0) = false) (w : World) :
    Calls Try.prog 9 #[.int .u64 (U a), .int .u64 (U b)] w fun e w' => e = .returned (.bool true) ∧ w = w' := by
  go_enter Try.func9, Try.ntmps9
  go_wp2_with fail
  refine (C1.out _).mono ?_; rintro e w' ⟨rfl, rfl⟩
  go_wp2_with fail
  refine (C2.out _).mono ?_; rintro e w' ⟨rfl, rfl⟩
  go_wp2_with fail
  refine (C3.out _).mono ?_; rintro e w' ⟨rfl, rfl⟩
  go_wp2_with fail
  refine (C4.out _).mono ?_; rintro e w' ⟨rfl, rfl⟩
  go_wp2_with fail
  refine (C5.out _).mono ?_; rintro e w' ⟨rfl, rfl⟩
  go_wp2_with fail
  refine (C6.out _).mono ?_; rintro e w' ⟨rfl, rfl⟩
  go_wp2_with (go_at_call 13; refine (fixed_any _).mono ?_; rintro e w' ⟨rfl, rfl⟩)
  go_ret
  exact ⟨rfl, rfl⟩

set_option maxHeartbeats 1000000 in
theorem uppers_011rest (a b lo hi low hig s t : BitVec 64) (C1 : Hid (∀ w, Calls Try.prog 11 #[.int .i64 23, .bool false, .int .u64 (U a), .int .u64 (U b)] w fun e w' => e = .returned (.tuple #[.int .u64 (U lo), .bool true]) ∧ w = w')) (C2 : Hid (∀ w, Calls Try.prog 11 #[.int .i64 26, .bool false, .int .u64 (U a), .int .u64 (U b)] w fun e w' => e = .returned (.tuple #[.int .u64 (U hi), .bool true]) ∧ w = w')) (C3 : Hid (∀ w, Calls Try.prog 11 #[.int .i64 23, .bool false, .int .u64 (U a), .int .u64 (U (b + 1#64))] w fun e w' => e = .returned (.tuple #[.int .u64 (U low), .bool true]) ∧ w = w')) (C4 : Hid (∀ w, Calls Try.prog 11 #[.int .i64 26, .bool false, .int .u64 (U a), .int .u64 (U (b + 1#64))] w fun e w' => e = .returned (.tuple #[.int .u64 (U hig), .bool true]) ∧ w = w')) (C5 : Hid (∀ w, Calls Try.prog 11 #[.int .i64 25, .bool false, .int .u64 (U a), .int .u64 (U b)] w fun e w' => e = .returned (.tuple #[.int .u64 (U s), .bool true]) ∧ w = w')) (C6 : Hid (∀ w, Calls Try.prog 11 #[.int .i64 24, .bool false, .int .u64 (U a), .int .u64 (U b)] w fun e w' => e = .returned (.tuple #[.int .u64 (U t), .bool true]) ∧ w = w'))
    (tc : U lo ≤ U (lo + a)) (ta : (U (a >>> 63) == 1) = true) (tb : (U (b >>> 63) == 1) = true) (ts : (U s == U (hi - b)) = true) (tt : (U t == U (hi - b - a)) = true) (tm : (U b != 18446744073709551615) = true) (tl : (U low != U (lo + a)) = false) (th : (U hig != U (hi)) = false) (tz : (U b == 0) = false) (w : World) :
    Calls Try.prog 9 #[.int .u64 (U a), .int .u64 (U b)] w fun e w' => e = .returned (.bool true) ∧ w = w' := by
  go_enter Try.func9, Try.ntmps9
  go_wp2_with fail
  refine (C1.out _).mono ?_; rintro e w' ⟨rfl, rfl⟩
  go_wp2_with fail
  refine (C2.out _).mono ?_; rintro e w' ⟨rfl, rfl⟩
  go_wp2_with fail
  refine (C3.out _).mono ?_; rintro e w' ⟨rfl, rfl⟩
  go_wp2_with fail
  refine (C4.out _).mono ?_; rintro e w' ⟨rfl, rfl⟩
  go_wp2_with fail
  refine (C5.out _).mono ?_; rintro e w' ⟨rfl, rfl⟩
  go_wp2_with fail
  refine (C6.out _).mono ?_; rintro e w' ⟨rfl, rfl⟩
  go_wp2_with (go_at_call 13; refine (fixed_any _).mono ?_; rintro e w' ⟨rfl, rfl⟩)
  go_ret
  exact ⟨rfl, rfl⟩

set_option maxHeartbeats 1000000 in
theorem uppers_100max (a b lo hi low hig s t : BitVec 64) (C1 : Hid (∀ w, Calls Try.prog 11 #[.int .i64 23, .bool false, .int .u64 (U a), .int .u64 (U b)] w fun e w' => e = .returned (.tuple #[.int .u64 (U lo), .bool true]) ∧ w = w')) (C2 : Hid (∀ w, Calls Try.prog 11 #[.int .i64 26, .bool false, .int .u64 (U a), .int .u64 (U b)] w fun e w' => e = .returned (.tuple #[.int .u64 (U hi), .bool true]) ∧ w = w')) (C3 : Hid (∀ w, Calls Try.prog 11 #[.int .i64 23, .bool false, .int .u64 (U a), .int .u64 (U (b + 1#64))] w fun e w' => e = .returned (.tuple #[.int .u64 (U low), .bool true]) ∧ w = w')) (C4 : Hid (∀ w, Calls Try.prog 11 #[.int .i64 26, .bool false, .int .u64 (U a), .int .u64 (U (b + 1#64))] w fun e w' => e = .returned (.tuple #[.int .u64 (U hig), .bool true]) ∧ w = w')) (C5 : Hid (∀ w, Calls Try.prog 11 #[.int .i64 25, .bool false, .int .u64 (U a), .int .u64 (U b)] w fun e w' => e = .returned (.tuple #[.int .u64 (U s), .bool true]) ∧ w = w')) (C6 : Hid (∀ w, Calls Try.prog 11 #[.int .i64 24, .bool false, .int .u64 (U a), .int .u64 (U b)] w fun e w' => e = .returned (.tuple #[.int .u64 (U t), .bool true]) ∧ w = w'))
    (tc : U (lo + a) < U lo) (ta : (U (a >>> 63) == 1) = false) (tb : (U (b >>> 63) == 1) = false) (ts : (U s == U (hi)) = true) (tt : (U t == U (hi)) = true) (tm : (U b != 18446744073709551615) = false) (tz : (U b == 0) = false) (w : World) :
    Calls Try.prog 9 #[.int .u64 (U a), .int .u64 (U b)] w fun e w' => e = .returned (.bool true) ∧ w = w' := by
  go_enter Try.func9, Try.ntmps9
  go_wp2_with fail
  refine (C1.out _).mono ?_; rintro e w' ⟨rfl, rfl⟩
  go_wp2_with fail
  refine (C2.out _).mono ?_; rintro e w' ⟨rfl, rfl⟩
  go_wp2_with fail
  refine (C3.out _).mono ?_; rintro e w' ⟨rfl, rfl⟩
  go_wp2_with fail
  refine (C4.out _).mono ?_; rintro e w' ⟨rfl, rfl⟩
  go_wp2_with fail
  refine (C5.out _).mono ?_; rintro e w' ⟨rfl, rfl⟩
  go_wp2_with fail
  refine (C6.out _).mono ?_; rintro e w' ⟨rfl, rfl⟩
  go_wp2_with (go_at_call 13; refine (fixed_any _).mono ?_; rintro e w' ⟨rfl, rfl⟩)
  go_ret
  exact ⟨rfl, rfl⟩

set_option maxHeartbeats 1000000 in
theorem uppers_100zero (a b lo hi low hig s t : BitVec 64) (C1 : Hid (∀ w, Calls Try.prog 11 #[.int .i64 23, .bool false, .int .u64 (U a), .int .u64 (U b)] w fun e w' => e = .returned (.tuple #[.int .u64 (U lo), .bool true]) ∧ w = w')) (C2 : Hid (∀ w, Calls Try.prog 11 #[.int .i64 26, .bool false, .int .u64 (U a), .int .u64 (U b)] w fun e w' => e = .returned (.tuple #[.int .u64 (U hi), .bool true]) ∧ w = w')) (C3 : Hid (∀ w, Calls Try.prog 11 #[.int .i64 23, .bool false, .int .u64 (U a), .int .u64 (U (b + 1#64))] w fun e w' => e = .returned (.tuple #[.int .u64 (U low), .bool true]) ∧ w = w')) (C4 : Hid (∀ w, Calls Try.prog 11 #[.int .i64 26, .bool false, .int .u64 (U a), .int .u64 (U (b + 1#64))] w fun e w' => e = .returned (.tuple #[.int .u64 (U hig), .bool true]) ∧ w = w')) (C5 : Hid (∀ w, Calls Try.prog 11 #[.int .i64 25, .bool false, .int .u64 (U a), .int .u64 (U b)] w fun e w' => e = .returned (.tuple #[.int .u64 (U s), .bool true]) ∧ w = w')) (C6 : Hid (∀ w, Calls Try.prog 11 #[.int .i64 24, .bool false, .int .u64 (U a), .int .u64 (U b)] w fun e w' => e = .returned (.tuple #[.int .u64 (U t), .bool true]) ∧ w = w'))
    (tc : U (lo + a) < U lo) (ta : (U (a >>> 63) == 1) = false) (tb : (U (b >>> 63) == 1) = false) (ts : (U s == U (hi)) = true) (tt : (U t == U (hi)) = true) (tm : (U b != 18446744073709551615) = true) (tl : (U low != U (lo + a)) = false) (th : (U hig != U (hi + 1#64)) = false) (tz : (U b == 0) = true) (tlo : (U lo != 0) = false) (thi : (U hi != 0) = false) (w : World) :
    Calls Try.prog 9 #[.int .u64 (U a), .int .u64 (U b)] w fun e w' => e = .returned (.bool true) ∧ w = w' := by
  go_enter Try.func9, Try.ntmps9
  go_wp2_with fail
  refine (C1.out _).mono ?_; rintro e w' ⟨rfl, rfl⟩
  go_wp2_with fail
  refine (C2.out _).mono ?_; rintro e w' ⟨rfl, rfl⟩
  go_wp2_with fail
  refine (C3.out _).mono ?_; rintro e w' ⟨rfl, rfl⟩
  go_wp2_with fail
  refine (C4.out _).mono ?_; rintro e w' ⟨rfl, rfl⟩
  go_wp2_with fail
  refine (C5.out _).mono ?_; rintro e w' ⟨rfl, rfl⟩
  go_wp2_with fail
  refine (C6.out _).mono ?_; rintro e w' ⟨rfl, rfl⟩
  go_wp2_with (go_at_call 13; refine (fixed_any _).mono ?_; rintro e w' ⟨rfl, rfl⟩)
  go_ret
  exact ⟨rfl, rfl⟩

set_option maxHeartbeats 1000000 in
theorem uppers_100rest (a b lo hi low hig s t : BitVec 64) (C1 : Hid (∀ w, Calls Try.prog 11 #[.int .i64 23, .bool false, .int .u64 (U a), .int .u64 (U b)] w fun e w' => e = .returned (.tuple #[.int .u64 (U lo), .bool true]) ∧ w = w')) (C2 : Hid (∀ w, Calls Try.prog 11 #[.int .i64 26, .bool false, .int .u64 (U a), .int .u64 (U b)] w fun e w' => e = .returned (.tuple #[.int .u64 (U hi), .bool true]) ∧ w = w')) (C3 : Hid (∀ w, Calls Try.prog 11 #[.int .i64 23, .bool false, .int .u64 (U a), .int .u64 (U (b + 1#64))] w fun e w' => e = .returned (.tuple #[.int .u64 (U low), .bool true]) ∧ w = w')) (C4 : Hid (∀ w, Calls Try.prog 11 #[.int .i64 26, .bool false, .int .u64 (U a), .int .u64 (U (b + 1#64))] w fun e w' => e = .returned (.tuple #[.int .u64 (U hig), .bool true]) ∧ w = w')) (C5 : Hid (∀ w, Calls Try.prog 11 #[.int .i64 25, .bool false, .int .u64 (U a), .int .u64 (U b)] w fun e w' => e = .returned (.tuple #[.int .u64 (U s), .bool true]) ∧ w = w')) (C6 : Hid (∀ w, Calls Try.prog 11 #[.int .i64 24, .bool false, .int .u64 (U a), .int .u64 (U b)] w fun e w' => e = .returned (.tuple #[.int .u64 (U t), .bool true]) ∧ w = w'))
    (tc : U (lo + a) < U lo) (ta : (U (a >>> 63) == 1) = false) (tb : (U (b >>> 63) == 1) = false) (ts : (U s == U (hi)) = true) (tt : (U t == U (hi)) = true) (tm : (U b != 18446744073709551615) = true) (tl : (U low != U (lo + a)) = false) (th : (U hig != U (hi + 1#64)) = false) (tz : (U b == 0) = false) (w : World) :
    Calls Try.prog 9 #[.int .u64 (U a), .int .u64 (U b)] w fun e w' => e = .returned (.bool true) ∧ w = w' := by
  go_enter Try.func9, Try.ntmps9
  go_wp2_with fail
  refine (C1.out _).mono ?_; rintro e w' ⟨rfl, rfl⟩
  go_wp2_with fail
  refine (C2.out _).mono ?_; rintro e w' ⟨rfl, rfl⟩
  go_wp2_with fail
  refine (C3.out _).mono ?_; rintro e w' ⟨rfl, rfl⟩
  go_wp2_with fail
  refine (C4.out _).mono ?_; rintro e w' ⟨rfl, rfl⟩
  go_wp2_with fail
  refine (C5.out _).mono ?_; rintro e w' ⟨rfl, rfl⟩
  go_wp2_with fail
  refine (C6.out _).mono ?_; rintro e w' ⟨rfl, rfl⟩
  go_wp2_with (go_at_call 13; refine (fixed_any _).mono ?_; rintro e w' ⟨rfl, rfl⟩)
  go_ret
  exact ⟨rfl, rfl⟩

set_option maxHeartbeats 1000000 in
theorem uppers_101max (a b lo hi low hig s t : BitVec 64) (C1 : Hid (∀ w, Calls Try.prog 11 #[.int .i64 23, .bool false, .int .u64 (U a), .int .u64 (U b)] w fun e w' => e = .returned (.tuple #[.int .u64 (U lo), .bool true]) ∧ w = w')) (C2 : Hid (∀ w, Calls Try.prog 11 #[.int .i64 26, .bool false, .int .u64 (U a), .int .u64 (U b)] w fun e w' => e = .returned (.tuple #[.int .u64 (U hi), .bool true]) ∧ w = w')) (C3 : Hid (∀ w, Calls Try.prog 11 #[.int .i64 23, .bool false, .int .u64 (U a), .int .u64 (U (b + 1#64))] w fun e w' => e = .returned (.tuple #[.int .u64 (U low), .bool true]) ∧ w = w')) (C4 : Hid (∀ w, Calls Try.prog 11 #[.int .i64 26, .bool false, .int .u64 (U a), .int .u64 (U (b + 1#64))] w fun e w' => e = .returned (.tuple #[.int .u64 (U hig), .bool true]) ∧ w = w')) (C5 : Hid (∀ w, Calls Try.prog 11 #[.int .i64 25, .bool false, .int .u64 (U a), .int .u64 (U b)] w fun e w' => e = .returned (.tuple #[.int .u64 (U s), .bool true]) ∧ w = w')) (C6 : Hid (∀ w, Calls Try.prog 11 #[.int .i64 24, .bool false, .int .u64 (U a), .int .u64 (U b)] w fun e w' => e = .returned (.tuple #[.int .u64 (U t), .bool true]) ∧ w = w'))
    (tc : U (lo + a) < U lo) (ta : (U (a >>> 63) == 1) = false) (tb : (U (b >>> 63) == 1) = true) (ts : (U s == U (hi)) = true) (tt : (U t == U (hi - a)) = true) (tm : (U b != 18446744073709551615) = false) (tz : (U b == 0) = false) (w : World) :
    Calls Try.prog 9 #[.int .u64 (U a), .int .u64 (U b)] w fun e w' => e = .returned (.bool true) ∧ w = w' := by
  go_enter Try.func9, Try.ntmps9
  go_wp2_with fail
  refine (C1.out _).mono ?_; rintro e w' ⟨rfl, rfl⟩
  go_wp2_with fail
  refine (C2.out _).mono ?_; rintro e w' ⟨rfl, rfl⟩
  go_wp2_with fail
  refine (C3.out _).mono ?_; rintro e w' ⟨rfl, rfl⟩
  go_wp2_with fail
  refine (C4.out _).mono ?_; rintro e w' ⟨rfl, rfl⟩
  go_wp2_with fail
  refine (C5.out _).mono ?_; rintro e w' ⟨rfl, rfl⟩
  go_wp2_with fail
  refine (C6.out _).mono ?_; rintro e w' ⟨rfl, rfl⟩
  go_wp2_with (go_at_call 13; refine (fixed_any _).mono ?_; rintro e w' ⟨rfl, rfl⟩)
  go_ret
  exact ⟨rfl, rfl⟩

set_option maxHeartbeats 1000000 in
theorem uppers_101zero (a b lo hi low hig s t : BitVec 64) (C1 : Hid (∀ w, Calls Try.prog 11 #[.int .i64 23, .bool false, .int .u64 (U a), .int .u64 (U b)] w fun e w' => e = .returned (.tuple #[.int .u64 (U lo), .bool true]) ∧ w = w')) (C2 : Hid (∀ w, Calls Try.prog 11 #[.int .i64 26, .bool false, .int .u64 (U a), .int .u64 (U b)] w fun e w' => e = .returned (.tuple #[.int .u64 (U hi), .bool true]) ∧ w = w')) (C3 : Hid (∀ w, Calls Try.prog 11 #[.int .i64 23, .bool false, .int .u64 (U a), .int .u64 (U (b + 1#64))] w fun e w' => e = .returned (.tuple #[.int .u64 (U low), .bool true]) ∧ w = w')) (C4 : Hid (∀ w, Calls Try.prog 11 #[.int .i64 26, .bool false, .int .u64 (U a), .int .u64 (U (b + 1#64))] w fun e w' => e = .returned (.tuple #[.int .u64 (U hig), .bool true]) ∧ w = w')) (C5 : Hid (∀ w, Calls Try.prog 11 #[.int .i64 25, .bool false, .int .u64 (U a), .int .u64 (U b)] w fun e w' => e = .returned (.tuple #[.int .u64 (U s), .bool true]) ∧ w = w')) (C6 : Hid (∀ w, Calls Try.prog 11 #[.int .i64 24, .bool false, .int .u64 (U a), .int .u64 (U b)] w fun e w' => e = .returned (.tuple #[.int .u64 (U t), .bool true]) ∧ w = w'))
    (tc : U (lo + a) < U lo) (ta : (U (a >>> 63) == 1) = false) (tb : (U (b >>> 63) == 1) = true) (ts : (U s == U (hi)) = true) (tt : (U t == U (hi - a)) = true) (tm : (U b != 18446744073709551615) = true) (tl : (U low != U (lo + a)) = false) (th : (U hig != U (hi + 1#64)) = false) (tz : (U b == 0) = true) (tlo : (U lo != 0) = false) (thi : (U hi != 0) = false) (w : World) :
    Calls Try.prog 9 #[.int .u64 (U a), .int .u64 (U b)] w fun e w' => e = .returned (.bool true) ∧ w = w' := by
  go_enter Try.func9, Try.ntmps9
  go_wp2_with fail
  refine (C1.out _).mono ?_; rintro e w' ⟨rfl, rfl⟩
  go_wp2_with fail
  refine (C2.out _).mono ?_; rintro e w' ⟨rfl, rfl⟩
  go_wp2_with fail
  refine (C3.out _).mono ?_; rintro e w' ⟨rfl, rfl⟩
  go_wp2_with fail
  refine (C4.out _).mono ?_; rintro e w' ⟨rfl, rfl⟩
  go_wp2_with fail
  refine (C5.out _).mono ?_; rintro e w' ⟨rfl, rfl⟩
  go_wp2_with fail
  refine (C6.out _).mono ?_; rintro e w' ⟨rfl, rfl⟩
  go_wp2_with (go_at_call 13; refine (fixed_any _).mono ?_; rintro e w' ⟨rfl, rfl⟩)
  go_ret
  exact ⟨rfl, rfl⟩

set_option maxHeartbeats 1000000 in
theorem uppers_101rest (a b lo hi low hig s t : BitVec 64) (C1 : Hid (∀ w, Calls Try.prog 11 #[.int .i64 23, .bool false, .int .u64 (U a), .int .u64 (U b)] w fun e w' => e = .returned (.tuple #[.int .u64 (U lo), .bool true]) ∧ w = w')) (C2 : Hid (∀ w, Calls Try.prog 11 #[.int .i64 26, .bool false, .int .u64 (U a), .int .u64 (U b)] w fun e w' => e = .returned (.tuple #[.int .u64 (U hi), .bool true]) ∧ w = w')) (C3 : Hid (∀ w, Calls Try.prog 11 #[.int .i64 23, .bool false, .int .u64 (U a), .int .u64 (U (b + 1#64))] w fun e w' => e = .returned (.tuple #[.int .u64 (U low), .bool true]) ∧ w = w')) (C4 : Hid (∀ w, Calls Try.prog 11 #[.int .i64 26, .bool false, .int .u64 (U a), .int .u64 (U (b + 1#64))] w fun e w' => e = .returned (.tuple #[.int .u64 (U hig), .bool true]) ∧ w = w')) (C5 : Hid (∀ w, Calls Try.prog 11 #[.int .i64 25, .bool false, .int .u64 (U a), .int .u64 (U b)] w fun e w' => e = .returned (.tuple #[.int .u64 (U s), .bool true]) ∧ w = w')) (C6 : Hid (∀ w, Calls Try.prog 11 #[.int .i64 24, .bool false, .int .u64 (U a), .int .u64 (U b)] w fun e w' => e = .returned (.tuple #[.int .u64 (U t), .bool true]) ∧ w = w'))
    (tc : U (lo + a) < U lo) (ta : (U (a >>> 63) == 1) = false) (tb : (U (b >>> 63) == 1) = true) (ts : (U s == U (hi)) = true) (tt : (U t == U (hi - a)) = true) (tm : (U b != 18446744073709551615) = true) (tl : (U low != U (lo + a)) = false) (th : (U hig != U (hi + 1#64)) = false) (tz : (U b == 0) = false) (w : World) :
    Calls Try.prog 9 #[.int .u64 (U a), .int .u64 (U b)] w fun e w' => e = .returned (.bool true) ∧ w = w' := by
  go_enter Try.func9, Try.ntmps9
  go_wp2_with fail
  refine (C1.out _).mono ?_; rintro e w' ⟨rfl, rfl⟩
  go_wp2_with fail
  refine (C2.out _).mono ?_; rintro e w' ⟨rfl, rfl⟩
  go_wp2_with fail
  refine (C3.out _).mono ?_; rintro e w' ⟨rfl, rfl⟩
  go_wp2_with fail
  refine (C4.out _).mono ?_; rintro e w' ⟨rfl, rfl⟩
  go_wp2_with fail
  refine (C5.out _).mono ?_; rintro e w' ⟨rfl, rfl⟩
  go_wp2_with fail
  refine (C6.out _).mono ?_; rintro e w' ⟨rfl, rfl⟩
  go_wp2_with (go_at_call 13; refine (fixed_any _).mono ?_; rintro e w' ⟨rfl, rfl⟩)
  go_ret
  exact ⟨rfl, rfl⟩

set_option maxHeartbeats 1000000 in
theorem uppers_110max (a b lo hi low hig s t : BitVec 64) (C1 : Hid (∀ w, Calls Try.prog 11 #[.int .i64 23, .bool false, .int .u64 (U a), .int .u64 (U b)] w fun e w' => e = .returned (.tuple #[.int .u64 (U lo), .bool true]) ∧ w = w')) (C2 : Hid (∀ w, Calls Try.prog 11 #[.int .i64 26, .bool false, .int .u64 (U a), .int .u64 (U b)] w fun e w' => e = .returned (.tuple #[.int .u64 (U hi), .bool true]) ∧ w = w')) (C3 : Hid (∀ w, Calls Try.prog 11 #[.int .i64 23, .bool false, .int .u64 (U a), .int .u64 (U (b + 1#64))] w fun e w' => e = .returned (.tuple #[.int .u64 (U low), .bool true]) ∧ w = w')) (C4 : Hid (∀ w, Calls Try.prog 11 #[.int .i64 26, .bool false, .int .u64 (U a), .int .u64 (U (b + 1#64))] w fun e w' => e = .returned (.tuple #[.int .u64 (U hig), .bool true]) ∧ w = w')) (C5 : Hid (∀ w, Calls Try.prog 11 #[.int .i64 25, .bool false, .int .u64 (U a), .int .u64 (U b)] w fun e w' => e = .returned (.tuple #[.int .u64 (U s), .bool true]) ∧ w = w')) (C6 : Hid (∀ w, Calls Try.prog 11 #[.int .i64 24, .bool false, .int .u64 (U a), .int .u64 (U b)] w fun e w' => e = .returned (.tuple #[.int .u64 (U t), .bool true]) ∧ w = w'))
    (tc : U (lo + a) < U lo) (ta : (U (a >>> 63) == 1) = true) (tb : (U (b >>> 63) == 1) = false) (ts : (U s == U (hi - b)) = true) (tt : (U t == U (hi - b)) = true) (tm : (U b != 18446744073709551615) = false) (tz : (U b == 0) = false) (w : World) :
    Calls Try.prog 9 #[.int .u64 (U a), .int .u64 (U b)] w fun e w' => e = .returned (.bool true) ∧ w = w' := by
  go_enter Try.func9, Try.ntmps9
  go_wp2_with fail
  refine (C1.out _).mono ?_; rintro e w' ⟨rfl, rfl⟩
  go_wp2_with fail
  refine (C2.out _).mono ?_; rintro e w' ⟨rfl, rfl⟩
  go_wp2_with fail
  refine (C3.out _).mono ?_; rintro e w' ⟨rfl, rfl⟩
  go_wp2_with fail
  refine (C4.out _).mono ?_; rintro e w' ⟨rfl, rfl⟩
  go_wp2_with fail
  refine (C5.out _).mono ?_; rintro e w' ⟨rfl, rfl⟩
  go_wp2_with fail
  refine (C6.out _).mono ?_; rintro e w' ⟨rfl, rfl⟩
  go_wp2_with (go_at_call 13; refine (fixed_any _).mono ?_; rintro e w' ⟨rfl, rfl⟩)
  go_ret
  exact ⟨rfl, rfl⟩

set_option maxHeartbeats 1000000 in
theorem uppers_110zero (a b lo hi low hig s t : BitVec 64) (C1 : Hid (∀ w, Calls Try.prog 11 #[.int .i64 23, .bool false, .int .u64 (U a), .int .u64 (U b)] w fun e w' => e = .returned (.tuple #[.int .u64 (U lo), .bool true]) ∧ w = w')) (C2 : Hid (∀ w, Calls Try.prog 11 #[.int .i64 26, .bool false, .int .u64 (U a), .int .u64 (U b)] w fun e w' => e = .returned (.tuple #[.int .u64 (U hi), .bool true]) ∧ w = w')) (C3 : Hid (∀ w, Calls Try.prog 11 #[.int .i64 23, .bool false, .int .u64 (U a), .int .u64 (U (b + 1#64))] w fun e w' => e = .returned (.tuple #[.int .u64 (U low), .bool true]) ∧ w = w')) (C4 : Hid (∀ w, Calls Try.prog 11 #[.int .i64 26, .bool false, .int .u64 (U a), .int .u64 (U (b + 1#64))] w fun e w' => e = .returned (.tuple #[.int .u64 (U hig), .bool true]) ∧ w = w')) (C5 : Hid (∀ w, Calls Try.prog 11 #[.int .i64 25, .bool false, .int .u64 (U a), .int .u64 (U b)] w fun e w' => e = .returned (.tuple #[.int .u64 (U s), .bool true]) ∧ w = w')) (C6 : Hid (∀ w, Calls Try.prog 11 #[.int .i64 24, .bool false, .int .u64 (U a), .int .u64 (U b)] w fun e w' => e = .returned (.tuple #[.int .u64 (U t), .bool true]) ∧ w = w'))
    (tc : U (lo + a) < U lo) (ta : (U (a >>> 63) == 1) = true) (tb : (U (b >>> 63) == 1) = false) (ts : (U s == U (hi - b)) = true) (tt : (U t == U (hi - b)) = true) (tm : (U b != 18446744073709551615) = true) (tl : (U low != U (lo + a)) = false) (th : (U hig != U (hi + 1#64)) = false) (tz : (U b == 0) = true) (tlo : (U lo != 0) = false) (thi : (U hi != 0) = false) (w : World) :
    Calls Try.prog 9 #[.int .u64 (U a), .int .u64 (U b)] w fun e w' => e = .returned (.bool true) ∧ w = w' := by
  go_enter Try.func9, Try.ntmps9
  go_wp2_with fail
  refine (C1.out _).mono ?_; rintro e w' ⟨rfl, rfl⟩
  go_wp2_with fail
  refine (C2.out _).mono ?_; rintro e w' ⟨rfl, rfl⟩
  go_wp2_with fail
  refine (C3.out _).mono ?_; rintro e w' ⟨rfl, rfl⟩
  go_wp2_with fail
  refine (C4.out _).mono ?_; rintro e w' ⟨rfl, rfl⟩
  go_wp2_with fail
  refine (C5.out _).mono ?_; rintro e w' ⟨rfl, rfl⟩
  go_wp2_with fail
  refine (C6.out _).mono ?_; rintro e w' ⟨rfl, rfl⟩
  go_wp2_with (go_at_call 13; refine (fixed_any _).mono ?_; rintro e w' ⟨rfl, rfl⟩)
  go_ret
  exact ⟨rfl, rfl⟩

set_option maxHeartbeats 1000000 in
theorem uppers_110rest (a b lo hi low hig s t : BitVec 64) (C1 : Hid (∀ w, Calls Try.prog 11 #[.int .i64 23, .bool false, .int .u64 (U a), .int .u64 (U b)] w fun e w' => e = .returned (.tuple #[.int .u64 (U lo), .bool true]) ∧ w = w')) (C2 : Hid (∀ w, Calls Try.prog 11 #[.int .i64 26, .bool false, .int .u64 (U a), .int .u64 (U b)] w fun e w' => e = .returned (.tuple #[.int .u64 (U hi), .bool true]) ∧ w = w')) (C3 : Hid (∀ w, Calls Try.prog 11 #[.int .i64 23, .bool false, .int .u64 (U a), .int .u64 (U (b + 1#64))] w fun e w' => e = .returned (.tuple #[.int .u64 (U low), .bool true]) ∧ w = w')) (C4 : Hid (∀ w, Calls Try.prog 11 #[.int .i64 26, .bool false, .int .u64 (U a), .int .u64 (U (b + 1#64))] w fun e w' => e = .returned (.tuple #[.int .u64 (U hig), .bool true]) ∧ w = w')) (C5 : Hid (∀ w, Calls Try.prog 11 #[.int .i64 25, .bool false, .int .u64 (U a), .int .u64 (U b)] w fun e w' => e = .returned (.tuple #[.int .u64 (U s), .bool true]) ∧ w = w')) (C6 : Hid (∀ w, Calls Try.prog 11 #[.int .i64 24, .bool false, .int .u64 (U a), .int .u64 (U b)] w fun e w' => e = .returned (.tuple #[.int .u64 (U t), .bool true]) ∧ w = w'))
    (tc : U (lo + a) < U lo) (ta : (U (a >>> 63) == 1) = true) (tb : (U (b >>> 63) == 1) = false) (ts : (U s == U (hi - b)) = true) (tt : (U t == U (hi - b)) = true) (tm : (U b != 18446744073709551615) = true) (tl : (U low != U (lo + a)) = false) (th : (U hig != U (hi + 1#64)) = false) (tz : (U b == 0) = false) (w : World) :
    Calls Try.prog 9 #[.int .u64 (U a), .int .u64 (U b)] w fun e w' => e = .returned (.bool true) ∧ w = w' := by
  go_enter Try.func9, Try.ntmps9
  go_wp2_with fail
  refine (C1.out _).mono ?_; rintro e w' ⟨rfl, rfl⟩
  go_wp2_with fail
  refine (C2.out _).mono ?_; rintro e w' ⟨rfl, rfl⟩
  go_wp2_with fail
  refine (C3.out _).mono ?_; rintro e w' ⟨rfl, rfl⟩
  go_wp2_with fail
  refine (C4.out _).mono ?_; rintro e w' ⟨rfl, rfl⟩
  go_wp2_with fail
  refine (C5.out _).mono ?_; rintro e w' ⟨rfl, rfl⟩
  go_wp2_with fail
  refine (C6.out _).mono ?_; rintro e w' ⟨rfl, rfl⟩
  go_wp2_with (go_at_call 13; refine (fixed_any _).mono ?_; rintro e w' ⟨rfl, rfl⟩)
  go_ret
  exact ⟨rfl, rfl⟩

set_option maxHeartbeats 1000000 in
theorem uppers_111max (a b lo hi low hig s t : BitVec 64) (C1 : Hid (∀ w, Calls Try.prog 11 #[.int .i64 23, .bool false, .int .u64 (U a), .int .u64 (U b)] w fun e w' => e = .returned (.tuple #[.int .u64 (U lo), .bool true]) ∧ w = w')) (C2 : Hid (∀ w, Calls Try.prog 11 #[.int .i64 26, .bool false, .int .u64 (U a), .int .u64 (U b)] w fun e w' => e = .returned (.tuple #[.int .u64 (U hi), .bool true]) ∧ w = w')) (C3 : Hid (∀ w, Calls Try.prog 11 #[.int .i64 23, .bool false, .int .u64 (U a), .int .u64 (U (b + 1#64))] w fun e w' => e = .returned (.tuple #[.int .u64 (U low), .bool true]) ∧ w = w')) (C4 : Hid (∀ w, Calls Try.prog 11 #[.int .i64 26, .bool false, .int .u64 (U a), .int .u64 (U (b + 1#64))] w fun e w' => e = .returned (.tuple #[.int .u64 (U hig), .bool true]) ∧ w = w')) (C5 : Hid (∀ w, Calls Try.prog 11 #[.int .i64 25, .bool false, .int .u64 (U a), .int .u64 (U b)] w fun e w' => e = .returned (.tuple #[.int .u64 (U s), .bool true]) ∧ w = w')) (C6 : Hid (∀ w, Calls Try.prog 11 #[.int .i64 24, .bool false, .int .u64 (U a), .int .u64 (U b)] w fun e w' => e = .returned (.tuple #[.int .u64 (U t), .bool true]) ∧ w = w'))
    (tc : U (lo + a) < U lo) (ta : (U (a >>> 63) == 1) = true) (tb : (U (b >>> 63) == 1) = true) (ts : (U s == U (hi - b)) = true) (tt : (U t == U (hi - b - a)) = true) (tm : (U b != 18446744073709551615) = false) (tz : (U b == 0) = false) (w : World) :
    Calls Try.prog 9 #[.int .u64 (U a), .int .u64 (U b)] w fun e w' => e = .returned (.bool true) ∧ w = w' := by
  go_enter Try.func9, Try.ntmps9
  go_wp2_with fail
  refine (C1.out _).mono ?_; rintro e w' ⟨rfl, rfl⟩
  go_wp2_with fail
  refine (C2.out _).mono ?_; rintro e w' ⟨rfl, rfl⟩
  go_wp2_with fail
  refine (C3.out _).mono ?_; rintro e w' ⟨rfl, rfl⟩
  go_wp2_with fail
  refine (C4.out _).mono ?_; rintro e w' ⟨rfl, rfl⟩
  go_wp2_with fail
  refine (C5.out _).mono ?_; rintro e w' ⟨rfl, rfl⟩
  go_wp2_with fail
  refine (C6.out _).mono ?_; rintro e w' ⟨rfl, rfl⟩
  go_wp2_with (go_at_call 13; refine (fixed_any _).mono ?_; rintro e w' ⟨rfl, rfl⟩)
  go_ret
  exact ⟨rfl, rfl⟩

set_option maxHeartbeats 1000000 in
theorem uppers_111zero (a b lo hi low hig s t : BitVec 64) (C1 : Hid (∀ w, Calls Try.prog 11 #[.int .i64 23, .bool false, .int .u64 (U a), .int .u64 (U b)] w fun e w' => e = .returned (.tuple #[.int .u64 (U lo), .bool true]) ∧ w = w')) (C2 : Hid (∀ w, Calls Try.prog 11 #[.int .i64 26, .bool false, .int .u64 (U a), .int .u64 (U b)] w fun e w' => e = .returned (.tuple #[.int .u64 (U hi), .bool true]) ∧ w = w')) (C3 : Hid (∀ w, Calls Try.prog 11 #[.int .i64 23, .bool false, .int .u64 (U a), .int .u64 (U (b + 1#64))] w fun e w' => e = .returned (.tuple #[.int .u64 (U low), .bool true]) ∧ w = w')) (C4 : Hid (∀ w, Calls Try.prog 11 #[.int .i64 26, .bool false, .int .u64 (U a), .int .u64 (U (b + 1#64))] w fun e w' => e = .returned (.tuple #[.int .u64 (U hig), .bool true]) ∧ w = w')) (C5 : Hid (∀ w, Calls Try.prog 11 #[.int .i64 25, .bool false, .int .u64 (U a), .int .u64 (U b)] w fun e w' => e = .returned (.tuple #[.int .u64 (U s), .bool true]) ∧ w = w')) (C6 : Hid (∀ w, Calls Try.prog 11 #[.int .i64 24, .bool false, .int .u64 (U a), .int .u64 (U b)] w fun e w' => e = .returned (.tuple #[.int .u64 (U t), .bool true]) ∧ w = w'))
    (tc : U (lo + a) < U lo) (ta : (U (a >>> 63) == 1) = true) (tb : (U (b >>> 63) == 1) = true) (ts : (U s == U (hi - b)) = true) (tt : (U t == U (hi - b - a)) = true) (tm : (U b != 18446744073709551615) = true) (tl : (U low != U (lo + a)) = false) (th : (U hig != U (hi + 1#64)) = false) (tz : (U b == 0) = true) (tlo : (U lo != 0) = false) (thi : (U hi != 0) = false) (w : World) :
    Calls Try.prog 9 #[.int .u64 (U a), .int .u64 (U b)] w fun e w' => e = .returned (.bool true) ∧ w = w' := by
  go_enter Try.func9, Try.ntmps9
  go_wp2_with fail
  refine (C1.out _).mono ?_; rintro e w' ⟨rfl, rfl⟩
  go_wp2_with fail
  refine (C2.out _).mono ?_; rintro e w' ⟨rfl, rfl⟩
  go_wp2_with fail
  refine (C3.out _).mono ?_; rintro e w' ⟨rfl, rfl⟩
  go_wp2_with fail
  refine (C4.out _).mono ?_; rintro e w' ⟨rfl, rfl⟩
  go_wp2_with fail
  refine (C5.out _).mono ?_; rintro e w' ⟨rfl, rfl⟩
  go_wp2_with fail
  refine (C6.out _).mono ?_; rintro e w' ⟨rfl, rfl⟩
  go_wp2_with (go_at_call 13; refine (fixed_any _).mono ?_; rintro e w' ⟨rfl, rfl⟩)
  go_ret
  exact ⟨rfl, rfl⟩

set_option maxHeartbeats 1000000 in
theorem uppers_111rest (a b lo hi low hig s t : BitVec 64) (C1 : Hid (∀ w, Calls Try.prog 11 #[.int .i64 23, .bool false, .int .u64 (U a), .int .u64 (U b)] w fun e w' => e = .returned (.tuple #[.int .u64 (U lo), .bool true]) ∧ w = w')) (C2 : Hid (∀ w, Calls Try.prog 11 #[.int .i64 26, .bool false, .int .u64 (U a), .int .u64 (U b)] w fun e w' => e = .returned (.tuple #[.int .u64 (U hi), .bool true]) ∧ w = w')) (C3 : Hid (∀ w, Calls Try.prog 11 #[.int .i64 23, .bool false, .int .u64 (U a), .int .u64 (U (b + 1#64))] w fun e w' => e = .returned (.tuple #[.int .u64 (U low), .bool true]) ∧ w = w')) (C4 : Hid (∀ w, Calls Try.prog 11 #[.int .i64 26, .bool false, .int .u64 (U a), .int .u64 (U (b + 1#64))] w fun e w' => e = .returned (.tuple #[.int .u64 (U hig), .bool true]) ∧ w = w')) (C5 : Hid (∀ w, Calls Try.prog 11 #[.int .i64 25, .bool false, .int .u64 (U a), .int .u64 (U b)] w fun e w' => e = .returned (.tuple #[.int .u64 (U s), .bool true]) ∧ w = w')) (C6 : Hid (∀ w, Calls Try.prog 11 #[.int .i64 24, .bool false, .int .u64 (U a), .int .u64 (U b)] w fun e w' => e = .returned (.tuple #[.int .u64 (U t), .bool true]) ∧ w = w'))
    (tc : U (lo + a) < U lo) (ta : (U (a >>> 63) == 1) = true) (tb : (U (b >>> 63) == 1) = true) (ts : (U s == U (hi - b)) = true) (tt : (U t == U (hi - b - a)) = true) (tm : (U b != 18446744073709551615) = true) (tl : (U low != U (lo + a)) = false) (th : (U hig != U (hi + 1#64)) = false) (tz : (U b == 0) = false) (w : World) :
    Calls Try.prog 9 #[.int .u64 (U a), .int .u64 (U b)] w fun e w' => e = .returned (.bool true) ∧ w = w' := by
  go_enter Try.func9, Try.ntmps9
  go_wp2_with fail
  refine (C1.out _).mono ?_; rintro e w' ⟨rfl, rfl⟩
  go_wp2_with fail
  refine (C2.out _).mono ?_; rintro e w' ⟨rfl, rfl⟩
  go_wp2_with fail
  refine (C3.out _).mono ?_; rintro e w' ⟨rfl, rfl⟩
  go_wp2_with fail
  refine (C4.out _).mono ?_; rintro e w' ⟨rfl, rfl⟩
  go_wp2_with fail
  refine (C5.out _).mono ?_; rintro e w' ⟨rfl, rfl⟩
  go_wp2_with fail
  refine (C6.out _).mono ?_; rintro e w' ⟨rfl, rfl⟩
  go_wp2_with (go_at_call 13; refine (fixed_any _).mono ?_; rintro e w' ⟨rfl, rfl⟩)
  go_ret
  exact ⟨rfl, rfl⟩


theorem uppers_any (a b : BitVec 64) (w : World) : Calls Try.prog 9 #[.int .u64 (U a), .int .u64 (U b)] w fun e w' => e = .returned (.bool true) ∧ w = w' := by
  obtain ⟨lo, hlo⟩ : ∃ x, x = a * b := ⟨_, rfl⟩
  obtain ⟨hi, hhi⟩ : ∃ x, x = mulHi a b := ⟨_, rfl⟩
  obtain ⟨low, hlow⟩ : ∃ x, x = a * (b + 1#64) := ⟨_, rfl⟩
  obtain ⟨hig, hhigh⟩ : ∃ x, x = mulHi a (b + 1#64) := ⟨_, rfl⟩
  obtain ⟨s, hs⟩ : ∃ x, x = mulHi a b - some_ a.msb b := ⟨_, rfl⟩
  obtain ⟨t, ht⟩ : ∃ x, x = mulHi a b - some_ b.msb a - some_ a.msb b := ⟨_, rfl⟩
  have C1 : Hid (∀ w, Calls Try.prog 11 #[.int .i64 23, .bool false, .int .u64 (U a), .int .u64 (U b)] w fun e w' => e = .returned (.tuple #[.int .u64 (U lo), .bool true]) ∧ w = w') := hide (doD_lit (by simp [doD, doW, hlo]))
  have C2 : Hid (∀ w, Calls Try.prog 11 #[.int .i64 26, .bool false, .int .u64 (U a), .int .u64 (U b)] w fun e w' => e = .returned (.tuple #[.int .u64 (U hi), .bool true]) ∧ w = w') := hide (doD_lit (by simp [doD, hhi]))
  have C3 : Hid (∀ w, Calls Try.prog 11 #[.int .i64 23, .bool false, .int .u64 (U a), .int .u64 (U (b + 1#64))] w fun e w' => e = .returned (.tuple #[.int .u64 (U low), .bool true]) ∧ w = w') := hide (doD_lit (by simp [doD, doW, hlow]))
  have C4 : Hid (∀ w, Calls Try.prog 11 #[.int .i64 26, .bool false, .int .u64 (U a), .int .u64 (U (b + 1#64))] w fun e w' => e = .returned (.tuple #[.int .u64 (U hig), .bool true]) ∧ w = w') := hide (doD_lit (by simp [doD, hhigh]))
  have C5 : Hid (∀ w, Calls Try.prog 11 #[.int .i64 25, .bool false, .int .u64 (U a), .int .u64 (U b)] w fun e w' => e = .returned (.tuple #[.int .u64 (U s), .bool true]) ∧ w = w') := hide (doD_lit (by simp [doD, hs]))
  have C6 : Hid (∀ w, Calls Try.prog 11 #[.int .i64 24, .bool false, .int .u64 (U a), .int .u64 (U b)] w fun e w' => e = .returned (.tuple #[.int .u64 (U t), .bool true]) ∧ w = w') := hide (doD_lit (by simp [doD, ht]))
  have h1 : low = lo + a := by rw [hlow, hlo]; exact mul_succ a b
  have h2 : b ≠ 18446744073709551615#64 → hig = hi + (if lo + a < lo then 1#64 else 0#64) := fun h => by rw [hhigh, hhi, hlo]; exact mulHi_succ a b h
  have h3 : s = hi - some_ a.msb b := by rw [hs, hhi]
  have h4 : t = hi - some_ a.msb b - some_ b.msb a := by rw [ht, hhi, BitVec.sub_sub, BitVec.sub_sub, BitVec.add_comm (some_ b.msb a)]
  have h5 : b = 0#64 → lo = 0#64 ∧ hi = 0#64 := fun h => by rw [hlo, hhi, h]; exact ⟨by simp, mulHi_zero a⟩
  clear hlo hhi hlow hhigh hs ht
  have ea := shr63 a
  have eb := shr63 b
  have ta : (U (a >>> 63) == 1) = a.msb := by rw [ea]; cases a.msb <;> decide +kernel
  have tb : (U (b >>> 63) == 1) = b.msb := by rw [eb]; cases b.msb <;> decide +kernel
  clear ea eb
  have tz : (U b == 0) = (b == 0#64) := U_beq b 0#64
  have tm : (U b != 18446744073709551615) = (b != 18446744073709551615#64) := U_bne b 18446744073709551615#64
  have tl : (U low != U (lo + a)) = false := by rw [h1]; simp
  have same : ∀ x y : BitVec 64, x = y → (U x == U y) = true := fun x y h => by rw [h]; simp
  have nsame : ∀ x y : BitVec 64, x = y → (U x != U y) = false := fun x y h => by rw [h]; simp
  rcases ha : a.msb with _ | _ <;> rcases hb : b.msb with _ | _ <;> rw [ha] at ta h3 h4 <;> rw [hb] at tb h4 <;> simp only [some_, if_true, if_false, Bool.false_eq_true, BitVec.sub_zero] at h3 h4 <;> by_cases hc : lo + a < lo

  · by_cases hm : b = 18446744073709551615#64
    · exact uppers_100max a b lo hi low hig s t C1 C2 C3 C4 C5 C6 (U_lt.2 hc) ta tb (same _ _ h3) (same _ _ h4) (by rw [tm, hm]; decide) (by rw [tz, hm]; decide) w
    · have g2 := h2 hm
      rw [if_pos hc] at g2
      have tm2 : (U b != 18446744073709551615) = true := by rw [tm]; simpa using hm
      by_cases hz : b = 0#64
      · exact uppers_100zero a b lo hi low hig s t C1 C2 C3 C4 C5 C6 (U_lt.2 hc) ta tb (same _ _ h3) (same _ _ h4) tm2 tl (nsame _ _ g2) (by rw [tz, hz]; decide) (nsame lo 0#64 (h5 hz).1) (nsame hi 0#64 (h5 hz).2) w
      · exact uppers_100rest a b lo hi low hig s t C1 C2 C3 C4 C5 C6 (U_lt.2 hc) ta tb (same _ _ h3) (same _ _ h4) tm2 tl (nsame _ _ g2) (by rw [tz]; simpa using hz) w
  · by_cases hm : b = 18446744073709551615#64
    · exact uppers_000max a b lo hi low hig s t C1 C2 C3 C4 C5 C6 (Int.not_lt.1 (mt U_lt.1 hc)) ta tb (same _ _ h3) (same _ _ h4) (by rw [tm, hm]; decide) (by rw [tz, hm]; decide) w
    · have g2 := h2 hm
      rw [if_neg hc, BitVec.add_zero] at g2
      have tm2 : (U b != 18446744073709551615) = true := by rw [tm]; simpa using hm
      by_cases hz : b = 0#64
      · exact uppers_000zero a b lo hi low hig s t C1 C2 C3 C4 C5 C6 (Int.not_lt.1 (mt U_lt.1 hc)) ta tb (same _ _ h3) (same _ _ h4) tm2 tl (nsame _ _ g2) (by rw [tz, hz]; decide) (nsame lo 0#64 (h5 hz).1) (nsame hi 0#64 (h5 hz).2) w
      · exact uppers_000rest a b lo hi low hig s t C1 C2 C3 C4 C5 C6 (Int.not_lt.1 (mt U_lt.1 hc)) ta tb (same _ _ h3) (same _ _ h4) tm2 tl (nsame _ _ g2) (by rw [tz]; simpa using hz) w
  · by_cases hm : b = 18446744073709551615#64
    · exact uppers_101max a b lo hi low hig s t C1 C2 C3 C4 C5 C6 (U_lt.2 hc) ta tb (same _ _ h3) (same _ _ h4) (by rw [tm, hm]; decide) (by rw [tz, hm]; decide) w
    · have g2 := h2 hm
      rw [if_pos hc] at g2
      have tm2 : (U b != 18446744073709551615) = true := by rw [tm]; simpa using hm
      by_cases hz : b = 0#64
      · exact uppers_101zero a b lo hi low hig s t C1 C2 C3 C4 C5 C6 (U_lt.2 hc) ta tb (same _ _ h3) (same _ _ h4) tm2 tl (nsame _ _ g2) (by rw [tz, hz]; decide) (nsame lo 0#64 (h5 hz).1) (nsame hi 0#64 (h5 hz).2) w
      · exact uppers_101rest a b lo hi low hig s t C1 C2 C3 C4 C5 C6 (U_lt.2 hc) ta tb (same _ _ h3) (same _ _ h4) tm2 tl (nsame _ _ g2) (by rw [tz]; simpa using hz) w
  · by_cases hm : b = 18446744073709551615#64
    · exact uppers_001max a b lo hi low hig s t C1 C2 C3 C4 C5 C6 (Int.not_lt.1 (mt U_lt.1 hc)) ta tb (same _ _ h3) (same _ _ h4) (by rw [tm, hm]; decide) (by rw [tz, hm]; decide) w
    · have g2 := h2 hm
      rw [if_neg hc, BitVec.add_zero] at g2
      have tm2 : (U b != 18446744073709551615) = true := by rw [tm]; simpa using hm
      by_cases hz : b = 0#64
      · exact uppers_001zero a b lo hi low hig s t C1 C2 C3 C4 C5 C6 (Int.not_lt.1 (mt U_lt.1 hc)) ta tb (same _ _ h3) (same _ _ h4) tm2 tl (nsame _ _ g2) (by rw [tz, hz]; decide) (nsame lo 0#64 (h5 hz).1) (nsame hi 0#64 (h5 hz).2) w
      · exact uppers_001rest a b lo hi low hig s t C1 C2 C3 C4 C5 C6 (Int.not_lt.1 (mt U_lt.1 hc)) ta tb (same _ _ h3) (same _ _ h4) tm2 tl (nsame _ _ g2) (by rw [tz]; simpa using hz) w
  · by_cases hm : b = 18446744073709551615#64
    · exact uppers_110max a b lo hi low hig s t C1 C2 C3 C4 C5 C6 (U_lt.2 hc) ta tb (same _ _ h3) (same _ _ h4) (by rw [tm, hm]; decide) (by rw [tz, hm]; decide) w
    · have g2 := h2 hm
      rw [if_pos hc] at g2
      have tm2 : (U b != 18446744073709551615) = true := by rw [tm]; simpa using hm
      by_cases hz : b = 0#64
      · exact uppers_110zero a b lo hi low hig s t C1 C2 C3 C4 C5 C6 (U_lt.2 hc) ta tb (same _ _ h3) (same _ _ h4) tm2 tl (nsame _ _ g2) (by rw [tz, hz]; decide) (nsame lo 0#64 (h5 hz).1) (nsame hi 0#64 (h5 hz).2) w
      · exact uppers_110rest a b lo hi low hig s t C1 C2 C3 C4 C5 C6 (U_lt.2 hc) ta tb (same _ _ h3) (same _ _ h4) tm2 tl (nsame _ _ g2) (by rw [tz]; simpa using hz) w
  · by_cases hm : b = 18446744073709551615#64
    · exact uppers_010max a b lo hi low hig s t C1 C2 C3 C4 C5 C6 (Int.not_lt.1 (mt U_lt.1 hc)) ta tb (same _ _ h3) (same _ _ h4) (by rw [tm, hm]; decide) (by rw [tz, hm]; decide) w
    · have g2 := h2 hm
      rw [if_neg hc, BitVec.add_zero] at g2
      have tm2 : (U b != 18446744073709551615) = true := by rw [tm]; simpa using hm
      by_cases hz : b = 0#64
      · exact uppers_010zero a b lo hi low hig s t C1 C2 C3 C4 C5 C6 (Int.not_lt.1 (mt U_lt.1 hc)) ta tb (same _ _ h3) (same _ _ h4) tm2 tl (nsame _ _ g2) (by rw [tz, hz]; decide) (nsame lo 0#64 (h5 hz).1) (nsame hi 0#64 (h5 hz).2) w
      · exact uppers_010rest a b lo hi low hig s t C1 C2 C3 C4 C5 C6 (Int.not_lt.1 (mt U_lt.1 hc)) ta tb (same _ _ h3) (same _ _ h4) tm2 tl (nsame _ _ g2) (by rw [tz]; simpa using hz) w
  · by_cases hm : b = 18446744073709551615#64
    · exact uppers_111max a b lo hi low hig s t C1 C2 C3 C4 C5 C6 (U_lt.2 hc) ta tb (same _ _ h3) (same _ _ h4) (by rw [tm, hm]; decide) (by rw [tz, hm]; decide) w
    · have g2 := h2 hm
      rw [if_pos hc] at g2
      have tm2 : (U b != 18446744073709551615) = true := by rw [tm]; simpa using hm
      by_cases hz : b = 0#64
      · exact uppers_111zero a b lo hi low hig s t C1 C2 C3 C4 C5 C6 (U_lt.2 hc) ta tb (same _ _ h3) (same _ _ h4) tm2 tl (nsame _ _ g2) (by rw [tz, hz]; decide) (nsame lo 0#64 (h5 hz).1) (nsame hi 0#64 (h5 hz).2) w
      · exact uppers_111rest a b lo hi low hig s t C1 C2 C3 C4 C5 C6 (U_lt.2 hc) ta tb (same _ _ h3) (same _ _ h4) tm2 tl (nsame _ _ g2) (by rw [tz]; simpa using hz) w
  · by_cases hm : b = 18446744073709551615#64
    · exact uppers_011max a b lo hi low hig s t C1 C2 C3 C4 C5 C6 (Int.not_lt.1 (mt U_lt.1 hc)) ta tb (same _ _ h3) (same _ _ h4) (by rw [tm, hm]; decide) (by rw [tz, hm]; decide) w
    · have g2 := h2 hm
      rw [if_neg hc, BitVec.add_zero] at g2
      have tm2 : (U b != 18446744073709551615) = true := by rw [tm]; simpa using hm
      by_cases hz : b = 0#64
      · exact uppers_011zero a b lo hi low hig s t C1 C2 C3 C4 C5 C6 (Int.not_lt.1 (mt U_lt.1 hc)) ta tb (same _ _ h3) (same _ _ h4) tm2 tl (nsame _ _ g2) (by rw [tz, hz]; decide) (nsame lo 0#64 (h5 hz).1) (nsame hi 0#64 (h5 hz).2) w
      · exact uppers_011rest a b lo hi low hig s t C1 C2 C3 C4 C5 C6 (Int.not_lt.1 (mt U_lt.1 hc)) ta tb (same _ _ h3) (same _ _ h4) tm2 tl (nsame _ _ g2) (by rw [tz]; simpa using hz) w
end Go.Proofs.Ytkmdahokomnjcaa