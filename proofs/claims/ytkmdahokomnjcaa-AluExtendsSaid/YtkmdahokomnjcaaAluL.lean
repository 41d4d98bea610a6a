/-
  The walks of tandemlaw05.fixed and distance, and of the four laws that know nothing of the document's answer; with the plain laws under them.
-/
import Derived.Test.YtkmdahokomnjcaaAluC
import Derived.RowKit3
namespace Go.Proofs.Ytkmdahokomnjcaa
open Go.RowKit

theorem doD_lit {k : Int} {word : Bool} {a b c : BitVec 64} {ok : Bool} (h : doD k word a b = (c, ok)) (w : World) :
    Calls Try.prog 11 #[.int .i64 k, .bool word, .int .u64 (U a), .int .u64 (U b)] w fun e w' => e = .returned (.tuple #[.int .u64 (U c), .bool ok]) ∧ w = w' := by
  have g := Do_any k word a b w
  rw [h] at g
  exact g
theorem brD_lit {k : Int} {a b : BitVec 64} {c ok : Bool} (h : brD k a b = (c, ok)) (w : World) :
    Calls Try.prog 14 #[.int .i64 k, .int .u64 (U a), .int .u64 (U b)] w fun e w' => e = .returned (.tuple #[.bool c, .bool ok]) ∧ w = w' := by
  have g := Branch_any k a b w
  rw [h] at g
  exact g
theorem atD_lit {k size : Int} {a b c : BitVec 64} {ok : Bool} (h : atD k size a b = (c, ok)) (w : World) :
    Calls Try.prog 16 #[.int .i64 k, .int .i64 size, .int .u64 (U a), .int .u64 (U b)] w fun e w' => e = .returned (.tuple #[.int .u64 (U c), .bool ok]) ∧ w = w' := by
  have g := Atomic_any k size a b w
  rw [h] at g
  exact g
theorem extD_lit {a c : BitVec 64} {size : Int} {un ok : Bool} (h : extD a size un = (c, ok)) (w : World) :
    Calls Try.prog 18 #[.int .u64 (U a), .int .i64 size, .bool un] w fun e w' => e = .returned (.tuple #[.int .u64 (U c), .bool ok]) ∧ w = w' := by
  have g := Extend_any a size un w
  rw [h] at g
  exact g

theorem fx1 (w : World) : Calls Try.prog 11 #[.int .i64 13, .bool true, .int .u64 2147483647, .int .u64 1] w fun e w' => e = .returned (.tuple #[.int .u64 18446744071562067968, .bool true]) ∧ w = w' :=
  doD_lit (a := 2147483647#64) (b := 1#64) (c := 18446744071562067968#64) (by decide +kernel) w
theorem fx2 (w : World) : Calls Try.prog 11 #[.int .i64 25, .bool false, .int .u64 18446744073709551615, .int .u64 18446744073709551615] w fun e w' => e = .returned (.tuple #[.int .u64 18446744073709551615, .bool true]) ∧ w = w' :=
  doD_lit (a := 18446744073709551615#64) (b := 18446744073709551615#64) (c := 18446744073709551615#64) (by decide +kernel) w
theorem fx3 (w : World) : Calls Try.prog 14 #[.int .i64 7, .int .u64 18446744073709551615, .int .u64 0] w fun e w' => e = .returned (.tuple #[.bool true, .bool true]) ∧ w = w' :=
  brD_lit (a := 18446744073709551615#64) (b := 0#64) (by decide +kernel) w
theorem fx4 (w : World) : Calls Try.prog 16 #[.int .i64 45, .int .i64 4, .int .u64 4294967295, .int .u64 1] w fun e w' => e = .returned (.tuple #[.int .u64 4294967295, .bool true]) ∧ w = w' :=
  atD_lit (a := 4294967295#64) (b := 1#64) (c := 4294967295#64) (by decide +kernel) w
theorem fx5 (w : World) : Calls Try.prog 18 #[.int .u64 511, .int .i64 1, .bool false] w fun e w' => e = .returned (.tuple #[.int .u64 18446744073709551615, .bool true]) ∧ w = w' :=
  extD_lit (a := 511#64) (c := 18446744073709551615#64) (by decide +kernel) w
theorem fx6 (w : World) : Calls Try.prog 11 #[.int .i64 16, .bool true, .int .u64 1, .int .u64 2] w fun e w' => e = .returned (.tuple #[.int .u64 0, .bool false]) ∧ w = w' :=
  doD_lit (a := 1#64) (b := 2#64) (c := 0#64) (by decide +kernel) w

set_option maxHeartbeats 400000 in
theorem fixed_any (w : World) : Calls Try.prog 13 #[] w fun e w' => e = .returned (.bool true) ∧ w = w' := by
  go_enter Try.func13, Try.ntmps13
  go_wp2_with fail
  refine (fx1 _).mono ?_; rintro e w' ⟨rfl, rfl⟩
  go_wp2_with fail
  refine (fx2 _).mono ?_; rintro e w' ⟨rfl, rfl⟩
  go_wp2_with fail
  refine (fx3 _).mono ?_; rintro e w' ⟨rfl, rfl⟩
  go_wp2_with fail
  refine (fx4 _).mono ?_; rintro e w' ⟨rfl, rfl⟩
  go_wp2_with fail
  refine (fx5 _).mono ?_; rintro e w' ⟨rfl, rfl⟩
  go_wp2_with fail
  refine (fx6 _).mono ?_; rintro e w' ⟨rfl, rfl⟩
  go_wp2_with fail
  go_ret
  exact ⟨rfl, rfl⟩
end Go.Proofs.Ytkmdahokomnjcaa
