/-
  The walks of AluDivides, AluWords, AluUppers, AluTurns.
-/
import Derived.Test.YtkmdahokomnjcaaAluL
import Derived.Test.YtkmdahokomnjcaaAluPlain
namespace Go.Proofs.Ytkmdahokomnjcaa
open Go.RowKit

set_option maxHeartbeats 400000 in
theorem distance_any (a : BitVec 64) (w : World) : Calls Try.prog 20 #[.int .u64 (U a)] w fun e w' => e = .returned (.int .u64 (U (dist a))) ∧ w = w' := by
  have e := shr63 a
  rcases h : a.msb with _ | _
  · have t : (U (a >>> 63) == 1) = false := by rw [e, h]; decide +kernel
    have H := hide h
    clear e h
    go_enter Try.func20, Try.ntmps20
    go_wp2
    go_ret
    exact ⟨ret1 (int_eq (congrArg U (by unfold dist; rw [H]; rfl))), rfl⟩
  · have t : (U (a >>> 63) == 1) = true := by rw [e, h]; decide +kernel
    have H := hide h
    clear e h
    go_enter Try.func20, Try.ntmps20
    go_wp2
    go_ret
    exact ⟨ret1 (int_eq (congrArg U (by unfold dist; rw [H]; rfl))), rfl⟩

set_option maxHeartbeats 1000000 in
theorem divides_zero (a b : BitVec 64) (hb : b = 0#64) (w : World) : Calls Try.prog 7 #[.int .u64 (U a), .int .u64 (U b)] w fun e w' => e = .returned (.bool true) ∧ w = w' := by
  have c1 : ∀ w, Calls Try.prog 11 #[.int .i64 27, .bool false, .int .u64 (U a), .int .u64 (U b)] w fun e w' => e = .returned (.tuple #[.int .u64 18446744073709551615, .bool true]) ∧ w = w' := doD_lit (c := 18446744073709551615#64) (by subst hb; simp [doD, doW])
  have c2 : ∀ w, Calls Try.prog 11 #[.int .i64 29, .bool false, .int .u64 (U a), .int .u64 (U b)] w fun e w' => e = .returned (.tuple #[.int .u64 (U a), .bool true]) ∧ w = w' := doD_lit (c := a) (by subst hb; simp [doD, doW])
  have c3 : ∀ w, Calls Try.prog 11 #[.int .i64 28, .bool false, .int .u64 (U a), .int .u64 (U b)] w fun e w' => e = .returned (.tuple #[.int .u64 18446744073709551615, .bool true]) ∧ w = w' := doD_lit (c := 18446744073709551615#64) (by subst hb; simp [doD, doW])
  have c4 : ∀ w, Calls Try.prog 11 #[.int .i64 30, .bool false, .int .u64 (U a), .int .u64 (U b)] w fun e w' => e = .returned (.tuple #[.int .u64 (U a), .bool true]) ∧ w = w' := doD_lit (c := a) (by subst hb; simp [doD, doW])
  have C1 := hide c1; have C2 := hide c2; have C3 := hide c3; have C4 := hide c4
  have t : (U b == 0) = true := by subst hb; decide +kernel
  clear c1 c2 c3 c4 hb
  go_enter Try.func7, Try.ntmps7
  go_wp2_with fail
  refine (C1.out _).mono ?_; rintro e w' ⟨rfl, rfl⟩
  go_wp2_with fail
  refine (C2.out _).mono ?_; rintro e w' ⟨rfl, rfl⟩
  go_wp2_with fail
  refine (C3.out _).mono ?_; rintro e w' ⟨rfl, rfl⟩
  go_wp2_with fail
  refine (C4.out _).mono ?_; rintro e w' ⟨rfl, rfl⟩
  go_wp2_with fail
  refine (fixed_any _).mono ?_; rintro e w' ⟨rfl, rfl⟩
  go_wp2_with fail
  go_ret
  exact ⟨rfl, rfl⟩

set_option maxHeartbeats 1000000 in
theorem divides_rest (a b q r u s : BitVec 64) (hb : b ≠ 0#64) (hq : q = a.sdiv b) (hr : r = a.srem b) (hu : u = a / b) (hs : s = a % b) (w : World) :
    Calls Try.prog 7 #[.int .u64 (U a), .int .u64 (U b)] w fun e w' => e = .returned (.bool true) ∧ w = w' := by
  have c1 : ∀ w, Calls Try.prog 11 #[.int .i64 27, .bool false, .int .u64 (U a), .int .u64 (U b)] w fun e w' => e = .returned (.tuple #[.int .u64 (U q), .bool true]) ∧ w = w' := doD_lit (by simp [doD, doW, hb, hq])
  have c2 : ∀ w, Calls Try.prog 11 #[.int .i64 29, .bool false, .int .u64 (U a), .int .u64 (U b)] w fun e w' => e = .returned (.tuple #[.int .u64 (U r), .bool true]) ∧ w = w' := doD_lit (by simp [doD, doW, hr])
  have c3 : ∀ w, Calls Try.prog 11 #[.int .i64 28, .bool false, .int .u64 (U a), .int .u64 (U b)] w fun e w' => e = .returned (.tuple #[.int .u64 (U u), .bool true]) ∧ w = w' := doD_lit (by simp [doD, doW, hb, hu])
  have c4 : ∀ w, Calls Try.prog 11 #[.int .i64 30, .bool false, .int .u64 (U a), .int .u64 (U b)] w fun e w' => e = .returned (.tuple #[.int .u64 (U s), .bool true]) ∧ w = w' := doD_lit (by simp [doD, doW, hs])
  have f1 : q * b + r = a := by rw [hq, hr]; exact div_back a b
  have f2 : u * b + s = a := by rw [hu, hs]; exact divu_back a b
  have f3 : U s < U b := by rw [hs]; exact remu_lt a b hb
  have f4 : U u ≤ U a := by rw [hu]; exact divu_le a b
  have f5 : U (dist r) < U (dist b) := by rw [hr]; exact dist_lt a b hb
  have f6 : r = 0#64 ∨ r >>> 63 = a >>> 63 := by rw [hr]; exact rem_sign a b
  have t : (U b == 0) = false := by rw [beq_eq_false_iff_ne]; exact fun e => hb (U_zero.1 e)
  have C1 := hide c1; have C2 := hide c2; have C3 := hide c3; have C4 := hide c4
  clear c1 c2 c3 c4 hb hq hr hu hs
  by_cases hr0 : r = 0#64
  · have t2 : (U r == 0) = true := by rw [hr0]; decide +kernel
    clear hr0 f6
    go_enter Try.func7, Try.ntmps7
    go_wp2_with fail
    refine (C1.out _).mono ?_; rintro e w' ⟨rfl, rfl⟩
    go_wp2_with fail
    refine (C2.out _).mono ?_; rintro e w' ⟨rfl, rfl⟩
    go_wp2_with fail
    refine (C3.out _).mono ?_; rintro e w' ⟨rfl, rfl⟩
    go_wp2_with fail
    refine (C4.out _).mono ?_; rintro e w' ⟨rfl, rfl⟩
    go_wp2_with (first | (go_at_call 13; refine (fixed_any _).mono ?_; rintro e w' ⟨rfl, rfl⟩) | (go_at_call 20; refine (distance_any _ _).mono ?_; rintro e w' ⟨rfl, rfl⟩))
    go_ret
    exact ⟨rfl, rfl⟩
  · have t2 : (U r == 0) = false := by rw [beq_eq_false_iff_ne]; exact fun e => hr0 (U_zero.1 e)
    have f7 : r >>> 63 = a >>> 63 := f6.resolve_left hr0
    clear hr0 f6
    go_enter Try.func7, Try.ntmps7
    go_wp2_with fail
    refine (C1.out _).mono ?_; rintro e w' ⟨rfl, rfl⟩
    go_wp2_with fail
    refine (C2.out _).mono ?_; rintro e w' ⟨rfl, rfl⟩
    go_wp2_with fail
    refine (C3.out _).mono ?_; rintro e w' ⟨rfl, rfl⟩
    go_wp2_with fail
    refine (C4.out _).mono ?_; rintro e w' ⟨rfl, rfl⟩
    go_wp2_with (first | (go_at_call 13; refine (fixed_any _).mono ?_; rintro e w' ⟨rfl, rfl⟩) | (go_at_call 20; refine (distance_any _ _).mono ?_; rintro e w' ⟨rfl, rfl⟩))
    go_ret
    exact ⟨rfl, rfl⟩

theorem divides_any (a b : BitVec 64) (w : World) : Calls Try.prog 7 #[.int .u64 (U a), .int .u64 (U b)] w fun e w' => e = .returned (.bool true) ∧ w = w' := by
  by_cases hb : b = 0#64
  · exact divides_zero a b hb w
  · exact divides_rest a b _ _ _ _ hb rfl rfl rfl rfl w

set_option maxHeartbeats 1000000 in
theorem words_any (k : Int) (a b h : BitVec 64) (w : World) : Calls Try.prog 8 #[.int .i64 k, .int .u64 (U a), .int .u64 (U b), .int .u64 (U h)] w fun e w' => e = .returned (.bool true) ∧ w = w' := by
  obtain ⟨⟨x, ok⟩, hx⟩ : ∃ r, r = doD k true a b := ⟨_, rfl⟩
  have c1 : ∀ w, Calls Try.prog 11 #[.int .i64 k, .bool true, .int .u64 (U a), .int .u64 (U b)] w fun e w' => e = .returned (.tuple #[.int .u64 (U x), .bool ok]) ∧ w = w' := doD_lit hx.symm
  have c2 : ∀ w, Calls Try.prog 11 #[.int .i64 k, .bool true, .int .u64 (U (a ^^^ h <<< 32)), .int .u64 (U (b ^^^ h >>> 32 <<< 32))] w fun e w' => e = .returned (.tuple #[.int .u64 (U x), .bool ok]) ∧ w = w' :=
    doD_lit (by rw [hx]; simp only [doD, if_true, xor_high])
  have c3 : ∀ w, Calls Try.prog 18 #[.int .u64 (U x), .int .i64 4, .bool false] w fun e w' => e = .returned (.tuple #[.int .u64 (U x), .bool true]) ∧ w = w' := extD_lit (by
    have e : x = (doW k (a.setWidth 32) (b.setWidth 32)).1.signExtend 64 := by have := congrArg Prod.fst hx; simpa [doD] using this
    rw [e]
    simp [extD, set_sext])
  have C1 := hide c1; have C2 := hide c2; have C3 := hide c3
  clear c1 c2 c3 hx
  go_enter Try.func8, Try.ntmps8
  go_wp2_with fail
  refine (C1.out _).mono ?_; rintro e w' ⟨rfl, rfl⟩
  go_wp2_with fail
  refine (C2.out _).mono ?_; rintro e w' ⟨rfl, rfl⟩
  go_wp2_with fail
  refine (C3.out _).mono ?_; rintro e w' ⟨rfl, rfl⟩
  go_wp2_with (go_at_call 13; refine (fixed_any _).mono ?_; rintro e w' ⟨rfl, rfl⟩)
  go_ret
  exact ⟨rfl, rfl⟩
end Go.Proofs.Ytkmdahokomnjcaa
