/-
  The walks of the document's answer (tandemref05): minus, Wide, below, product, divide, shift, signed.
-/
import Derived.Test.YtkmdahokomnjcaaAluR
import Derived.Test.YtkmdahokomnjcaaAluRPlain
namespace Go.Proofs.Ytkmdahokomnjcaa
open Go.RowKit

set_option maxHeartbeats 400000 in
theorem minus_any {k : Nat} (x : BitVec k) (hk : k ≤ 64) (n : Int) (hn : n = k) (w : World) :
    Calls Try.prog 35 #[.int .u64 (U (Z x)), .int .i64 n] w fun e w' => e = .returned (.int .u64 (U (Z (-x)))) ∧ w = w' := by
  have H := hide (Z_not_succ hk x)
  subst hn
  go_enter Try.func35, Try.ntmps35
  go_wp2_with (go_at_call 26; refine (low_any _ k hk _ rfl _).mono ?_; rintro e w' ⟨rfl, rfl⟩)
  go_ret
  exact ⟨rret1 (rint (congrArg U H.out)), rfl⟩

set_option maxHeartbeats 400000 in
theorem below_any {k : Nat} (x y : BitVec k) (hk0 : 0 < k) (hk : k ≤ 64) (n : Int) (hn : n = k) (w : World) :
    Calls Try.prog 29 #[.int .u64 (U (Z x)), .int .u64 (U (Z y)), .int .i64 n, .bool true] w fun e w' => e = .returned (.bool (x.slt y)) ∧ w = w' := by
  have H := hide (slt_cases x y)
  have G := hide (Z_lt hk x y)
  have HN := hide hn
  clear hn
  rcases hx : x.msb with _ | _ <;> rcases hy : y.msb with _ | _
  all_goals
    have HX := hide hx
    have HY := hide hy
    clear hx hy
    go_enter Try.func29, Try.ntmps29
    go_wp2_with fail
    refine (high_any x hk0 hk _ HN _).mono ?_; rintro e w' ⟨rfl, rfl⟩
    rw [HX.out]
    go_wp2_with fail
    refine (high_any y hk0 hk _ HN _).mono ?_; rintro e w' ⟨rfl, rfl⟩
    rw [HY.out]
    go_wp2_with fail
    go_ret
    refine ⟨rret1 (rbool ?_), rfl⟩
    rw [H.out, HX.out, HY.out]
    first | rfl | (simp only [if_true]; rw [Bool.eq_iff_iff]; simpa using G.out)

set_option maxHeartbeats 400000 in
theorem Wide_yes {k : Nat} (a : BitVec 64) (hk0 : 0 < k) (hk : k ≤ 64) (hm : (a.setWidth k).msb = true) (n : Int) (hn : n = k) (w : World) :
    Calls Try.prog 27 #[.int .u64 (U a), .int .i64 n] w fun e w' => e = .returned (.int .u64 (U ((a.setWidth k).signExtend 64))) ∧ w = w' := by
  have HM := hide hm
  clear hm
  subst hn
  go_enter Try.func27, Try.ntmps27
  go_wp2_with fail
  refine (low_any _ k hk _ rfl _).mono ?_; rintro e w' ⟨rfl, rfl⟩
  go_wp2_with fail
  refine (high_any _ hk0 hk _ rfl _).mono ?_; rintro e w' ⟨rfl, rfl⟩
  rw [HM.out]
  go_wp2
  go_loop [5, 7] (fun o i => ∃ j : Nat, k ≤ j ∧ j ≤ 64 ∧ i = .int .i64 j ∧ o = .int .u64 (U (wideAt (a.setWidth k) j))) (fun _ i => 64 - (intOf i).toNat)
  case atStart => exact ⟨k, Nat.le_refl _, hk, rfl, by rw [wide_start hk]⟩
  case round =>
    obtain ⟨j, hj0, hj, rfl, rfl⟩ := hrel
    have H := hide (wide_step (a.setWidth k) j hj0)
    by_cases hlt : j < 64
    · go_wp2
      go_round
      case rel => exact ⟨j + 1, by omega, by omega, by go_num, by rw [← H.out]⟩
      case measure => simp [intOf]; omega
    · have E := hide (show j = 64 by omega)
      go_wp2
      go_ret
      exact ⟨rret1 (rint (by rw [E.out, wide_end hk _ HM.out])), rfl⟩

set_option maxHeartbeats 400000 in
theorem Wide_no {k : Nat} (a : BitVec 64) (hk0 : 0 < k) (hk : k ≤ 64) (hm : (a.setWidth k).msb = false) (n : Int) (hn : n = k) (w : World) :
    Calls Try.prog 27 #[.int .u64 (U a), .int .i64 n] w fun e w' => e = .returned (.int .u64 (U ((a.setWidth k).signExtend 64))) ∧ w = w' := by
  have HM := hide hm
  clear hm
  subst hn
  go_enter Try.func27, Try.ntmps27
  go_wp2_with fail
  refine (low_any _ k hk _ rfl _).mono ?_; rintro e w' ⟨rfl, rfl⟩
  go_wp2_with fail
  refine (high_any _ hk0 hk _ rfl _).mono ?_; rintro e w' ⟨rfl, rfl⟩
  rw [HM.out]
  go_wp2
  go_loop [5, 7] (fun o i => i = .int .i64 k ∧ o = .int .u64 (U (Z (a.setWidth k)))) (fun _ i => 64 - (intOf i).toNat)
  case atStart => exact ⟨rfl, rfl⟩
  case round =>
    obtain ⟨rfl, rfl⟩ := hrel
    by_cases hlt : k < 64
    · go_wp2
      go_ret
      exact ⟨rret1 (rint (by rw [wide_none _ HM.out])), rfl⟩
    · go_wp2
      go_ret
      exact ⟨rret1 (rint (by rw [wide_none _ HM.out])), rfl⟩

theorem Wide_any (a : BitVec 64) (k : Nat) (hk0 : 0 < k) (hk : k ≤ 64) (n : Int) (hn : n = k) (w : World) :
    Calls Try.prog 27 #[.int .u64 (U a), .int .i64 n] w fun e w' => e = .returned (.int .u64 (U ((a.setWidth k).signExtend 64))) ∧ w = w' := by
  rcases hm : (a.setWidth k).msb with _ | _
  · exact Wide_no a hk0 hk hm n hn w
  · exact Wide_yes a hk0 hk hm n hn w

set_option maxHeartbeats 1000000 in
theorem product_any (a b : BitVec 64) (w : World) :
    Calls Try.prog 28 #[.int .u64 (U a), .int .u64 (U b)] w fun e w' => e = .returned (.tuple #[.int .u64 (U (mulHi a b)), .int .u64 (U (a * b))]) ∧ w = w' := by
  go_enter Try.func28, Try.ntmps28
  go_wp2
  go_loop [6, 7, 8] (fun hv lv iv => ∃ h l : BitVec 64, hv = .int .u64 (U h) ∧ lv = .int .u64 (U l) ∧ ((∃ j : Nat, j < 64 ∧ iv = .int .i64 j ∧ Hid (ProdAt a b (j + 1) h l)) ∨ (iv = .int .i64 (-1) ∧ Hid (ProdAt a b 0 h l)))) (fun _ _ iv => (intOf iv + 1).toNat)
  case atStart => exact ⟨0#64, 0#64, rfl, rfl, .inl ⟨63, by omega, rfl, prod_start a b⟩⟩
  case round =>
    obtain ⟨h, l, rfl, rfl, hrel⟩ := hrel
    rcases hrel with ⟨j, hj, rfl, hp⟩ | ⟨rfl, hp⟩
    · have st := prod_step a b h l j hp.out
      by_cases hb : b >>> j &&& 1#64 = 1#64
      · have tb : (U (b >>> j &&& 1#64) == 1) = true := by rw [hb]; decide +kernel
        by_cases hc : l <<< 1 + a < l <<< 1
        · have tc : U (l <<< 1 + a) < U (l <<< 1) := U_lt.2 hc
          have R := hide ((st.1 hb).1 hc)
          clear st hb hc hp
          go_wp2
          go_round
          case rel =>
            refine ⟨_, _, rfl, rfl, ?_⟩
            rcases j with _ | j
            · exact .inr ⟨by go_num, R⟩
            · exact .inl ⟨j, by omega, by go_num, R⟩
          case measure => simp [intOf]
        · have tc : ¬ U (l <<< 1 + a) < U (l <<< 1) := fun h => hc (U_lt.1 h)
          have R := hide ((st.1 hb).2 hc)
          clear st hb hc hp
          go_wp2
          go_round
          case rel =>
            refine ⟨_, _, rfl, rfl, ?_⟩
            rcases j with _ | j
            · exact .inr ⟨by go_num, R⟩
            · exact .inl ⟨j, by omega, by go_num, R⟩
          case measure => simp [intOf]
      · have tb : (U (b >>> j &&& 1#64) == 1) = false := by rw [beq_eq_false_iff_ne]; exact fun e => hb (U_inj.1 e)
        have R := hide (st.2 hb)
        clear st hb hp
        go_wp2
        go_round
        case rel =>
          refine ⟨_, _, rfl, rfl, ?_⟩
          rcases j with _ | j
          · exact .inr ⟨by go_num, R⟩
          · exact .inl ⟨j, by omega, by go_num, R⟩
        case measure => simp [intOf]
    · go_wp2
      go_ret2
      have g := prod_end a b h l hp.out
      exact ⟨rret2 (rint (by rw [g.1])) (rint (by rw [g.2])), rfl⟩
end Go.Proofs.Ytkmdahokomnjcaa
