/-
  The walks of the document's answer (tandemref05): divide, shift, signed.
-/
import Derived.Test.YtkmdahokomnjcaaAluR2
namespace Go.Proofs.Ytkmdahokomnjcaa
set_option linter.unusedVariables false
open Go.RowKit

theorem ge_or {P Q : Prop} (h : ¬ (P ∨ Q)) : ¬ P ∧ ¬ Q := ⟨fun p => h (.inl p), fun q => h (.inr q)⟩

set_option maxHeartbeats 1000000 in
theorem divide_any {k : Nat} (x y : BitVec k) (hk0 : 0 < k) (hk : k ≤ 64) (hy : y ≠ 0#k) (n : Int) (hn : n = k) (w : World) :
    Calls Try.prog 33 #[.int .u64 (U (Z x)), .int .u64 (U (Z y)), .int .i64 n] w fun e w' => e = .returned (.tuple #[.int .u64 (U (Z (x / y))), .int .u64 (U (Z (x % y)))]) ∧ w = w' := by
  subst hn
  have hE := hide (divide_end hk x y)
  have hS : Hid (DivAt (Z x).toNat (Z y).toNat k 0#64 0#64) := div_start _ _ k (by rw [Z_toNat hk]; exact x.isLt)
  have hZ := hide (Z_ne hk hy)
  clear hy
  generalize Z x = a at *
  generalize Z y = b at *
  go_enter Try.func33, Try.ntmps33
  go_wp2
  go_loop [8, 9, 10] (fun qv rv iv => ∃ q r : BitVec 64, qv = .int .u64 (U q) ∧ rv = .int .u64 (U r) ∧ ((∃ j : Nat, j < k ∧ iv = .int .i64 j ∧ Hid (DivAt a.toNat b.toNat (j + 1) q r)) ∨ (iv = .int .i64 (-1) ∧ Hid (DivAt a.toNat b.toNat 0 q r)))) (fun _ _ iv => (intOf iv + 1).toNat)
  case atStart =>
    obtain ⟨j, rfl⟩ : ∃ j, k = j + 1 := ⟨k - 1, by omega⟩
    exact ⟨0#64, 0#64, rfl, rfl, .inl ⟨j, by omega, by go_num, hS⟩⟩
  case round =>
    obtain ⟨q, r, rfl, rfl, hrel⟩ := hrel
    rcases hrel with ⟨j, hj, rfl, hp⟩ | ⟨rfl, hp⟩
    · have st := divide_step a b q r j hZ.out hp.out
      by_cases ho : r >>> 63 = 1#64
      · have tb : (U (r >>> 63) == 1) = true := by rw [ho]; decide +kernel
        have R := hide (st.1 (.inl ho))
        clear st ho hp
        go_wp2
        go_round
        case rel =>
          refine ⟨_, _, rfl, rfl, ?_⟩
          rcases j with _ | j
          · exact .inr ⟨by go_num, R⟩
          · exact .inl ⟨j, by omega, by go_num, R⟩
        case measure => simp [intOf]
      · have tb : (U (r >>> 63) == 1) = false := by rw [beq_eq_false_iff_ne]; exact fun e => ho (U_inj.1 e)
        by_cases hc : b ≤ r <<< 1 + (a >>> j &&& 1#64)
        · have tc : U b ≤ U (r <<< 1 + (a >>> j &&& 1#64)) := U_le.2 hc
          have R := hide (st.1 (.inr hc))
          clear st hc ho hp
          go_wp2
          go_round
          case rel =>
            refine ⟨_, _, rfl, rfl, ?_⟩
            rcases j with _ | j
            · exact .inr ⟨by go_num, R⟩
            · exact .inl ⟨j, by omega, by go_num, R⟩
          case measure => simp [intOf]
        · have tc : ¬ U b ≤ U (r <<< 1 + (a >>> j &&& 1#64)) := fun h => hc (U_le.1 h)
          have R := hide (st.2 (fun h => h.elim ho hc))
          clear st hc ho hp
          go_wp2
          go_round
          case rel =>
            refine ⟨_, _, rfl, rfl, ?_⟩
            rcases j with _ | j
            · exact .inr ⟨by go_num, R⟩
            · exact .inl ⟨j, by omega, by go_num, R⟩
          case measure => simp [intOf]
    · go_wp2
      go_ret2
      have g := hE.out q r hp.out
      exact ⟨rret2 (rint (by rw [g.1])) (rint (by rw [g.2])), rfl⟩

set_option maxHeartbeats 400000 in
theorem shift_sll {k : Nat} (x : BitVec k) (hk0 : 0 < k) (hk : k ≤ 64) (b : Nat) (hb64 : b ≤ 64) (by' : Int) (hb : by' = b) (n : Int) (hn : n = k) (w : World) :
    Calls Try.prog 32 #[.int .i64 15, .int .u64 (U (Z x)), .int .i64 by', .int .i64 n] w fun e w' => e = .returned (.int .u64 (U (Z (x <<< b)))) ∧ w = w' := by
  subst hn hb
  go_enter Try.func32, Try.ntmps32
  go_wp2
  go_loop [1, 9] (fun av iv => ∃ j : Nat, j ≤ b ∧ iv = .int .i64 j ∧ av = .int .u64 (U (Z (x <<< j)))) (fun _ iv => b - (intOf iv).toNat)
  case atStart => exact ⟨0, Nat.zero_le _, rfl, by rw [BitVec.shiftLeft_zero]⟩
  case round =>
    obtain ⟨j, hj, rfl, rfl⟩ := hrel
    by_cases hlt : j < b
    · have R := hide (sll_step hk x j)
      go_wp2_with fail
      refine (high_any _ hk0 hk _ rfl _).mono ?_; rintro e w' ⟨rfl, rfl⟩
      go_wp2_with fail
      refine (low_any _ k hk _ rfl _).mono ?_; rintro e w' ⟨rfl, rfl⟩
      go_wp2_with fail
      go_round
      case rel => exact ⟨j + 1, by omega, by go_num, by rw [R.out]⟩
      case measure => simp [intOf]; omega
    · have E := hide (show j = b by omega)
      go_wp2_with fail
      go_ret
      exact ⟨rret1 (rint (by rw [E.out])), rfl⟩

set_option maxHeartbeats 400000 in
theorem shift_srl {k : Nat} (x : BitVec k) (hk0 : 0 < k) (hk : k ≤ 64) (b : Nat) (hb64 : b ≤ 64) (by' : Int) (hb : by' = b) (n : Int) (hn : n = k) (w : World) :
    Calls Try.prog 32 #[.int .i64 19, .int .u64 (U (Z x)), .int .i64 by', .int .i64 n] w fun e w' => e = .returned (.int .u64 (U (Z (x >>> b)))) ∧ w = w' := by
  subst hn hb
  go_enter Try.func32, Try.ntmps32
  go_wp2
  go_loop [1, 9] (fun av iv => ∃ j : Nat, j ≤ b ∧ iv = .int .i64 j ∧ av = .int .u64 (U (Z (x >>> j)))) (fun _ iv => b - (intOf iv).toNat)
  case atStart => exact ⟨0, Nat.zero_le _, rfl, by rw [BitVec.ushiftRight_zero]⟩
  case round =>
    obtain ⟨j, hj, rfl, rfl⟩ := hrel
    by_cases hlt : j < b
    · have R := hide (srl_step hk x j)
      go_wp2_with fail
      refine (high_any _ hk0 hk _ rfl _).mono ?_; rintro e w' ⟨rfl, rfl⟩
      go_wp2_with fail
      go_round
      case rel => exact ⟨j + 1, by omega, by go_num, by rw [R.out]⟩
      case measure => simp [intOf]; omega
    · have E := hide (show j = b by omega)
      go_wp2_with fail
      go_ret
      exact ⟨rret1 (rint (by rw [E.out])), rfl⟩

set_option maxHeartbeats 400000 in
theorem shift_sra {k : Nat} (x : BitVec k) (hk0 : 0 < k) (hk : k ≤ 64) (b : Nat) (hb64 : b ≤ 64) (by' : Int) (hb : by' = b) (n : Int) (hn : n = k) (w : World) :
    Calls Try.prog 32 #[.int .i64 20, .int .u64 (U (Z x)), .int .i64 by', .int .i64 n] w fun e w' => e = .returned (.int .u64 (U (Z (x.sshiftRight b)))) ∧ w = w' := by
  subst hb
  obtain ⟨i, rfl⟩ : ∃ i, k = i + 1 := ⟨k - 1, by omega⟩
  have en : n - 1 = (i : Int) := by omega
  have HN := hide hn
  have n0 : (1 : Int) ≤ n := by omega
  have n1 : n ≤ 64 := by omega
  clear hn
  go_enter Try.func32, Try.ntmps32
  go_wp2
  go_loop [1, 9] (fun av iv => ∃ j : Nat, j ≤ b ∧ iv = .int .i64 j ∧ av = .int .u64 (U (Z (x.sshiftRight j)))) (fun _ iv => b - (intOf iv).toNat)
  case atStart => exact ⟨0, Nat.zero_le _, rfl, by rw [BitVec.sshiftRight_zero]⟩
  case round =>
    obtain ⟨j, hj, rfl, rfl⟩ := hrel
    by_cases hlt : j < b
    · have st := sra_step hk0 hk x j
      rw [Nat.add_sub_cancel] at st
      rcases hm : (x.sshiftRight j).msb with _ | _
      · have R := hide (st.2 hm)
        have HM := hide hm
        clear st hm
        go_wp2_with fail
        refine (high_any _ hk0 hk _ HN _).mono ?_; rintro e w' ⟨rfl, rfl⟩
        rw [HM.out]
        go_wp2_with fail
        go_round
        case rel => exact ⟨j + 1, by omega, by go_num, by rw [R.out]⟩
        case measure => simp [intOf]; omega
      · have R := hide (st.1 hm)
        have HM := hide hm
        clear st hm
        go_wp2_with fail
        refine (high_any _ hk0 hk _ HN _).mono ?_; rintro e w' ⟨rfl, rfl⟩
        rw [HM.out]
        go_wp2_with fail
        go_round
        case rel => exact ⟨j + 1, by omega, by go_num, by rw [R.out]⟩
        case measure => simp [intOf]; omega
    · have E := hide (show j = b by omega)
      go_wp2_with fail
      go_ret
      exact ⟨rret1 (rint (by rw [E.out])), rfl⟩

theorem sdiv_tt {k : Nat} {x y : BitVec k} (hx : x.msb = true) (hy : y.msb = true) : -x / -y = x.sdiv y := by rw [BitVec.sdiv_eq, hx, hy]; rfl
theorem sdiv_tf {k : Nat} {x y : BitVec k} (hx : x.msb = true) (hy : y.msb = false) : -(-x / y) = x.sdiv y := by rw [BitVec.sdiv_eq, hx, hy]; rfl
theorem sdiv_ft {k : Nat} {x y : BitVec k} (hx : x.msb = false) (hy : y.msb = true) : -(x / -y) = x.sdiv y := by rw [BitVec.sdiv_eq, hx, hy]; rfl
theorem sdiv_ff {k : Nat} {x y : BitVec k} (hx : x.msb = false) (hy : y.msb = false) : x / y = x.sdiv y := by rw [BitVec.sdiv_eq, hx, hy]; rfl
theorem srem_tt {k : Nat} {x y : BitVec k} (hx : x.msb = true) (hy : y.msb = true) : -(-x % -y) = x.srem y := by rw [BitVec.srem_eq, hx, hy]
theorem srem_tf {k : Nat} {x y : BitVec k} (hx : x.msb = true) (hy : y.msb = false) : -(-x % y) = x.srem y := by rw [BitVec.srem_eq, hx, hy]
theorem srem_ft {k : Nat} {x y : BitVec k} (hx : x.msb = false) (hy : y.msb = true) : x % -y = x.srem y := by rw [BitVec.srem_eq, hx, hy]
theorem srem_ff {k : Nat} {x y : BitVec k} (hx : x.msb = false) (hy : y.msb = false) : x % y = x.srem y := by rw [BitVec.srem_eq, hx, hy]

set_option maxHeartbeats 400000 in
theorem signed_tt {k : Nat} (x y : BitVec k) (hk0 : 0 < k) (hk : k ≤ 64) (NZ : Hid (y ≠ 0#k)) (NY : Hid (-y ≠ 0#k)) (HX : Hid (x.msb = true)) (HY : Hid (y.msb = true)) (n : Int) (HN : Hid (n = k)) (w : World) :
    Calls Try.prog 34 #[.int .u64 (U (Z x)), .int .u64 (U (Z y)), .int .i64 n] w fun e w' => e = .returned (.tuple #[.int .u64 (U (Z (x.sdiv y))), .int .u64 (U (Z (x.srem y)))]) ∧ w = w' := by
  go_enter Try.func34, Try.ntmps34
  go_wp2_with fail
  refine (high_any x hk0 hk _ HN _).mono ?_; rintro e w' ⟨rfl, rfl⟩
  rw [HX.out]
  go_wp2_with fail
  refine (high_any y hk0 hk _ HN _).mono ?_; rintro e w' ⟨rfl, rfl⟩
  rw [HY.out]
  go_wp2_with fail
  refine (minus_any x hk _ HN _).mono ?_; rintro e w' ⟨rfl, rfl⟩
  go_wp2_with fail
  refine (minus_any y hk _ HN _).mono ?_; rintro e w' ⟨rfl, rfl⟩
  go_wp2_with fail
  refine (divide_any (-x) (-y) hk0 hk NY _ HN _).mono ?_; rintro e w' ⟨rfl, rfl⟩
  go_wp2_with fail
  refine (minus_any ((-x) % (-y)) hk _ HN _).mono ?_; rintro e w' ⟨rfl, rfl⟩
  go_wp2_with fail
  go_ret2
  exact ⟨rret2 (rint (by rw [sdiv_tt HX HY])) (rint (by rw [srem_tt HX HY])), rfl⟩

set_option maxHeartbeats 400000 in
theorem signed_tf {k : Nat} (x y : BitVec k) (hk0 : 0 < k) (hk : k ≤ 64) (NZ : Hid (y ≠ 0#k)) (NY : Hid (-y ≠ 0#k)) (HX : Hid (x.msb = true)) (HY : Hid (y.msb = false)) (n : Int) (HN : Hid (n = k)) (w : World) :
    Calls Try.prog 34 #[.int .u64 (U (Z x)), .int .u64 (U (Z y)), .int .i64 n] w fun e w' => e = .returned (.tuple #[.int .u64 (U (Z (x.sdiv y))), .int .u64 (U (Z (x.srem y)))]) ∧ w = w' := by
  go_enter Try.func34, Try.ntmps34
  go_wp2_with fail
  refine (high_any x hk0 hk _ HN _).mono ?_; rintro e w' ⟨rfl, rfl⟩
  rw [HX.out]
  go_wp2_with fail
  refine (high_any y hk0 hk _ HN _).mono ?_; rintro e w' ⟨rfl, rfl⟩
  rw [HY.out]
  go_wp2_with fail
  refine (minus_any x hk _ HN _).mono ?_; rintro e w' ⟨rfl, rfl⟩
  go_wp2_with fail
  refine (divide_any (-x) y hk0 hk NZ _ HN _).mono ?_; rintro e w' ⟨rfl, rfl⟩
  go_wp2_with fail
  refine (minus_any ((-x) / y) hk _ HN _).mono ?_; rintro e w' ⟨rfl, rfl⟩
  go_wp2_with fail
  refine (minus_any ((-x) % y) hk _ HN _).mono ?_; rintro e w' ⟨rfl, rfl⟩
  go_wp2_with fail
  go_ret2
  exact ⟨rret2 (rint (by rw [sdiv_tf HX HY])) (rint (by rw [srem_tf HX HY])), rfl⟩

set_option maxHeartbeats 400000 in
theorem signed_ft {k : Nat} (x y : BitVec k) (hk0 : 0 < k) (hk : k ≤ 64) (NZ : Hid (y ≠ 0#k)) (NY : Hid (-y ≠ 0#k)) (HX : Hid (x.msb = false)) (HY : Hid (y.msb = true)) (n : Int) (HN : Hid (n = k)) (w : World) :
    Calls Try.prog 34 #[.int .u64 (U (Z x)), .int .u64 (U (Z y)), .int .i64 n] w fun e w' => e = .returned (.tuple #[.int .u64 (U (Z (x.sdiv y))), .int .u64 (U (Z (x.srem y)))]) ∧ w = w' := by
  go_enter Try.func34, Try.ntmps34
  go_wp2_with fail
  refine (high_any x hk0 hk _ HN _).mono ?_; rintro e w' ⟨rfl, rfl⟩
  rw [HX.out]
  go_wp2_with fail
  refine (high_any y hk0 hk _ HN _).mono ?_; rintro e w' ⟨rfl, rfl⟩
  rw [HY.out]
  go_wp2_with fail
  refine (minus_any y hk _ HN _).mono ?_; rintro e w' ⟨rfl, rfl⟩
  go_wp2_with fail
  refine (divide_any x (-y) hk0 hk NY _ HN _).mono ?_; rintro e w' ⟨rfl, rfl⟩
  go_wp2_with fail
  refine (minus_any (x / (-y)) hk _ HN _).mono ?_; rintro e w' ⟨rfl, rfl⟩
  go_wp2_with fail
  go_ret2
  exact ⟨rret2 (rint (by rw [sdiv_ft HX HY])) (rint (by rw [srem_ft HX HY])), rfl⟩

set_option maxHeartbeats 400000 in
theorem signed_ff {k : Nat} (x y : BitVec k) (hk0 : 0 < k) (hk : k ≤ 64) (NZ : Hid (y ≠ 0#k)) (NY : Hid (-y ≠ 0#k)) (HX : Hid (x.msb = false)) (HY : Hid (y.msb = false)) (n : Int) (HN : Hid (n = k)) (w : World) :
    Calls Try.prog 34 #[.int .u64 (U (Z x)), .int .u64 (U (Z y)), .int .i64 n] w fun e w' => e = .returned (.tuple #[.int .u64 (U (Z (x.sdiv y))), .int .u64 (U (Z (x.srem y)))]) ∧ w = w' := by
  go_enter Try.func34, Try.ntmps34
  go_wp2_with fail
  refine (high_any x hk0 hk _ HN _).mono ?_; rintro e w' ⟨rfl, rfl⟩
  rw [HX.out]
  go_wp2_with fail
  refine (high_any y hk0 hk _ HN _).mono ?_; rintro e w' ⟨rfl, rfl⟩
  rw [HY.out]
  go_wp2_with fail
  refine (divide_any x y hk0 hk NZ _ HN _).mono ?_; rintro e w' ⟨rfl, rfl⟩
  go_wp2_with fail
  go_ret2
  exact ⟨rret2 (rint (by rw [sdiv_ff HX HY])) (rint (by rw [srem_ff HX HY])), rfl⟩

theorem signed_any {k : Nat} (x y : BitVec k) (hk0 : 0 < k) (hk : k ≤ 64) (hy : y ≠ 0#k) (n : Int) (hn : n = k) (w : World) :
    Calls Try.prog 34 #[.int .u64 (U (Z x)), .int .u64 (U (Z y)), .int .i64 n] w fun e w' => e = .returned (.tuple #[.int .u64 (U (Z (x.sdiv y))), .int .u64 (U (Z (x.srem y)))]) ∧ w = w' := by
  rcases h1 : x.msb with _ | _ <;> rcases h2 : y.msb with _ | _
  · exact signed_ff x y hk0 hk hy (neg_ne hy) h1 h2 n hn w
  · exact signed_ft x y hk0 hk hy (neg_ne hy) h1 h2 n hn w
  · exact signed_tf x y hk0 hk hy (neg_ne hy) h1 h2 n hn w
  · exact signed_tt x y hk0 hk hy (neg_ne hy) h1 h2 n hn w
end Go.Proofs.Ytkmdahokomnjcaa
