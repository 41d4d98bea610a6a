/-
  The plain laws under AluDivides, AluWords, AluUppers, AluTurns: of bit vectors alone.
-/
import Derived.Test.YtkmdahokomnjcaaAluSpec
namespace Go.Proofs.Ytkmdahokomnjcaa

def dist (x : BitVec 64) : BitVec 64 := if x.msb then -x else x
theorem S_eq (x : BitVec 64) : S x = if x.msb then U x - 18446744073709551616 else U x := by
  unfold S U; rw [BitVec.toInt_eq_msb_cond]; simp
theorem msb_iff (x : BitVec 64) : x.msb = decide (9223372036854775808 ≤ x.toNat) := by rw [BitVec.msb_eq_decide]
theorem U_dist (x : BitVec 64) : U (dist x) = ((S x).natAbs : Int) := by
  rw [S_eq]
  have h := x.isLt
  have m := msb_iff x
  rcases hx : x.msb with _ | _
  · have e : dist x = x := by simp [dist, hx]
    rw [e]; unfold U; simp
  · have e : dist x = -x := by simp [dist, hx]
    rw [hx] at m
    have m' := of_decide_eq_true m.symm
    rw [e]; unfold U; rw [BitVec.toNat_neg]; simp; omega
theorem shr63 (x : BitVec 64) : x >>> 63 = if x.msb then 1#64 else 0#64 := by
  apply BitVec.eq_of_toNat_eq
  have h := x.isLt
  have m := msb_iff x
  rw [BitVec.toNat_ushiftRight, Nat.shiftRight_eq_div_pow]
  rcases hx : x.msb with _ | _
  · rw [hx] at m
    have m' := of_decide_eq_false m.symm
    simp; omega
  · rw [hx] at m
    have m' := of_decide_eq_true m.symm
    simp; omega
theorem B_sdiv (a b : BitVec 64) : a.sdiv b = B ((S a).tdiv (S b)) := by
  apply S_inj.1; rw [← wrap_tdiv_S, wrap_i64_B]
theorem div_back (a b : BitVec 64) : a.sdiv b * b + a.srem b = a := by
  have e2 : a.srem b = B ((S a).tmod (S b)) := by rw [tmod_S, B_S]
  have e3 : a.sdiv b * b = B ((S a).tdiv (S b) * S b) := by rw [B_mul, ← B_sdiv, B_S]
  rw [e3, e2, ← B_add, Int.tdiv_mul_add_tmod, B_S]
theorem divu_back (a b : BitVec 64) : a / b * b + a % b = a := by
  apply BitVec.eq_of_toNat_eq
  rw [BitVec.toNat_add, BitVec.toNat_mul, BitVec.toNat_udiv, BitVec.toNat_umod]
  have := a.isLt
  have h : a.toNat / b.toNat * b.toNat + a.toNat % b.toNat = a.toNat := Nat.div_add_mod' _ _
  have h1 : a.toNat / b.toNat * b.toNat ≤ a.toNat := by omega
  rw [Nat.mod_eq_of_lt (a := a.toNat / b.toNat * b.toNat) (by omega), h, Nat.mod_eq_of_lt (by omega)]
theorem pos_of_ne {b : BitVec 64} (hb : b ≠ 0#64) : 0 < b.toNat := by
  rcases Nat.eq_zero_or_pos b.toNat with h | h
  · exact absurd (BitVec.eq_of_toNat_eq (by simpa using h)) hb
  · exact h
theorem remu_lt (a b : BitVec 64) (hb : b ≠ 0#64) : U (a % b) < U b := by
  unfold U; rw [BitVec.toNat_umod]
  have := Nat.mod_lt a.toNat (pos_of_ne hb)
  omega
theorem divu_le (a b : BitVec 64) : U (a / b) ≤ U a := by
  unfold U; rw [BitVec.toNat_udiv]
  have := Nat.div_le_self a.toNat b.toNat
  omega
theorem dist_lt (a b : BitVec 64) (hb : b ≠ 0#64) : U (dist (a.srem b)) < U (dist b) := by
  rw [U_dist, U_dist, ← tmod_S, Int.natAbs_tmod]
  have h : 0 < (S b).natAbs := by
    rcases Nat.eq_zero_or_pos (S b).natAbs with h | h
    · exact absurd (S_zero.1 (by omega)) hb
    · exact h
  have := Nat.mod_lt (S a).natAbs h
  omega
theorem msb_neg (x : BitVec 64) : x.msb = decide (S x < 0) := by unfold S; rw [BitVec.msb_eq_toInt]
theorem rem_sign (a b : BitVec 64) : a.srem b = 0#64 ∨ (a.srem b) >>> 63 = a >>> 63 := by
  by_cases h : a.srem b = 0#64
  · exact .inl h
  · refine .inr ?_
    have hn : S (a.srem b) ≠ 0 := fun e => h (S_zero.1 e)
    have : (a.srem b).msb = a.msb := by
      rw [msb_neg, msb_neg, ← tmod_S]
      rw [← tmod_S] at hn
      rcases Int.lt_or_le (S a) 0 with ha | ha
      · have h2 : 0 ≤ (-(S a)).tmod (S b) := Int.tmod_nonneg _ (by omega)
        rw [Int.neg_tmod] at h2
        have h3 : (S a).tmod (S b) < 0 := by omega
        simp [ha, h3]
      · have h2 : 0 ≤ (S a).tmod (S b) := Int.tmod_nonneg _ ha
        have h4 : ¬ (S a).tmod (S b) < 0 := by omega
        have h5 : ¬ S a < 0 := by omega
        simp [h4, h5]
    rw [shr63, shr63, this]

theorem xor_high (a h : BitVec 64) : (a ^^^ (h <<< 32)).setWidth 32 = a.setWidth 32 := by
  apply BitVec.eq_of_getLsbD_eq
  intro i hi
  simp [hi]

theorem set_sext (x : BitVec 32) : (x.signExtend 64).setWidth 32 = x := by
  apply BitVec.eq_of_getLsbD_eq
  intro i hi
  have h : i < 64 := by omega
  rw [BitVec.getLsbD_setWidth, BitVec.getLsbD_signExtend]
  simp [hi, h]

theorem mul_succ (a b : BitVec 64) : a * (b + 1#64) = a * b + a := by
  rw [BitVec.mul_add, BitVec.mul_one]
theorem mulHi_succ (a b : BitVec 64) (hb : b ≠ 18446744073709551615#64) : mulHi a (b + 1#64) = mulHi a b + (if a * b + a < a * b then 1#64 else 0#64) := by
  have ha := a.isLt
  have hb2 := b.isLt
  have hb3 : b.toNat ≠ 18446744073709551615 := fun e => hb (BitVec.eq_of_toNat_eq (by simpa using e))
  have h1 : (b + 1#64).toNat = b.toNat + 1 := by rw [BitVec.toNat_add]; simp; omega
  apply BitVec.eq_of_toNat_eq
  rw [mulHi_toNat, h1, BitVec.toNat_add, mulHi_toNat]
  have hl := mul_lt a b
  have hm := mul_lt a (b + 1#64)
  rw [h1] at hm
  have hlt : (a * b + a < a * b) ↔ ((a * b).toNat + a.toNat) % 18446744073709551616 < (a * b).toNat := by rw [BitVec.lt_def, BitVec.toNat_add]
  rw [BitVec.toNat_mul] at hlt
  rw [Nat.mul_succ] at hm ⊢
  by_cases hc : a * b + a < a * b
  · rw [if_pos hc]
    have hc2 := hlt.1 hc
    generalize a.toNat * b.toNat = P at *
    simp at hc2 ⊢
    omega
  · rw [if_neg hc]
    have hc2 := mt hlt.2 hc
    generalize a.toNat * b.toNat = P at *
    simp at hc2 ⊢
    omega
theorem mulHi_zero (a : BitVec 64) : mulHi a 0#64 = 0#64 := by simp [mulHi]
end Go.Proofs.Ytkmdahokomnjcaa
