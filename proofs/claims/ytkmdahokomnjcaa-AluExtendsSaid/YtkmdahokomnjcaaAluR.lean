/-
  The walks of the document's answer (tandemref05), the small functions: low, high, minus, Wide, below.
-/
import Derived.Test.YtkmdahokomnjcaaProg
import Derived.Test.YtkmdahokomnjcaaAluSpec
import Derived.Test.YtkmdahokomnjcaaAluPlain
namespace Go.Proofs.Ytkmdahokomnjcaa
open Go.RowKit

theorem rret2 {a b : Value} {c d : Value} (h : a = c) (g : b = d) : Ending.returned (.tuple #[a, b]) = Ending.returned (.tuple #[c, d]) := by rw [h, g]
theorem rret1 {a b : Value} (h : a = b) : Ending.returned a = Ending.returned b := by rw [h]
theorem rint {k : IntKind} {a b : Int} (h : a = b) : Value.int k a = Value.int k b := by rw [h]
theorem rbool {a b : Bool} (h : a = b) : Value.bool a = Value.bool b := by rw [h]

/-! ### plain steps -/
theorem low_step (a : BitVec 64) (j : Nat) (hj : j < 64) : Z (a.setWidth j) + (a &&& 1#64 <<< j) = Z (a.setWidth (j + 1)) := by
  apply BitVec.eq_of_toNat_eq
  have h1 : (1#64 <<< j).toNat = 2 ^ j := by
    rw [BitVec.toNat_shiftLeft, Nat.shiftLeft_eq]
    have : (2 : Nat) ^ j < 2 ^ 64 := Nat.pow_lt_pow_right (by decide) hj
    simp only [BitVec.toNat_ofNat, Nat.reducePow, Nat.reduceMod, Nat.one_mul]
    exact Nat.mod_eq_of_lt (by simpa using this)
  have e1 : a.toNat % 2 ^ (j + 1) = a.toNat % 2 ^ j + 2 ^ j * (a.toNat / 2 ^ j % 2) := Nat.mod_pow_succ
  rw [BitVec.toNat_add, Z_low (by omega), Z_low (by omega), BitVec.toNat_and, h1, nat_bit, e1]
  have h2 : a.toNat % 2 ^ (j + 1) < 2 ^ 64 := Nat.lt_of_le_of_lt (Nat.mod_le _ _) a.isLt
  rw [e1] at h2
  rw [Nat.mul_comm (a.toNat / 2 ^ j % 2)]
  exact Nat.mod_eq_of_lt h2
theorem low_zero (a : BitVec 64) : Z (a.setWidth 0) = 0#64 := by
  apply BitVec.eq_of_toNat_eq
  rw [Z_low (by decide)]; simp; omega

set_option maxHeartbeats 400000 in
theorem low_any (a : BitVec 64) (m : Nat) (hm : m ≤ 64) (n : Int) (hn : n = m) (w : World) :
    Calls Try.prog 26 #[.int .u64 (U a), .int .i64 n] w fun e w' => e = .returned (.int .u64 (U (Z (a.setWidth m)))) ∧ w = w' := by
  subst hn
  go_enter Try.func26, Try.ntmps26
  go_wp2
  go_loop [5, 6] (fun o i => ∃ j : Nat, j ≤ m ∧ i = .int .i64 j ∧ o = .int .u64 (U (Z (a.setWidth j)))) (fun _ i => m - (intOf i).toNat)
  case atStart => exact ⟨0, Nat.zero_le _, rfl, by rw [low_zero]; rfl⟩
  case round =>
    obtain ⟨j, hj, rfl, rfl⟩ := hrel
    by_cases hlt : j < m
    · have H := hide (low_step a j (by omega))
      go_wp2
      go_round
      case rel => exact ⟨j + 1, by omega, by go_num, by rw [← H.out]⟩
      case measure => simp [intOf]; omega
    · have hjm : j = m := by omega
      have H := hide hjm
      clear hjm
      go_wp2
      go_ret
      exact ⟨rret1 (rint (by rw [H.out])), rfl⟩

set_option maxHeartbeats 400000 in
theorem high_any {k : Nat} (x : BitVec k) (hk0 : 0 < k) (hk : k ≤ 64) (n : Int) (hn : n = k) (w : World) :
    Calls Try.prog 30 #[.int .u64 (U (Z x)), .int .i64 n] w fun e w' => e = .returned (.bool x.msb) ∧ w = w' := by
  subst hn
  obtain ⟨j, rfl⟩ : ∃ j, k = j + 1 := ⟨k - 1, by omega⟩
  have t : (U (Z x >>> j &&& 1#64) == 1) = x.msb := by
    have e : (Z x >>> j &&& 1#64).toNat = x.toNat / 2 ^ j % 2 := by
      rw [BitVec.toNat_and, BitVec.toNat_ushiftRight, Z_toNat hk, Nat.shiftRight_eq_div_pow]
      exact nat_mask1 _
    have h1 := x.isLt
    have h2 : x.toNat / 2 ^ j < 2 := by
      rw [Nat.div_lt_iff_lt_mul (Nat.two_pow_pos j), ← Nat.pow_succ']; exact h1
    rw [BitVec.msb_eq_decide]
    unfold U
    rw [e, Bool.eq_iff_iff]
    simp only [beq_iff_eq, decide_eq_true_eq, Nat.add_sub_cancel]
    rw [Nat.mod_eq_of_lt h2]
    constructor
    · intro h
      have h3 : 1 ≤ x.toNat / 2 ^ j := by omega
      rw [Nat.le_div_iff_mul_le (Nat.two_pow_pos j)] at h3
      omega
    · intro h
      have h3 : 1 ≤ x.toNat / 2 ^ j := by
        rw [Nat.le_div_iff_mul_le (Nat.two_pow_pos j)]; omega
      omega
  have en : (((j + 1 : Nat) : Int) - 1) = (j : Int) := by omega
  have H := hide t
  clear t
  go_enter Try.func30, Try.ntmps30
  go_wp2
  go_ret
  exact ⟨rret1 (rbool H.out), rfl⟩
end Go.Proofs.Ytkmdahokomnjcaa
