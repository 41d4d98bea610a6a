/-
  What the operations of whole numbers come to, said of bit vectors; and the plain laws on them. Nothing of the program stands here.
-/
import Derived.Test.YtkmdahokomnjcaaWords
import Derived.Lib.Mul64
namespace Go.Proofs.Ytkmdahokomnjcaa

/-- A number of fewer bits as one of 64. -/
def Z {w : Nat} (x : BitVec w) : BitVec 64 := x.setWidth 64

theorem Z_toNat {w : Nat} (hw : w ≤ 64) (x : BitVec w) : (Z x).toNat = x.toNat := by
  unfold Z
  rw [BitVec.toNat_setWidth]
  exact Nat.mod_eq_of_lt (Nat.lt_of_lt_of_le x.isLt (Nat.pow_le_pow_right (by decide) hw))
theorem Z_low {n : Nat} (hn : n ≤ 64) (a : BitVec 64) : (Z (a.setWidth n)).toNat = a.toNat % 2 ^ n := by
  rw [Z_toNat hn, BitVec.toNat_setWidth]
theorem Z_64 (x : BitVec 64) : Z x = x := by unfold Z; simp
theorem Z_back {w : Nat} (hw : w ≤ 64) (x : BitVec w) : (Z x).setWidth w = x := by
  apply BitVec.eq_of_toNat_eq
  rw [BitVec.toNat_setWidth, Z_toNat hw, Nat.mod_eq_of_lt x.isLt]

/-- The upper word of a product. -/
def mulHi (a b : BitVec 64) : BitVec 64 := BitVec.ofNat 64 (a.toNat * b.toNat / 18446744073709551616)

theorem mul_lt (a b : BitVec 64) : a.toNat * b.toNat / 18446744073709551616 < 18446744073709551616 := by
  have ha := a.isLt
  have hb := b.isLt
  have h : a.toNat * b.toNat < 18446744073709551616 * 18446744073709551616 := Nat.mul_lt_mul'' ha hb
  omega
theorem mulHi_toNat (a b : BitVec 64) : (mulHi a b).toNat = a.toNat * b.toNat / 18446744073709551616 := by
  unfold mulHi
  rw [BitVec.toNat_ofNat]
  exact Nat.mod_eq_of_lt (mul_lt a b)

def doW {w : Nat} (k : Int) (a b : BitVec w) : BitVec w × Bool :=
  if k = 13 then (a + b, true)
  else if k = 14 then (a - b, true)
  else if k = 23 then (a * b, true)
  else if k = 15 then (a <<< (b.toNat % w), true)
  else if k = 19 then (a >>> (b.toNat % w), true)
  else if k = 20 then (a.sshiftRight (b.toNat % w), true)
  else if k = 27 then (if b = 0#w then BitVec.allOnes w else a.sdiv b, true)
  else if k = 28 then (if b = 0#w then BitVec.allOnes w else a / b, true)
  else if k = 29 then (a.srem b, true)
  else if k = 30 then (a % b, true)
  else (0#w, false)

def bit (b : Bool) : BitVec 64 := if b then 1#64 else 0#64
def some_ (c : Bool) (x : BitVec 64) : BitVec 64 := if c then x else 0#64

def doD (k : Int) (word : Bool) (a b : BitVec 64) : BitVec 64 × Bool :=
  if word then ((doW k (a.setWidth 32) (b.setWidth 32)).1.signExtend 64, (doW k (a.setWidth 32) (b.setWidth 32)).2)
  else if k = 16 then (bit (a.slt b), true)
  else if k = 17 then (bit (a.ult b), true)
  else if k = 18 then (a ^^^ b, true)
  else if k = 21 then (a ||| b, true)
  else if k = 22 then (a &&& b, true)
  else if k = 24 then (mulHi a b - some_ b.msb a - some_ a.msb b, true)
  else if k = 25 then (mulHi a b - some_ a.msb b, true)
  else if k = 26 then (mulHi a b, true)
  else doW k a b

/-! Small laws on bits -/
theorem and_63 (b : BitVec 64) : b.toNat % 64 = b.toNat &&& 63 := (Nat.and_two_pow_sub_one_eq_mod b.toNat 6).symm
theorem and_31 (b : BitVec 32) : b.toNat % 32 = b.toNat % 18446744073709551616 &&& 31 := by
  rw [Nat.mod_eq_of_lt (a := b.toNat) (b := 18446744073709551616) (Nat.lt_trans b.isLt (by decide))]
  exact (Nat.and_two_pow_sub_one_eq_mod b.toNat 5).symm
theorem srem_neg_one (a : BitVec 64) : a.srem (-1#64) = 0#64 := BitVec.srem_zero_of_dvd (by
  have h : (-1#64).toInt = -1 := by decide
  rw [h]; exact ⟨-a.toInt, by omega⟩)
theorem srem_neg_one4 (a : BitVec 32) : a.srem (-1#32) = 0#32 := BitVec.srem_zero_of_dvd (by
  have h : (-1#32).toInt = -1 := by decide
  rw [h]; exact ⟨-a.toInt, by omega⟩)
theorem srem_zero_eq {w : Nat} (a : BitVec w) : a.srem 0#w = a := by simp
theorem sdiv_least : (9223372036854775808#64).sdiv (-1#64) = 9223372036854775808#64 := by decide +kernel
theorem sdiv_least4 : (2147483648#32).sdiv (-1#32) = 2147483648#32 := by decide +kernel

/-! math/bits.Mul64, by halves -/
theorem mul64_eq (x y : BitVec 64) :
    ((x >>> 32) * (y >>> 32) + (((x >>> 32) * (y &&& 4294967295#64) + ((x &&& 4294967295#64) * (y &&& 4294967295#64)) >>> 32) >>> 32) +
      (((((x >>> 32) * (y &&& 4294967295#64) + ((x &&& 4294967295#64) * (y &&& 4294967295#64)) >>> 32) &&& 4294967295#64) + (x &&& 4294967295#64) * (y >>> 32)) >>> 32)) = mulHi x y := by
  have mask : ∀ z : BitVec 64, (z &&& 4294967295#64).toNat = z.toNat % 4294967296 := fun z => by
    rw [BitVec.toNat_and]; exact Nat.and_two_pow_sub_one_eq_mod z.toNat 32
  obtain ⟨bd, bt, bw, hhi⟩ := Lib.mul64_hi x.toNat y.toNat x.isLt y.isLt
  apply BitVec.eq_of_toNat_eq
  rw [mulHi_toNat]
  have ba := Lib.half_mul_le (a := x.toNat / 4294967296) (b := y.toNat / 4294967296) (by have := x.isLt; omega) (by have := y.isLt; omega)
  have bb := Lib.half_mul_le (a := x.toNat / 4294967296) (b := y.toNat % 4294967296) (by have := x.isLt; omega) (by omega)
  have bc := Lib.half_mul_le (a := x.toNat % 4294967296) (b := y.toNat / 4294967296) (by omega) (by have := y.isLt; omega)
  simp only [BitVec.toNat_add, BitVec.toNat_mul, BitVec.toNat_ushiftRight, mask, Nat.shiftRight_eq_div_pow, Nat.reducePow]
  rw [← hhi]
  generalize (x.toNat / 4294967296) * (y.toNat / 4294967296) = a at *
  generalize (x.toNat / 4294967296) * (y.toNat % 4294967296) = b at *
  generalize (x.toNat % 4294967296) * (y.toNat / 4294967296) = c at *
  generalize (x.toNat % 4294967296) * (y.toNat % 4294967296) = d at *
  omega
end Go.Proofs.Ytkmdahokomnjcaa
