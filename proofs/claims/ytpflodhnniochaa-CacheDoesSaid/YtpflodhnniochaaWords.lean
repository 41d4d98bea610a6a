/-
  Words: the numbers of 64 and 32 bits as bit vectors, and how the walk writes what Go's operations make of them.
  Nothing of the program stands here.
-/
import Derived.WalkKit
import Derived.WalkSpells
import Derived.WalkLawsBesides
namespace Go.Proofs.Ytpflodhnniochaa
open Go.RowKit

/-- A number without a sign, of 64 bits. -/
def U (x : BitVec 64) : Int := (x.toNat : Int)
/-- The same bits, with a sign. -/
def S (x : BitVec 64) : Int := x.toInt
def U4 (x : BitVec 32) : Int := (x.toNat : Int)
def S4 (x : BitVec 32) : Int := x.toInt
/-- A number without a sign, of 8 bits. -/
def U1 (x : BitVec 8) : Int := (x.toNat : Int)
def B1 (n : Int) : BitVec 8 := BitVec.ofInt 8 n
/-- The 64 bits of a whole number. -/
def B (n : Int) : BitVec 64 := BitVec.ofInt 64 n
def B4 (n : Int) : BitVec 32 := BitVec.ofInt 32 n

theorem U_lo (x : BitVec 64) : 0 ≤ U x := by unfold U; omega
theorem U_hi (x : BitVec 64) : U x < 18446744073709551616 := by unfold U; have := x.isLt; omega
theorem U4_lo (x : BitVec 32) : 0 ≤ U4 x := by unfold U4; omega
theorem U4_hi (x : BitVec 32) : U4 x < 4294967296 := by unfold U4; have := x.isLt; omega
theorem S_lo (x : BitVec 64) : -9223372036854775808 ≤ S x := by unfold S; have := BitVec.le_toInt x; simpa using this
theorem S_hi (x : BitVec 64) : S x < 9223372036854775808 := by unfold S; have := BitVec.toInt_lt (x := x); simpa using this
theorem S4_lo (x : BitVec 32) : -2147483648 ≤ S4 x := by unfold S4; have := BitVec.le_toInt x; simpa using this
theorem S4_hi (x : BitVec 32) : S4 x < 2147483648 := by unfold S4; have := BitVec.toInt_lt (x := x); simpa using this

@[go_sem] theorem B_U (x : BitVec 64) : B (U x) = x := by unfold B U; simp
@[go_sem] theorem B_S (x : BitVec 64) : B (S x) = x := by unfold B S; simp
@[go_sem] theorem B4_U4 (x : BitVec 32) : B4 (U4 x) = x := by unfold B4 U4; simp
@[go_sem] theorem B4_S4 (x : BitVec 32) : B4 (S4 x) = x := by unfold B4 S4; simp
@[go_sem] theorem B_add (a b : Int) : B (a + b) = B a + B b := by unfold B; rw [BitVec.ofInt_add]
@[go_sem] theorem B_mul (a b : Int) : B (a * b) = B a * B b := by unfold B; rw [BitVec.ofInt_mul]
@[go_sem] theorem B_neg (a : Int) : B (-a) = -B a := by unfold B; rw [BitVec.ofInt_neg]
@[go_sem] theorem B_sub (a b : Int) : B (a - b) = B a - B b := by rw [Int.sub_eq_add_neg, B_add, B_neg, BitVec.sub_eq_add_neg]
@[go_sem] theorem B_nat (n : Nat) : B (n : Int) = BitVec.ofNat 64 n := by unfold B; simp
@[go_sem] theorem B_lit (n : Nat) : B (no_index (OfNat.ofNat n)) = BitVec.ofNat 64 n := B_nat n
@[go_sem] theorem B4_add (a b : Int) : B4 (a + b) = B4 a + B4 b := by unfold B4; rw [BitVec.ofInt_add]
@[go_sem] theorem B4_mul (a b : Int) : B4 (a * b) = B4 a * B4 b := by unfold B4; rw [BitVec.ofInt_mul]
@[go_sem] theorem B4_neg (a : Int) : B4 (-a) = -B4 a := by unfold B4; rw [BitVec.ofInt_neg]
@[go_sem] theorem B4_sub (a b : Int) : B4 (a - b) = B4 a - B4 b := by rw [Int.sub_eq_add_neg, B4_add, B4_neg, BitVec.sub_eq_add_neg]
@[go_sem] theorem B4_nat (n : Nat) : B4 (n : Int) = BitVec.ofNat 32 n := by unfold B4; simp
@[go_sem] theorem B4_lit (n : Nat) : B4 (no_index (OfNat.ofNat n)) = BitVec.ofNat 32 n := B4_nat n
@[go_sem] theorem B4_U (x : BitVec 64) : B4 (U x) = x.setWidth 32 := by unfold B4 U; rw [BitVec.ofInt_natCast]; rfl
@[go_sem] theorem B4_S (x : BitVec 64) : B4 (S x) = x.setWidth 32 := by
  apply BitVec.eq_of_toInt_eq
  unfold B4 S
  rw [BitVec.toInt_ofInt, BitVec.toInt_setWidth, BitVec.toInt_eq_toNat_bmod]
  rw [Int.bmod_bmod_of_dvd (by decide)]
@[go_sem] theorem B_U4 (x : BitVec 32) : B (U4 x) = x.setWidth 64 := by unfold B U4; rw [BitVec.ofInt_natCast]; apply BitVec.eq_of_toNat_eq; simp
@[go_sem] theorem B_S4 (x : BitVec 32) : B (S4 x) = x.signExtend 64 := by unfold B S4 BitVec.signExtend; rfl

theorem wrap_u64_B (n : Int) : IntKind.u64.wrap n = U (B n) := by
  rw [IntKind.wrap_u64]; unfold U B
  rw [BitVec.toNat_ofInt]
  have : (0 : Int) ≤ n % (18446744073709551616 : Int) := by omega
  omega
theorem wrap_u32_B (n : Int) : IntKind.u32.wrap n = U4 (B4 n) := by
  rw [IntKind.wrap_u32]; unfold U4 B4
  rw [BitVec.toNat_ofInt]
  have : (0 : Int) ≤ n % (4294967296 : Int) := by omega
  omega
theorem wrap_i64_B (n : Int) : IntKind.i64.wrap n = S (B n) := by
  rw [IntKind.wrap_i64]; unfold S B
  rw [BitVec.toInt_ofInt, Int.bmod_def]
  simp only [Nat.reducePow, Int.cast_ofNat_Int]
  split <;> omega
theorem wrap_i32_B (n : Int) : IntKind.i32.wrap n = S4 (B4 n) := by
  rw [IntKind.wrap_i32]; unfold S4 B4
  rw [BitVec.toInt_ofInt, Int.bmod_def]
  simp only [Nat.reducePow, Int.cast_ofNat_Int]
  split <;> omega

attribute [go_sem] wrap_u64_B wrap_u32_B

/-! Bytes -/
theorem U1_lo (x : BitVec 8) : 0 ≤ U1 x := by unfold U1; omega
theorem U1_hi (x : BitVec 8) : U1 x < 256 := by unfold U1; have := x.isLt; omega
@[go_sem] theorem B1_U1 (x : BitVec 8) : B1 (U1 x) = x := by unfold B1 U1; simp
@[go_sem] theorem B1_add (a b : Int) : B1 (a + b) = B1 a + B1 b := by unfold B1; rw [BitVec.ofInt_add]
@[go_sem] theorem B1_neg (a : Int) : B1 (-a) = -B1 a := by unfold B1; rw [BitVec.ofInt_neg]
@[go_sem] theorem B1_sub (a b : Int) : B1 (a - b) = B1 a - B1 b := by rw [Int.sub_eq_add_neg, B1_add, B1_neg, BitVec.sub_eq_add_neg]
@[go_sem] theorem B1_nat (n : Nat) : B1 (n : Int) = BitVec.ofNat 8 n := by unfold B1; simp
@[go_sem] theorem B1_lit (n : Nat) : B1 (no_index (OfNat.ofNat n)) = BitVec.ofNat 8 n := B1_nat n
@[go_sem] theorem B1_U (x : BitVec 64) : B1 (U x) = x.setWidth 8 := by unfold B1 U; rw [BitVec.ofInt_natCast]; rfl
@[go_sem] theorem B_U1 (x : BitVec 8) : B (U1 x) = x.setWidth 64 := by unfold B U1; rw [BitVec.ofInt_natCast]; apply BitVec.eq_of_toNat_eq; simp
theorem wrap_u8_B (n : Int) : IntKind.u8.wrap n = U1 (B1 n) := by
  rw [IntKind.wrap_u8]; unfold U1 B1
  rw [BitVec.toNat_ofInt]
  have : (0 : Int) ≤ n % (256 : Int) := by omega
  omega
attribute [go_sem] wrap_u8_B
theorem U1_back (x : BitVec 8) : IntKind.u8.wrap (x.toNat : Int) = U1 x := by rw [wrap_u8_B, B1_nat]; simp
@[go_sem] theorem bits_and_u8 (a b : Int) : bits .and .u8 a b = U1 (B1 a &&& B1 b) := U1_back _
@[go_sem] theorem bits_or_u8 (a b : Int) : bits .or .u8 a b = U1 (B1 a ||| B1 b) := U1_back _
@[go_sem] theorem bits_xor_u8 (a b : Int) : bits .xor .u8 a b = U1 (B1 a ^^^ B1 b) := U1_back _
@[go_sem] theorem bits_andNot_u8 (a b : Int) : bits .andNot .u8 a b = U1 (B1 a &&& ~~~ B1 b) := U1_back _
@[go_sem] theorem div_pow_U1 (x : BitVec 8) (k : Nat) : U1 x / 2 ^ k = U1 (x >>> k) := by
  unfold U1
  rw [BitVec.toNat_ushiftRight, Nat.shiftRight_eq_div_pow, Int.natCast_ediv, Int.natCast_pow]
  rfl
@[go_sem] theorem div1_p1 (x : BitVec 8) : U1 x / (2 : Int) = U1 (x >>> 1) := div_pow_U1 x 1
@[go_sem] theorem div1_p2 (x : BitVec 8) : U1 x / (4 : Int) = U1 (x >>> 2) := div_pow_U1 x 2
@[go_sem] theorem div1_p3 (x : BitVec 8) : U1 x / (8 : Int) = U1 (x >>> 3) := div_pow_U1 x 3
@[go_sem] theorem div1_p4 (x : BitVec 8) : U1 x / (16 : Int) = U1 (x >>> 4) := div_pow_U1 x 4
@[go_sem] theorem div1_p5 (x : BitVec 8) : U1 x / (32 : Int) = U1 (x >>> 5) := div_pow_U1 x 5
@[go_sem] theorem div1_p6 (x : BitVec 8) : U1 x / (64 : Int) = U1 (x >>> 6) := div_pow_U1 x 6
@[go_sem] theorem div1_p7 (x : BitVec 8) : U1 x / (128 : Int) = U1 (x >>> 7) := div_pow_U1 x 7
theorem U1_inj {x y : BitVec 8} : U1 x = U1 y ↔ x = y := ⟨fun h => by have := congrArg B1 h; rwa [B1_U1, B1_U1] at this, fun h => by rw [h]⟩
theorem U1_beq (x y : BitVec 8) : (U1 x == U1 y) = (x == y) := by rw [Bool.eq_iff_iff]; simp [U1_inj]
theorem U1_bne (x y : BitVec 8) : (U1 x != U1 y) = (x != y) := by unfold bne; rw [U1_beq]
theorem wrap_i64_U1 (x : BitVec 8) : IntKind.i64.wrap (U1 x) = U1 x := by
  have h0 := U1_lo x
  have h1 := U1_hi x
  rw [IntKind.wrap_i64]; omega

/-! Masks of whole numbers with a sign -/
theorem and_i64_mask (k : Nat) (hk : k < 63) (n : Int) : bits .and .i64 n ((2 ^ k - 1 : Nat) : Int) = n % ((2 ^ k : Nat) : Int) := by
  have hlt : (2 : Nat) ^ k < 2 ^ 63 := Nat.pow_lt_pow_right (by decide) hk
  have hpos : 0 < (2 : Nat) ^ k := Nat.two_pow_pos k
  have e : (BitVec.ofInt 64 n &&& BitVec.ofInt 64 ((2 ^ k - 1 : Nat) : Int)).toNat = (n % ((2 ^ k : Nat) : Int)).toNat := by
    rw [BitVec.toNat_and, BitVec.ofInt_natCast, BitVec.toNat_ofNat, Nat.mod_eq_of_lt (by omega), Nat.and_two_pow_sub_one_eq_mod, BitVec.toNat_ofInt]
    have h1 : (0 : Int) ≤ n % ((2 ^ 64 : Nat) : Int) := Int.emod_nonneg _ (by decide)
    have h2 : (0 : Int) ≤ n % ((2 ^ k : Nat) : Int) := Int.emod_nonneg _ (by omega)
    have h3 : (((n % ((2 ^ 64 : Nat) : Int)).toNat % 2 ^ k : Nat) : Int) = n % ((2 ^ k : Nat) : Int) := by
      rw [Int.natCast_emod, Int.toNat_of_nonneg h1]
      exact Int.emod_emod_of_dvd n (Int.natCast_dvd_natCast.2 (Nat.pow_dvd_pow 2 (by omega)))
    omega
  have hm : n % ((2 ^ k : Nat) : Int) < ((2 ^ k : Nat) : Int) := Int.emod_lt_of_pos _ (by omega)
  have h2 : (0 : Int) ≤ n % ((2 ^ k : Nat) : Int) := Int.emod_nonneg _ (by omega)
  show IntKind.i64.wrap ((BitVec.ofInt 64 n &&& BitVec.ofInt 64 ((2 ^ k - 1 : Nat) : Int)).toNat : Int) = _
  rw [e, Int.toNat_of_nonneg h2, IntKind.wrap_i64]
  have h63 : ((2 ^ k : Nat) : Int) < 9223372036854775808 := by
    have : (2 : Nat) ^ 63 = 9223372036854775808 := by decide
    omega
  omega
@[go_sem] theorem and_i64_1 (n : Int) : bits .and .i64 n (1 : Int) = n % 2 := and_i64_mask 1 (by decide) n
@[go_sem] theorem and_i64_3 (n : Int) : bits .and .i64 n (3 : Int) = n % 4 := and_i64_mask 2 (by decide) n
@[go_sem] theorem and_i64_7 (n : Int) : bits .and .i64 n (7 : Int) = n % 8 := and_i64_mask 3 (by decide) n
@[go_sem] theorem and_i64_15 (n : Int) : bits .and .i64 n (15 : Int) = n % 16 := and_i64_mask 4 (by decide) n
@[go_sem] theorem and_i64_31 (n : Int) : bits .and .i64 n (31 : Int) = n % 32 := and_i64_mask 5 (by decide) n
@[go_sem] theorem and_i64_63 (n : Int) : bits .and .i64 n (63 : Int) = n % 64 := and_i64_mask 6 (by decide) n

/-! Turning the sign -/
@[go_sem] theorem wrap_i64_U (x : BitVec 64) : IntKind.i64.wrap (U x) = S x := by rw [wrap_i64_B, B_U]
@[go_sem] theorem wrap_i32_U4 (x : BitVec 32) : IntKind.i32.wrap (U4 x) = S4 x := by rw [wrap_i32_B, B4_U4]
@[go_sem] theorem wrap_i64_S4 (x : BitVec 32) : IntKind.i64.wrap (S4 x) = S (x.signExtend 64) := by rw [wrap_i64_B, B_S4]
@[go_sem] theorem wrap_i64_S (x : BitVec 64) : IntKind.i64.wrap (S x) = S x := by rw [wrap_i64_B, B_S]

/-! Bit by bit -/
theorem U_back (x : BitVec 64) : IntKind.u64.wrap (x.toNat : Int) = U x := by rw [wrap_u64_B, B_nat]; simp
theorem U4_back (x : BitVec 32) : IntKind.u32.wrap (x.toNat : Int) = U4 x := by rw [wrap_u32_B, B4_nat]; simp
@[go_sem] theorem bits_and_u64 (a b : Int) : bits .and .u64 a b = U (B a &&& B b) := U_back _
@[go_sem] theorem bits_or_u64 (a b : Int) : bits .or .u64 a b = U (B a ||| B b) := U_back _
@[go_sem] theorem bits_xor_u64 (a b : Int) : bits .xor .u64 a b = U (B a ^^^ B b) := U_back _
@[go_sem] theorem bits_andNot_u64 (a b : Int) : bits .andNot .u64 a b = U (B a &&& ~~~ B b) := U_back _
@[go_sem] theorem bits_and_u32 (a b : Int) : bits .and .u32 a b = U4 (B4 a &&& B4 b) := U4_back _
@[go_sem] theorem bits_or_u32 (a b : Int) : bits .or .u32 a b = U4 (B4 a ||| B4 b) := U4_back _
@[go_sem] theorem bits_xor_u32 (a b : Int) : bits .xor .u32 a b = U4 (B4 a ^^^ B4 b) := U4_back _
@[go_sem] theorem bits_andNot_u32 (a b : Int) : bits .andNot .u32 a b = U4 (B4 a &&& ~~~ B4 b) := U4_back _
@[go_sem] theorem signed_u64 : IntKind.u64.signed = false := rfl
@[go_sem] theorem signed_u32 : IntKind.u32.signed = false := rfl
@[go_sem] theorem B_max : B IntKind.u64.max = BitVec.allOnes 64 := by decide +kernel
@[go_sem] theorem ones_xor (x : BitVec 64) : 18446744073709551615#64 ^^^ x = ~~~x := by
  have h : 18446744073709551615#64 = BitVec.allOnes 64 := by decide
  rw [h, BitVec.allOnes_xor]
@[go_sem] theorem ones_xor4 (x : BitVec 32) : 4294967295#32 ^^^ x = ~~~x := by
  have h : 4294967295#32 = BitVec.allOnes 32 := by decide
  rw [h, BitVec.allOnes_xor]
@[go_sem] theorem B4_max : B4 IntKind.u32.max = BitVec.allOnes 32 := by decide +kernel

/-! Shifts: the count a number of 64 bits without a sign, or a whole number that is not below 0 -/
theorem B_two_pow (k : Nat) (x : BitVec 64) : x * B (2 ^ min k 64) = x <<< k := by
  apply BitVec.eq_of_toNat_eq
  have h2 : B ((2 : Int) ^ min k 64) = BitVec.ofNat 64 (2 ^ min k 64) := by
    rw [← B_nat]; simp
  rw [h2, BitVec.toNat_mul, BitVec.toNat_ofNat, BitVec.toNat_shiftLeft, Nat.shiftLeft_eq]
  rcases Nat.le_total k 64 with h | h
  · rw [Nat.min_eq_left h]; simp [Nat.mul_mod]
  · rw [Nat.min_eq_right h]
    have e : 2 ^ k = 2 ^ 64 * 2 ^ (k - 64) := by rw [← Nat.pow_add]; congr 1; omega
    rw [e]
    have : x.toNat * (2 ^ 64 * 2 ^ (k - 64)) = 2 ^ 64 * (x.toNat * 2 ^ (k - 64)) := by
      rw [← Nat.mul_assoc, Nat.mul_comm x.toNat, Nat.mul_assoc]
    rw [this]; simp
theorem B4_two_pow (k : Nat) (x : BitVec 32) : x * B4 (2 ^ min k 32) = x <<< k := by
  apply BitVec.eq_of_toNat_eq
  have h2 : B4 ((2 : Int) ^ min k 32) = BitVec.ofNat 32 (2 ^ min k 32) := by
    rw [← B4_nat]; simp
  rw [h2, BitVec.toNat_mul, BitVec.toNat_ofNat, BitVec.toNat_shiftLeft, Nat.shiftLeft_eq]
  rcases Nat.le_total k 32 with h | h
  · rw [Nat.min_eq_left h]; simp [Nat.mul_mod]
  · rw [Nat.min_eq_right h]
    have e : 2 ^ k = 2 ^ 32 * 2 ^ (k - 32) := by rw [← Nat.pow_add]; congr 1; omega
    rw [e]
    have : x.toNat * (2 ^ 32 * 2 ^ (k - 32)) = 2 ^ 32 * (x.toNat * 2 ^ (k - 32)) := by
      rw [← Nat.mul_assoc, Nat.mul_comm x.toNat, Nat.mul_assoc]
    rw [this]; simp
theorem shl_u64 (a : Int) (k : Nat) (yk : IntKind) : Op.shift .shl .u64 a yk (k : Int) = pure (.int .u64 (U (B a <<< k))) := by
  rw [shift_shl_any _ _ _ _ (by omega), wrap_u64_B, B_mul]
  simp only [Int.toNat_natCast, IntKind.bits]
  rw [B_two_pow]
theorem shl_u32 (a : Int) (k : Nat) (yk : IntKind) : Op.shift .shl .u32 a yk (k : Int) = pure (.int .u32 (U4 (B4 a <<< k))) := by
  rw [shift_shl_any _ _ _ _ (by omega), wrap_u32_B, B4_mul]
  simp only [Int.toNat_natCast, IntKind.bits]
  rw [B4_two_pow]
theorem shl_i64 (a : Int) (k : Nat) (yk : IntKind) : Op.shift .shl .i64 a yk (k : Int) = pure (.int .i64 (S (B a <<< k))) := by
  rw [shift_shl_any _ _ _ _ (by omega), wrap_i64_B, B_mul]
  simp only [Int.toNat_natCast, IntKind.bits]
  rw [B_two_pow]
theorem shl_i32 (a : Int) (k : Nat) (yk : IntKind) : Op.shift .shl .i32 a yk (k : Int) = pure (.int .i32 (S4 (B4 a <<< k))) := by
  rw [shift_shl_any _ _ _ _ (by omega), wrap_i32_B, B4_mul]
  simp only [Int.toNat_natCast, IntKind.bits]
  rw [B4_two_pow]
theorem shr_nat (m : Nat) (W k : Nat) (hm : m < 2 ^ W) : m / 2 ^ min k W = m >>> k := by
  rw [Nat.shiftRight_eq_div_pow]
  rcases Nat.le_total k W with h | h
  · rw [Nat.min_eq_left h]
  · rw [Nat.min_eq_right h, Nat.div_eq_of_lt hm, Nat.div_eq_of_lt (Nat.lt_of_lt_of_le hm (Nat.pow_le_pow_right (by decide) h))]
theorem shr_u64 (x : BitVec 64) (k : Nat) (yk : IntKind) : Op.shift .shr .u64 (U x) yk (k : Int) = pure (.int .u64 (U (x >>> k))) := by
  rw [shift_shr_any _ _ _ _ (by omega)]
  have : U x / 2 ^ min ((k : Int)).toNat IntKind.u64.bits = U (x >>> k) := by
    unfold U
    simp only [Int.toNat_natCast, IntKind.bits, BitVec.toNat_ushiftRight]
    rw [← shr_nat x.toNat 64 k x.isLt]
    norm_cast
  rw [this]
theorem shr_u32 (x : BitVec 32) (k : Nat) (yk : IntKind) : Op.shift .shr .u32 (U4 x) yk (k : Int) = pure (.int .u32 (U4 (x >>> k))) := by
  rw [shift_shr_any _ _ _ _ (by omega)]
  have : U4 x / 2 ^ min ((k : Int)).toNat IntKind.u32.bits = U4 (x >>> k) := by
    unfold U4
    simp only [Int.toNat_natCast, IntKind.bits, BitVec.toNat_ushiftRight]
    rw [← shr_nat x.toNat 32 k x.isLt]
    norm_cast
  rw [this]
theorem sshr_int (m : Int) (W k : Nat) (h0 : -(2 ^ (W - 1) : Int) ≤ m) (h1 : m < 2 ^ (W - 1)) (hW : 0 < W) : m / 2 ^ min k W = m >>> k := by
  rw [Int.shiftRight_eq_div_pow]
  rcases Nat.le_total k W with h | h
  · rw [Nat.min_eq_left h]; norm_cast
  · rw [Nat.min_eq_right h]
    have hk : ((2 : Int) ^ (W - 1)) ≤ 2 ^ W := by
      have : (2 : Nat) ^ (W - 1) ≤ 2 ^ W := Nat.pow_le_pow_right (by decide) (by omega)
      exact_mod_cast this
    have hk2 : ((2 : Int) ^ (W - 1)) ≤ 2 ^ k := by
      have : (2 : Nat) ^ (W - 1) ≤ 2 ^ k := Nat.pow_le_pow_right (by decide) (by omega)
      exact_mod_cast this
    have e : (((2 ^ k : Nat)) : Int) = (2 : Int) ^ k := by norm_cast
    rw [e]
    have key : ∀ d : Int, (2 : Int) ^ (W - 1) ≤ d → m / d = if m < 0 then -1 else 0 := by
      intro d hd
      have hp : (0 : Int) < 2 ^ (W - 1) := Int.pow_pos (by decide)
      split
      · rename_i hm
        have : m / d = -1 := by
          rw [Int.ediv_eq_iff_of_pos (by omega)]
          omega
        exact this
      · exact Int.ediv_eq_zero_of_lt (by omega) (by omega)
    rw [key _ hk, key _ hk2]
theorem shr_i64 (x : BitVec 64) (k : Nat) (yk : IntKind) : Op.shift .shr .i64 (S x) yk (k : Int) = pure (.int .i64 (S (x.sshiftRight k))) := by
  rw [shift_shr_any _ _ _ _ (by omega)]
  have : S x / 2 ^ min ((k : Int)).toNat IntKind.i64.bits = S (x.sshiftRight k) := by
    have h0 := S_lo x
    have h1 := S_hi x
    simp only [Int.toNat_natCast, IntKind.bits]
    rw [sshr_int (S x) 64 k (by simpa using h0) (by simpa using h1) (by decide)]
    unfold S
    rw [BitVec.toInt_sshiftRight]
  rw [this]
theorem shr_i32 (x : BitVec 32) (k : Nat) (yk : IntKind) : Op.shift .shr .i32 (S4 x) yk (k : Int) = pure (.int .i32 (S4 (x.sshiftRight k))) := by
  rw [shift_shr_any _ _ _ _ (by omega)]
  have : S4 x / 2 ^ min ((k : Int)).toNat IntKind.i32.bits = S4 (x.sshiftRight k) := by
    have h0 := S4_lo x
    have h1 := S4_hi x
    simp only [Int.toNat_natCast, IntKind.bits]
    rw [sshr_int (S4 x) 32 k (by simpa using h0) (by simpa using h1) (by decide)]
    unfold S4
    rw [BitVec.toInt_sshiftRight]
  rw [this]
/-! the same as the walk writes them: a power of two, its exponent cut at the width, or not -/
@[go_sem] theorem shl_min (x : BitVec 64) (k : Nat) : x <<< min k 64 = x <<< k := by
  rcases Nat.le_total k 64 with h | h
  · rw [Nat.min_eq_left h]
  · rw [Nat.min_eq_right h, BitVec.shiftLeft_eq_zero h, BitVec.shiftLeft_eq_zero (Nat.le_refl 64)]
@[go_sem] theorem shr_min (x : BitVec 64) (k : Nat) : x >>> min k 64 = x >>> k := by
  rcases Nat.le_total k 64 with h | h
  · rw [Nat.min_eq_left h]
  · rw [Nat.min_eq_right h, BitVec.ushiftRight_eq_zero h, BitVec.ushiftRight_eq_zero (Nat.le_refl 64)]
@[go_sem] theorem shl_min4 (x : BitVec 32) (k : Nat) : x <<< min k 32 = x <<< k := by
  rcases Nat.le_total k 32 with h | h
  · rw [Nat.min_eq_left h]
  · rw [Nat.min_eq_right h, BitVec.shiftLeft_eq_zero h, BitVec.shiftLeft_eq_zero (Nat.le_refl 32)]
@[go_sem] theorem shr_min4 (x : BitVec 32) (k : Nat) : x >>> min k 32 = x >>> k := by
  rcases Nat.le_total k 32 with h | h
  · rw [Nat.min_eq_left h]
  · rw [Nat.min_eq_right h, BitVec.ushiftRight_eq_zero h, BitVec.ushiftRight_eq_zero (Nat.le_refl 32)]
@[go_sem] theorem div_pow_U (x : BitVec 64) (k : Nat) : U x / 2 ^ k = U (x >>> k) := by
  unfold U
  rw [BitVec.toNat_ushiftRight, Nat.shiftRight_eq_div_pow, Int.natCast_ediv, Int.natCast_pow]
  rfl
@[go_sem] theorem div_pow_U4 (x : BitVec 32) (k : Nat) : U4 x / 2 ^ k = U4 (x >>> k) := by
  unfold U4
  rw [BitVec.toNat_ushiftRight, Nat.shiftRight_eq_div_pow, Int.natCast_ediv, Int.natCast_pow]
  rfl
@[go_sem] theorem div_pow_S (x : BitVec 64) (k : Nat) : S x / 2 ^ k = S (x.sshiftRight k) := by
  unfold S
  rw [BitVec.toInt_sshiftRight, Int.shiftRight_eq_div_pow, Int.natCast_pow]
  rfl
@[go_sem] theorem div_pow_S4 (x : BitVec 32) (k : Nat) : S4 x / 2 ^ k = S4 (x.sshiftRight k) := by
  unfold S4
  rw [BitVec.toInt_sshiftRight, Int.shiftRight_eq_div_pow, Int.natCast_pow]
  rfl
theorem B_pow_mul (k : Nat) (x : BitVec 64) : x * B (2 ^ k) = x <<< k := by
  rcases Nat.le_total k 64 with h | h
  · have g := B_two_pow k x
    rwa [Nat.min_eq_left h] at g
  · have e : (2 : Int) ^ k = 2 ^ min 64 64 * 2 ^ (k - 64) := by
      rw [Nat.min_self, ← Int.pow_add]; congr 1; omega
    rw [e, B_mul, ← BitVec.mul_assoc, B_two_pow, BitVec.shiftLeft_eq_zero (Nat.le_refl 64), BitVec.zero_mul, BitVec.shiftLeft_eq_zero h]
@[go_sem] theorem B_pow (k : Nat) : B (2 ^ k) = 1#64 <<< k := by
  have h := B_pow_mul k 1#64
  rwa [BitVec.one_mul] at h
@[go_sem] theorem mul_one_shl (x : BitVec 64) (k : Nat) : x * 1#64 <<< k = x <<< k := by rw [← B_pow, B_pow_mul]
section
variable (yk : IntKind)
@[go_sem] theorem shl_u64_U (a : Int) (c : BitVec 64) : Op.shift .shl .u64 a yk (U c) = pure (.int .u64 (U (B a <<< c.toNat))) := shl_u64 a c.toNat yk
@[go_sem] theorem shr_u64_U (x : BitVec 64) (c : BitVec 64) : Op.shift .shr .u64 (U x) yk (U c) = pure (.int .u64 (U (x >>> c.toNat))) := shr_u64 x c.toNat yk
@[go_sem] theorem shr_i64_U (x : BitVec 64) (c : BitVec 64) : Op.shift .shr .i64 (S x) yk (U c) = pure (.int .i64 (S (x.sshiftRight c.toNat))) := shr_i64 x c.toNat yk
@[go_sem] theorem shl_i64_U (a : Int) (c : BitVec 64) : Op.shift .shl .i64 a yk (U c) = pure (.int .i64 (S (B a <<< c.toNat))) := shl_i64 a c.toNat yk
@[go_sem] theorem shl_i32_U (a : Int) (c : BitVec 64) : Op.shift .shl .i32 a yk (U c) = pure (.int .i32 (S4 (B4 a <<< c.toNat))) := shl_i32 a c.toNat yk
@[go_sem] theorem shl_u32_U (a : Int) (c : BitVec 64) : Op.shift .shl .u32 a yk (U c) = pure (.int .u32 (U4 (B4 a <<< c.toNat))) := shl_u32 a c.toNat yk
@[go_sem] theorem shr_u32_U (x : BitVec 32) (c : BitVec 64) : Op.shift .shr .u32 (U4 x) yk (U c) = pure (.int .u32 (U4 (x >>> c.toNat))) := shr_u32 x c.toNat yk
@[go_sem] theorem shr_i32_U (x : BitVec 32) (c : BitVec 64) : Op.shift .shr .i32 (S4 x) yk (U c) = pure (.int .i32 (S4 (x.sshiftRight c.toNat))) := shr_i32 x c.toNat yk
end

/-! A shift by a written count: the walk has reckoned the power of two -/
theorem mul_lit (k : Nat) (x : BitVec 64) : x * B (2 ^ k) = x <<< k := B_pow_mul k x
theorem div_lit_U (k : Nat) (x : BitVec 64) : U x / 2 ^ k = U (x >>> k) := div_pow_U x k
theorem div_lit_S (k : Nat) (x : BitVec 64) : S x / 2 ^ k = S (x.sshiftRight k) := div_pow_S x k
@[go_sem] theorem mul_p1 (x : BitVec 64) : x * 2#64 = x <<< 1 := mul_lit 1 x
@[go_sem] theorem mul_p2 (x : BitVec 64) : x * 4#64 = x <<< 2 := mul_lit 2 x
@[go_sem] theorem mul_p3 (x : BitVec 64) : x * 8#64 = x <<< 3 := mul_lit 3 x
@[go_sem] theorem mul_p4 (x : BitVec 64) : x * 16#64 = x <<< 4 := mul_lit 4 x
@[go_sem] theorem mul_p5 (x : BitVec 64) : x * 32#64 = x <<< 5 := mul_lit 5 x
@[go_sem] theorem mul_p6 (x : BitVec 64) : x * 64#64 = x <<< 6 := mul_lit 6 x
@[go_sem] theorem mul_p7 (x : BitVec 64) : x * 128#64 = x <<< 7 := mul_lit 7 x
@[go_sem] theorem mul_p8 (x : BitVec 64) : x * 256#64 = x <<< 8 := mul_lit 8 x
@[go_sem] theorem mul_p9 (x : BitVec 64) : x * 512#64 = x <<< 9 := mul_lit 9 x
@[go_sem] theorem mul_p10 (x : BitVec 64) : x * 1024#64 = x <<< 10 := mul_lit 10 x
@[go_sem] theorem mul_p11 (x : BitVec 64) : x * 2048#64 = x <<< 11 := mul_lit 11 x
@[go_sem] theorem mul_p12 (x : BitVec 64) : x * 4096#64 = x <<< 12 := mul_lit 12 x
@[go_sem] theorem mul_p13 (x : BitVec 64) : x * 8192#64 = x <<< 13 := mul_lit 13 x
@[go_sem] theorem mul_p14 (x : BitVec 64) : x * 16384#64 = x <<< 14 := mul_lit 14 x
@[go_sem] theorem mul_p15 (x : BitVec 64) : x * 32768#64 = x <<< 15 := mul_lit 15 x
@[go_sem] theorem mul_p16 (x : BitVec 64) : x * 65536#64 = x <<< 16 := mul_lit 16 x
@[go_sem] theorem mul_p17 (x : BitVec 64) : x * 131072#64 = x <<< 17 := mul_lit 17 x
@[go_sem] theorem mul_p18 (x : BitVec 64) : x * 262144#64 = x <<< 18 := mul_lit 18 x
@[go_sem] theorem mul_p19 (x : BitVec 64) : x * 524288#64 = x <<< 19 := mul_lit 19 x
@[go_sem] theorem mul_p20 (x : BitVec 64) : x * 1048576#64 = x <<< 20 := mul_lit 20 x
@[go_sem] theorem mul_p21 (x : BitVec 64) : x * 2097152#64 = x <<< 21 := mul_lit 21 x
@[go_sem] theorem mul_p22 (x : BitVec 64) : x * 4194304#64 = x <<< 22 := mul_lit 22 x
@[go_sem] theorem mul_p23 (x : BitVec 64) : x * 8388608#64 = x <<< 23 := mul_lit 23 x
@[go_sem] theorem mul_p24 (x : BitVec 64) : x * 16777216#64 = x <<< 24 := mul_lit 24 x
@[go_sem] theorem mul_p25 (x : BitVec 64) : x * 33554432#64 = x <<< 25 := mul_lit 25 x
@[go_sem] theorem mul_p26 (x : BitVec 64) : x * 67108864#64 = x <<< 26 := mul_lit 26 x
@[go_sem] theorem mul_p27 (x : BitVec 64) : x * 134217728#64 = x <<< 27 := mul_lit 27 x
@[go_sem] theorem mul_p28 (x : BitVec 64) : x * 268435456#64 = x <<< 28 := mul_lit 28 x
@[go_sem] theorem mul_p29 (x : BitVec 64) : x * 536870912#64 = x <<< 29 := mul_lit 29 x
@[go_sem] theorem mul_p30 (x : BitVec 64) : x * 1073741824#64 = x <<< 30 := mul_lit 30 x
@[go_sem] theorem mul_p31 (x : BitVec 64) : x * 2147483648#64 = x <<< 31 := mul_lit 31 x
@[go_sem] theorem mul_p32 (x : BitVec 64) : x * 4294967296#64 = x <<< 32 := mul_lit 32 x
@[go_sem] theorem mul_p33 (x : BitVec 64) : x * 8589934592#64 = x <<< 33 := mul_lit 33 x
@[go_sem] theorem mul_p34 (x : BitVec 64) : x * 17179869184#64 = x <<< 34 := mul_lit 34 x
@[go_sem] theorem mul_p35 (x : BitVec 64) : x * 34359738368#64 = x <<< 35 := mul_lit 35 x
@[go_sem] theorem mul_p36 (x : BitVec 64) : x * 68719476736#64 = x <<< 36 := mul_lit 36 x
@[go_sem] theorem mul_p37 (x : BitVec 64) : x * 137438953472#64 = x <<< 37 := mul_lit 37 x
@[go_sem] theorem mul_p38 (x : BitVec 64) : x * 274877906944#64 = x <<< 38 := mul_lit 38 x
@[go_sem] theorem mul_p39 (x : BitVec 64) : x * 549755813888#64 = x <<< 39 := mul_lit 39 x
@[go_sem] theorem mul_p40 (x : BitVec 64) : x * 1099511627776#64 = x <<< 40 := mul_lit 40 x
@[go_sem] theorem mul_p41 (x : BitVec 64) : x * 2199023255552#64 = x <<< 41 := mul_lit 41 x
@[go_sem] theorem mul_p42 (x : BitVec 64) : x * 4398046511104#64 = x <<< 42 := mul_lit 42 x
@[go_sem] theorem mul_p43 (x : BitVec 64) : x * 8796093022208#64 = x <<< 43 := mul_lit 43 x
@[go_sem] theorem mul_p44 (x : BitVec 64) : x * 17592186044416#64 = x <<< 44 := mul_lit 44 x
@[go_sem] theorem mul_p45 (x : BitVec 64) : x * 35184372088832#64 = x <<< 45 := mul_lit 45 x
@[go_sem] theorem mul_p46 (x : BitVec 64) : x * 70368744177664#64 = x <<< 46 := mul_lit 46 x
@[go_sem] theorem mul_p47 (x : BitVec 64) : x * 140737488355328#64 = x <<< 47 := mul_lit 47 x
@[go_sem] theorem mul_p48 (x : BitVec 64) : x * 281474976710656#64 = x <<< 48 := mul_lit 48 x
@[go_sem] theorem mul_p49 (x : BitVec 64) : x * 562949953421312#64 = x <<< 49 := mul_lit 49 x
@[go_sem] theorem mul_p50 (x : BitVec 64) : x * 1125899906842624#64 = x <<< 50 := mul_lit 50 x
@[go_sem] theorem mul_p51 (x : BitVec 64) : x * 2251799813685248#64 = x <<< 51 := mul_lit 51 x
@[go_sem] theorem mul_p52 (x : BitVec 64) : x * 4503599627370496#64 = x <<< 52 := mul_lit 52 x
@[go_sem] theorem mul_p53 (x : BitVec 64) : x * 9007199254740992#64 = x <<< 53 := mul_lit 53 x
@[go_sem] theorem mul_p54 (x : BitVec 64) : x * 18014398509481984#64 = x <<< 54 := mul_lit 54 x
@[go_sem] theorem mul_p55 (x : BitVec 64) : x * 36028797018963968#64 = x <<< 55 := mul_lit 55 x
@[go_sem] theorem mul_p56 (x : BitVec 64) : x * 72057594037927936#64 = x <<< 56 := mul_lit 56 x
@[go_sem] theorem mul_p57 (x : BitVec 64) : x * 144115188075855872#64 = x <<< 57 := mul_lit 57 x
@[go_sem] theorem mul_p58 (x : BitVec 64) : x * 288230376151711744#64 = x <<< 58 := mul_lit 58 x
@[go_sem] theorem mul_p59 (x : BitVec 64) : x * 576460752303423488#64 = x <<< 59 := mul_lit 59 x
@[go_sem] theorem mul_p60 (x : BitVec 64) : x * 1152921504606846976#64 = x <<< 60 := mul_lit 60 x
@[go_sem] theorem mul_p61 (x : BitVec 64) : x * 2305843009213693952#64 = x <<< 61 := mul_lit 61 x
@[go_sem] theorem mul_p62 (x : BitVec 64) : x * 4611686018427387904#64 = x <<< 62 := mul_lit 62 x
@[go_sem] theorem mul_p63 (x : BitVec 64) : x * 9223372036854775808#64 = x <<< 63 := mul_lit 63 x
@[go_sem] theorem div_p1 (x : BitVec 64) : U x / (2 : Int) = U (x >>> 1) := div_lit_U 1 x
@[go_sem] theorem div_p2 (x : BitVec 64) : U x / (4 : Int) = U (x >>> 2) := div_lit_U 2 x
@[go_sem] theorem div_p3 (x : BitVec 64) : U x / (8 : Int) = U (x >>> 3) := div_lit_U 3 x
@[go_sem] theorem div_p4 (x : BitVec 64) : U x / (16 : Int) = U (x >>> 4) := div_lit_U 4 x
@[go_sem] theorem div_p5 (x : BitVec 64) : U x / (32 : Int) = U (x >>> 5) := div_lit_U 5 x
@[go_sem] theorem div_p6 (x : BitVec 64) : U x / (64 : Int) = U (x >>> 6) := div_lit_U 6 x
@[go_sem] theorem div_p7 (x : BitVec 64) : U x / (128 : Int) = U (x >>> 7) := div_lit_U 7 x
@[go_sem] theorem div_p8 (x : BitVec 64) : U x / (256 : Int) = U (x >>> 8) := div_lit_U 8 x
@[go_sem] theorem div_p9 (x : BitVec 64) : U x / (512 : Int) = U (x >>> 9) := div_lit_U 9 x
@[go_sem] theorem div_p10 (x : BitVec 64) : U x / (1024 : Int) = U (x >>> 10) := div_lit_U 10 x
@[go_sem] theorem div_p11 (x : BitVec 64) : U x / (2048 : Int) = U (x >>> 11) := div_lit_U 11 x
@[go_sem] theorem div_p12 (x : BitVec 64) : U x / (4096 : Int) = U (x >>> 12) := div_lit_U 12 x
@[go_sem] theorem div_p13 (x : BitVec 64) : U x / (8192 : Int) = U (x >>> 13) := div_lit_U 13 x
@[go_sem] theorem div_p14 (x : BitVec 64) : U x / (16384 : Int) = U (x >>> 14) := div_lit_U 14 x
@[go_sem] theorem div_p15 (x : BitVec 64) : U x / (32768 : Int) = U (x >>> 15) := div_lit_U 15 x
@[go_sem] theorem div_p16 (x : BitVec 64) : U x / (65536 : Int) = U (x >>> 16) := div_lit_U 16 x
@[go_sem] theorem div_p17 (x : BitVec 64) : U x / (131072 : Int) = U (x >>> 17) := div_lit_U 17 x
@[go_sem] theorem div_p18 (x : BitVec 64) : U x / (262144 : Int) = U (x >>> 18) := div_lit_U 18 x
@[go_sem] theorem div_p19 (x : BitVec 64) : U x / (524288 : Int) = U (x >>> 19) := div_lit_U 19 x
@[go_sem] theorem div_p20 (x : BitVec 64) : U x / (1048576 : Int) = U (x >>> 20) := div_lit_U 20 x
@[go_sem] theorem div_p21 (x : BitVec 64) : U x / (2097152 : Int) = U (x >>> 21) := div_lit_U 21 x
@[go_sem] theorem div_p22 (x : BitVec 64) : U x / (4194304 : Int) = U (x >>> 22) := div_lit_U 22 x
@[go_sem] theorem div_p23 (x : BitVec 64) : U x / (8388608 : Int) = U (x >>> 23) := div_lit_U 23 x
@[go_sem] theorem div_p24 (x : BitVec 64) : U x / (16777216 : Int) = U (x >>> 24) := div_lit_U 24 x
@[go_sem] theorem div_p25 (x : BitVec 64) : U x / (33554432 : Int) = U (x >>> 25) := div_lit_U 25 x
@[go_sem] theorem div_p26 (x : BitVec 64) : U x / (67108864 : Int) = U (x >>> 26) := div_lit_U 26 x
@[go_sem] theorem div_p27 (x : BitVec 64) : U x / (134217728 : Int) = U (x >>> 27) := div_lit_U 27 x
@[go_sem] theorem div_p28 (x : BitVec 64) : U x / (268435456 : Int) = U (x >>> 28) := div_lit_U 28 x
@[go_sem] theorem div_p29 (x : BitVec 64) : U x / (536870912 : Int) = U (x >>> 29) := div_lit_U 29 x
@[go_sem] theorem div_p30 (x : BitVec 64) : U x / (1073741824 : Int) = U (x >>> 30) := div_lit_U 30 x
@[go_sem] theorem div_p31 (x : BitVec 64) : U x / (2147483648 : Int) = U (x >>> 31) := div_lit_U 31 x
@[go_sem] theorem div_p32 (x : BitVec 64) : U x / (4294967296 : Int) = U (x >>> 32) := div_lit_U 32 x
@[go_sem] theorem div_p33 (x : BitVec 64) : U x / (8589934592 : Int) = U (x >>> 33) := div_lit_U 33 x
@[go_sem] theorem div_p34 (x : BitVec 64) : U x / (17179869184 : Int) = U (x >>> 34) := div_lit_U 34 x
@[go_sem] theorem div_p35 (x : BitVec 64) : U x / (34359738368 : Int) = U (x >>> 35) := div_lit_U 35 x
@[go_sem] theorem div_p36 (x : BitVec 64) : U x / (68719476736 : Int) = U (x >>> 36) := div_lit_U 36 x
@[go_sem] theorem div_p37 (x : BitVec 64) : U x / (137438953472 : Int) = U (x >>> 37) := div_lit_U 37 x
@[go_sem] theorem div_p38 (x : BitVec 64) : U x / (274877906944 : Int) = U (x >>> 38) := div_lit_U 38 x
@[go_sem] theorem div_p39 (x : BitVec 64) : U x / (549755813888 : Int) = U (x >>> 39) := div_lit_U 39 x
@[go_sem] theorem div_p40 (x : BitVec 64) : U x / (1099511627776 : Int) = U (x >>> 40) := div_lit_U 40 x
@[go_sem] theorem div_p41 (x : BitVec 64) : U x / (2199023255552 : Int) = U (x >>> 41) := div_lit_U 41 x
@[go_sem] theorem div_p42 (x : BitVec 64) : U x / (4398046511104 : Int) = U (x >>> 42) := div_lit_U 42 x
@[go_sem] theorem div_p43 (x : BitVec 64) : U x / (8796093022208 : Int) = U (x >>> 43) := div_lit_U 43 x
@[go_sem] theorem div_p44 (x : BitVec 64) : U x / (17592186044416 : Int) = U (x >>> 44) := div_lit_U 44 x
@[go_sem] theorem div_p45 (x : BitVec 64) : U x / (35184372088832 : Int) = U (x >>> 45) := div_lit_U 45 x
@[go_sem] theorem div_p46 (x : BitVec 64) : U x / (70368744177664 : Int) = U (x >>> 46) := div_lit_U 46 x
@[go_sem] theorem div_p47 (x : BitVec 64) : U x / (140737488355328 : Int) = U (x >>> 47) := div_lit_U 47 x
@[go_sem] theorem div_p48 (x : BitVec 64) : U x / (281474976710656 : Int) = U (x >>> 48) := div_lit_U 48 x
@[go_sem] theorem div_p49 (x : BitVec 64) : U x / (562949953421312 : Int) = U (x >>> 49) := div_lit_U 49 x
@[go_sem] theorem div_p50 (x : BitVec 64) : U x / (1125899906842624 : Int) = U (x >>> 50) := div_lit_U 50 x
@[go_sem] theorem div_p51 (x : BitVec 64) : U x / (2251799813685248 : Int) = U (x >>> 51) := div_lit_U 51 x
@[go_sem] theorem div_p52 (x : BitVec 64) : U x / (4503599627370496 : Int) = U (x >>> 52) := div_lit_U 52 x
@[go_sem] theorem div_p53 (x : BitVec 64) : U x / (9007199254740992 : Int) = U (x >>> 53) := div_lit_U 53 x
@[go_sem] theorem div_p54 (x : BitVec 64) : U x / (18014398509481984 : Int) = U (x >>> 54) := div_lit_U 54 x
@[go_sem] theorem div_p55 (x : BitVec 64) : U x / (36028797018963968 : Int) = U (x >>> 55) := div_lit_U 55 x
@[go_sem] theorem div_p56 (x : BitVec 64) : U x / (72057594037927936 : Int) = U (x >>> 56) := div_lit_U 56 x
@[go_sem] theorem div_p57 (x : BitVec 64) : U x / (144115188075855872 : Int) = U (x >>> 57) := div_lit_U 57 x
@[go_sem] theorem div_p58 (x : BitVec 64) : U x / (288230376151711744 : Int) = U (x >>> 58) := div_lit_U 58 x
@[go_sem] theorem div_p59 (x : BitVec 64) : U x / (576460752303423488 : Int) = U (x >>> 59) := div_lit_U 59 x
@[go_sem] theorem div_p60 (x : BitVec 64) : U x / (1152921504606846976 : Int) = U (x >>> 60) := div_lit_U 60 x
@[go_sem] theorem div_p61 (x : BitVec 64) : U x / (2305843009213693952 : Int) = U (x >>> 61) := div_lit_U 61 x
@[go_sem] theorem div_p62 (x : BitVec 64) : U x / (4611686018427387904 : Int) = U (x >>> 62) := div_lit_U 62 x
@[go_sem] theorem div_p63 (x : BitVec 64) : U x / (9223372036854775808 : Int) = U (x >>> 63) := div_lit_U 63 x
@[go_sem] theorem sdiv_p1 (x : BitVec 64) : S x / (2 : Int) = S (x.sshiftRight 1) := div_lit_S 1 x
@[go_sem] theorem sdiv_p2 (x : BitVec 64) : S x / (4 : Int) = S (x.sshiftRight 2) := div_lit_S 2 x
@[go_sem] theorem sdiv_p3 (x : BitVec 64) : S x / (8 : Int) = S (x.sshiftRight 3) := div_lit_S 3 x
@[go_sem] theorem sdiv_p4 (x : BitVec 64) : S x / (16 : Int) = S (x.sshiftRight 4) := div_lit_S 4 x
@[go_sem] theorem sdiv_p5 (x : BitVec 64) : S x / (32 : Int) = S (x.sshiftRight 5) := div_lit_S 5 x
@[go_sem] theorem sdiv_p6 (x : BitVec 64) : S x / (64 : Int) = S (x.sshiftRight 6) := div_lit_S 6 x
@[go_sem] theorem sdiv_p7 (x : BitVec 64) : S x / (128 : Int) = S (x.sshiftRight 7) := div_lit_S 7 x
@[go_sem] theorem sdiv_p8 (x : BitVec 64) : S x / (256 : Int) = S (x.sshiftRight 8) := div_lit_S 8 x
@[go_sem] theorem sdiv_p9 (x : BitVec 64) : S x / (512 : Int) = S (x.sshiftRight 9) := div_lit_S 9 x
@[go_sem] theorem sdiv_p10 (x : BitVec 64) : S x / (1024 : Int) = S (x.sshiftRight 10) := div_lit_S 10 x
@[go_sem] theorem sdiv_p11 (x : BitVec 64) : S x / (2048 : Int) = S (x.sshiftRight 11) := div_lit_S 11 x
@[go_sem] theorem sdiv_p12 (x : BitVec 64) : S x / (4096 : Int) = S (x.sshiftRight 12) := div_lit_S 12 x
@[go_sem] theorem sdiv_p13 (x : BitVec 64) : S x / (8192 : Int) = S (x.sshiftRight 13) := div_lit_S 13 x
@[go_sem] theorem sdiv_p14 (x : BitVec 64) : S x / (16384 : Int) = S (x.sshiftRight 14) := div_lit_S 14 x
@[go_sem] theorem sdiv_p15 (x : BitVec 64) : S x / (32768 : Int) = S (x.sshiftRight 15) := div_lit_S 15 x
@[go_sem] theorem sdiv_p16 (x : BitVec 64) : S x / (65536 : Int) = S (x.sshiftRight 16) := div_lit_S 16 x
@[go_sem] theorem sdiv_p17 (x : BitVec 64) : S x / (131072 : Int) = S (x.sshiftRight 17) := div_lit_S 17 x
@[go_sem] theorem sdiv_p18 (x : BitVec 64) : S x / (262144 : Int) = S (x.sshiftRight 18) := div_lit_S 18 x
@[go_sem] theorem sdiv_p19 (x : BitVec 64) : S x / (524288 : Int) = S (x.sshiftRight 19) := div_lit_S 19 x
@[go_sem] theorem sdiv_p20 (x : BitVec 64) : S x / (1048576 : Int) = S (x.sshiftRight 20) := div_lit_S 20 x
@[go_sem] theorem sdiv_p21 (x : BitVec 64) : S x / (2097152 : Int) = S (x.sshiftRight 21) := div_lit_S 21 x
@[go_sem] theorem sdiv_p22 (x : BitVec 64) : S x / (4194304 : Int) = S (x.sshiftRight 22) := div_lit_S 22 x
@[go_sem] theorem sdiv_p23 (x : BitVec 64) : S x / (8388608 : Int) = S (x.sshiftRight 23) := div_lit_S 23 x
@[go_sem] theorem sdiv_p24 (x : BitVec 64) : S x / (16777216 : Int) = S (x.sshiftRight 24) := div_lit_S 24 x
@[go_sem] theorem sdiv_p25 (x : BitVec 64) : S x / (33554432 : Int) = S (x.sshiftRight 25) := div_lit_S 25 x
@[go_sem] theorem sdiv_p26 (x : BitVec 64) : S x / (67108864 : Int) = S (x.sshiftRight 26) := div_lit_S 26 x
@[go_sem] theorem sdiv_p27 (x : BitVec 64) : S x / (134217728 : Int) = S (x.sshiftRight 27) := div_lit_S 27 x
@[go_sem] theorem sdiv_p28 (x : BitVec 64) : S x / (268435456 : Int) = S (x.sshiftRight 28) := div_lit_S 28 x
@[go_sem] theorem sdiv_p29 (x : BitVec 64) : S x / (536870912 : Int) = S (x.sshiftRight 29) := div_lit_S 29 x
@[go_sem] theorem sdiv_p30 (x : BitVec 64) : S x / (1073741824 : Int) = S (x.sshiftRight 30) := div_lit_S 30 x
@[go_sem] theorem sdiv_p31 (x : BitVec 64) : S x / (2147483648 : Int) = S (x.sshiftRight 31) := div_lit_S 31 x
@[go_sem] theorem sdiv_p32 (x : BitVec 64) : S x / (4294967296 : Int) = S (x.sshiftRight 32) := div_lit_S 32 x
@[go_sem] theorem sdiv_p33 (x : BitVec 64) : S x / (8589934592 : Int) = S (x.sshiftRight 33) := div_lit_S 33 x
@[go_sem] theorem sdiv_p34 (x : BitVec 64) : S x / (17179869184 : Int) = S (x.sshiftRight 34) := div_lit_S 34 x
@[go_sem] theorem sdiv_p35 (x : BitVec 64) : S x / (34359738368 : Int) = S (x.sshiftRight 35) := div_lit_S 35 x
@[go_sem] theorem sdiv_p36 (x : BitVec 64) : S x / (68719476736 : Int) = S (x.sshiftRight 36) := div_lit_S 36 x
@[go_sem] theorem sdiv_p37 (x : BitVec 64) : S x / (137438953472 : Int) = S (x.sshiftRight 37) := div_lit_S 37 x
@[go_sem] theorem sdiv_p38 (x : BitVec 64) : S x / (274877906944 : Int) = S (x.sshiftRight 38) := div_lit_S 38 x
@[go_sem] theorem sdiv_p39 (x : BitVec 64) : S x / (549755813888 : Int) = S (x.sshiftRight 39) := div_lit_S 39 x
@[go_sem] theorem sdiv_p40 (x : BitVec 64) : S x / (1099511627776 : Int) = S (x.sshiftRight 40) := div_lit_S 40 x
@[go_sem] theorem sdiv_p41 (x : BitVec 64) : S x / (2199023255552 : Int) = S (x.sshiftRight 41) := div_lit_S 41 x
@[go_sem] theorem sdiv_p42 (x : BitVec 64) : S x / (4398046511104 : Int) = S (x.sshiftRight 42) := div_lit_S 42 x
@[go_sem] theorem sdiv_p43 (x : BitVec 64) : S x / (8796093022208 : Int) = S (x.sshiftRight 43) := div_lit_S 43 x
@[go_sem] theorem sdiv_p44 (x : BitVec 64) : S x / (17592186044416 : Int) = S (x.sshiftRight 44) := div_lit_S 44 x
@[go_sem] theorem sdiv_p45 (x : BitVec 64) : S x / (35184372088832 : Int) = S (x.sshiftRight 45) := div_lit_S 45 x
@[go_sem] theorem sdiv_p46 (x : BitVec 64) : S x / (70368744177664 : Int) = S (x.sshiftRight 46) := div_lit_S 46 x
@[go_sem] theorem sdiv_p47 (x : BitVec 64) : S x / (140737488355328 : Int) = S (x.sshiftRight 47) := div_lit_S 47 x
@[go_sem] theorem sdiv_p48 (x : BitVec 64) : S x / (281474976710656 : Int) = S (x.sshiftRight 48) := div_lit_S 48 x
@[go_sem] theorem sdiv_p49 (x : BitVec 64) : S x / (562949953421312 : Int) = S (x.sshiftRight 49) := div_lit_S 49 x
@[go_sem] theorem sdiv_p50 (x : BitVec 64) : S x / (1125899906842624 : Int) = S (x.sshiftRight 50) := div_lit_S 50 x
@[go_sem] theorem sdiv_p51 (x : BitVec 64) : S x / (2251799813685248 : Int) = S (x.sshiftRight 51) := div_lit_S 51 x
@[go_sem] theorem sdiv_p52 (x : BitVec 64) : S x / (4503599627370496 : Int) = S (x.sshiftRight 52) := div_lit_S 52 x
@[go_sem] theorem sdiv_p53 (x : BitVec 64) : S x / (9007199254740992 : Int) = S (x.sshiftRight 53) := div_lit_S 53 x
@[go_sem] theorem sdiv_p54 (x : BitVec 64) : S x / (18014398509481984 : Int) = S (x.sshiftRight 54) := div_lit_S 54 x
@[go_sem] theorem sdiv_p55 (x : BitVec 64) : S x / (36028797018963968 : Int) = S (x.sshiftRight 55) := div_lit_S 55 x
@[go_sem] theorem sdiv_p56 (x : BitVec 64) : S x / (72057594037927936 : Int) = S (x.sshiftRight 56) := div_lit_S 56 x
@[go_sem] theorem sdiv_p57 (x : BitVec 64) : S x / (144115188075855872 : Int) = S (x.sshiftRight 57) := div_lit_S 57 x
@[go_sem] theorem sdiv_p58 (x : BitVec 64) : S x / (288230376151711744 : Int) = S (x.sshiftRight 58) := div_lit_S 58 x
@[go_sem] theorem sdiv_p59 (x : BitVec 64) : S x / (576460752303423488 : Int) = S (x.sshiftRight 59) := div_lit_S 59 x
@[go_sem] theorem sdiv_p60 (x : BitVec 64) : S x / (1152921504606846976 : Int) = S (x.sshiftRight 60) := div_lit_S 60 x
@[go_sem] theorem sdiv_p61 (x : BitVec 64) : S x / (2305843009213693952 : Int) = S (x.sshiftRight 61) := div_lit_S 61 x
@[go_sem] theorem sdiv_p62 (x : BitVec 64) : S x / (4611686018427387904 : Int) = S (x.sshiftRight 62) := div_lit_S 62 x
@[go_sem] theorem sdiv_p63 (x : BitVec 64) : S x / (9223372036854775808 : Int) = S (x.sshiftRight 63) := div_lit_S 63 x

/-- A fact is laid where the walk does not see it. -/
theorem hide {p : Prop} (h : p) : Hid p := h

/-! Quotient and rest -/
@[go_sem] theorem wrap_tdiv_U (x y : BitVec 64) : IntKind.u64.wrap ((U x).tdiv (U y)) = U (x / y) := by
  rw [wrap_u64_B]; unfold U B
  rw [Int.tdiv_eq_ediv_of_nonneg (by omega), ← Int.natCast_ediv, BitVec.ofInt_natCast, ← BitVec.toNat_udiv, BitVec.ofNat_toNat, BitVec.setWidth_eq]
@[go_sem] theorem B_tdiv_U (x y : BitVec 64) : B ((U x).tdiv (U y)) = x / y := by
  unfold U B
  rw [Int.tdiv_eq_ediv_of_nonneg (by omega), ← Int.natCast_ediv, BitVec.ofInt_natCast, ← BitVec.toNat_udiv, BitVec.ofNat_toNat, BitVec.setWidth_eq]
@[go_sem] theorem B4_tdiv_U4 (x y : BitVec 32) : B4 ((U4 x).tdiv (U4 y)) = x / y := by
  unfold U4 B4
  rw [Int.tdiv_eq_ediv_of_nonneg (by omega), ← Int.natCast_ediv, BitVec.ofInt_natCast, ← BitVec.toNat_udiv, BitVec.ofNat_toNat, BitVec.setWidth_eq]
@[go_sem] theorem tmod_U (x y : BitVec 64) : (U x).tmod (U y) = U (x % y) := by
  unfold U
  rw [Int.tmod_eq_emod_of_nonneg (by omega), ← Int.natCast_emod, BitVec.toNat_umod]
@[go_sem] theorem tmod_U4 (x y : BitVec 32) : (U4 x).tmod (U4 y) = U4 (x % y) := by
  unfold U4
  rw [Int.tmod_eq_emod_of_nonneg (by omega), ← Int.natCast_emod, BitVec.toNat_umod]
@[go_sem] theorem tdiv_U (x y : BitVec 64) : (U x).tdiv (U y) = U (x / y) := by
  unfold U
  rw [Int.tdiv_eq_ediv_of_nonneg (by omega), ← Int.natCast_ediv, BitVec.toNat_udiv]
theorem U_ofNat (n : Nat) (h : n < 18446744073709551616) : U (BitVec.ofNat 64 n) = (n : Int) := by
  unfold U; rw [BitVec.toNat_ofNat, Nat.mod_eq_of_lt h]
@[go_sem] theorem tdiv_U_lit (x : BitVec 64) (n : Nat) (h : n < 18446744073709551616) : (U x).tdiv (no_index (OfNat.ofNat n)) = U (x / BitVec.ofNat 64 n) := by
  rw [← tdiv_U, U_ofNat n h]; rfl
@[go_sem] theorem tmod_U_lit (x : BitVec 64) (n : Nat) (h : n < 18446744073709551616) : (U x).tmod (no_index (OfNat.ofNat n)) = U (x % BitVec.ofNat 64 n) := by
  rw [← tmod_U, U_ofNat n h]; rfl
@[go_sem] theorem wrap_tdiv_S (x y : BitVec 64) : IntKind.i64.wrap ((S x).tdiv (S y)) = S (x.sdiv y) := by
  rw [wrap_i64_B]; unfold S B
  rw [BitVec.toInt_ofInt, BitVec.toInt_sdiv]
@[go_sem] theorem wrap_tdiv_S4 (x y : BitVec 32) : IntKind.i32.wrap ((S4 x).tdiv (S4 y)) = S4 (x.sdiv y) := by
  rw [wrap_i32_B]; unfold S4 B4
  rw [BitVec.toInt_ofInt, BitVec.toInt_sdiv]
@[go_sem] theorem tmod_S (x y : BitVec 64) : (S x).tmod (S y) = S (x.srem y) := by unfold S; rw [BitVec.toInt_srem]
@[go_sem] theorem tmod_S4 (x y : BitVec 32) : (S4 x).tmod (S4 y) = S4 (x.srem y) := by unfold S4; rw [BitVec.toInt_srem]

/-! Comparisons, said of the bits -/
theorem U_inj {x y : BitVec 64} : U x = U y ↔ x = y := ⟨fun h => by have := congrArg B h; rwa [B_U, B_U] at this, fun h => by rw [h]⟩
theorem S_inj {x y : BitVec 64} : S x = S y ↔ x = y := ⟨fun h => by have := congrArg B h; rwa [B_S, B_S] at this, fun h => by rw [h]⟩
theorem U4_inj {x y : BitVec 32} : U4 x = U4 y ↔ x = y := ⟨fun h => by have := congrArg B4 h; rwa [B4_U4, B4_U4] at this, fun h => by rw [h]⟩
theorem S4_inj {x y : BitVec 32} : S4 x = S4 y ↔ x = y := ⟨fun h => by have := congrArg B4 h; rwa [B4_S4, B4_S4] at this, fun h => by rw [h]⟩
theorem U_lt {x y : BitVec 64} : U x < U y ↔ x < y := by unfold U; rw [BitVec.lt_def]; omega
theorem U_le {x y : BitVec 64} : U x ≤ U y ↔ x ≤ y := by unfold U; rw [BitVec.le_def]; omega
theorem U_beq (x y : BitVec 64) : (U x == U y) = (x == y) := by rw [Bool.eq_iff_iff]; simp [U_inj]
theorem U_bne (x y : BitVec 64) : (U x != U y) = (x != y) := by unfold bne; rw [U_beq]
theorem U_zero {x : BitVec 64} : U x = 0 ↔ x = 0#64 := U_inj (y := 0#64)
theorem S_zero {x : BitVec 64} : S x = 0 ↔ x = 0#64 := S_inj (y := 0#64)
theorem U4_zero {x : BitVec 32} : U4 x = 0 ↔ x = 0#32 := U4_inj (y := 0#32)
theorem S4_zero {x : BitVec 32} : S4 x = 0 ↔ x = 0#32 := S4_inj (y := 0#32)
theorem S_mone {x : BitVec 64} : S x = -1 ↔ x = -1#64 := S_inj (y := -1#64)
theorem S4_mone {x : BitVec 32} : S4 x = -1 ↔ x = -1#32 := S4_inj (y := -1#32)
end Go.Proofs.Ytpflodhnniochaa
