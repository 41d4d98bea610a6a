/-
  Words: the numbers of 64 and 32 bits as bit vectors, and how the walk writes what Go's operations make of them.
  Nothing of the program stands here.
-/
import Derived.WalkKit
import Derived.WalkSpells
import Derived.WalkLawsBesides
namespace Go.Proofs.Ytkmdahokomnjcaa
open Go.RowKit

/-- A number without a sign, of 64 bits. -/
def U (x : BitVec 64) : Int := (x.toNat : Int)
/-- The same bits, with a sign. -/
def S (x : BitVec 64) : Int := x.toInt
def U4 (x : BitVec 32) : Int := (x.toNat : Int)
def S4 (x : BitVec 32) : Int := x.toInt
/-- The 64 bits of a whole number. -/
def B (n : Int) : BitVec 64 := BitVec.ofInt 64 n
def B4 (n : Int) : BitVec 32 := BitVec.ofInt 32 n

theorem U_lo (x : BitVec 64) : 0 ≤ U x := by unfold U; omega
theorem U_hi (x : BitVec 64) : U x < 18446744073709551616 := by unfold U; have := x.isLt; omega
theorem U4_lo (x : BitVec 32) : 0 ≤ U4 x := by unfold U4; omega
theorem U4_hi (x : BitVec 32) : U4 x < 4294967296 := by unfold U4; have := x.isLt; omega
theorem S_lo (x : BitVec 64) : -9223372036854775808 ≤ S x := by unfold S; have := BitVec.le_toInt x; simpa using this
theorem S_hi (x : BitVec 64) : S x < 9223372036854775808 := by unfold S; have := BitVec.toInt_lt (x := x); simpa using this
theorem S4_lo (x : BitVec 32) : -2147483648 ≤ S4 x := by unfold S4; have := BitVec.le_toInt x; simpa using this
theorem S4_hi (x : BitVec 32) : S4 x < 2147483648 := by unfold S4; have := BitVec.toInt_lt (x := x); simpa using this

@[go_sem] theorem B_U (x : BitVec 64) : B (U x) = x := by unfold B U; simp
@[go_sem] theorem B_S (x : BitVec 64) : B (S x) = x := by unfold B S; simp
@[go_sem] theorem B4_U4 (x : BitVec 32) : B4 (U4 x) = x := by unfold B4 U4; simp
@[go_sem] theorem B4_S4 (x : BitVec 32) : B4 (S4 x) = x := by unfold B4 S4; simp
@[go_sem] theorem B_add (a b : Int) : B (a + b) = B a + B b := by unfold B; rw [BitVec.ofInt_add]
@[go_sem] theorem B_mul (a b : Int) : B (a * b) = B a * B b := by unfold B; rw [BitVec.ofInt_mul]
@[go_sem] theorem B_neg (a : Int) : B (-a) = -B a := by unfold B; rw [BitVec.ofInt_neg]
@[go_sem] theorem B_sub (a b : Int) : B (a - b) = B a - B b := by rw [Int.sub_eq_add_neg, B_add, B_neg, BitVec.sub_eq_add_neg]
@[go_sem] theorem B_nat (n : Nat) : B (n : Int) = BitVec.ofNat 64 n := by unfold B; simp
@[go_sem] theorem B_lit (n : Nat) : B (no_index (OfNat.ofNat n)) = BitVec.ofNat 64 n := B_nat n
@[go_sem] theorem B4_add (a b : Int) : B4 (a + b) = B4 a + B4 b := by unfold B4; rw [BitVec.ofInt_add]
@[go_sem] theorem B4_mul (a b : Int) : B4 (a * b) = B4 a * B4 b := by unfold B4; rw [BitVec.ofInt_mul]
@[go_sem] theorem B4_neg (a : Int) : B4 (-a) = -B4 a := by unfold B4; rw [BitVec.ofInt_neg]
@[go_sem] theorem B4_sub (a b : Int) : B4 (a - b) = B4 a - B4 b := by rw [Int.sub_eq_add_neg, B4_add, B4_neg, BitVec.sub_eq_add_neg]
@[go_sem] theorem B4_nat (n : Nat) : B4 (n : Int) = BitVec.ofNat 32 n := by unfold B4; simp
@[go_sem] theorem B4_lit (n : Nat) : B4 (no_index (OfNat.ofNat n)) = BitVec.ofNat 32 n := B4_nat n
@[go_sem] theorem B4_U (x : BitVec 64) : B4 (U x) = x.setWidth 32 := by unfold B4 U; rw [BitVec.ofInt_natCast]; rfl
@[go_sem] theorem B4_S (x : BitVec 64) : B4 (S x) = x.setWidth 32 := by
  apply BitVec.eq_of_toInt_eq
  unfold B4 S
  rw [BitVec.toInt_ofInt, BitVec.toInt_setWidth, BitVec.toInt_eq_toNat_bmod]
  rw [Int.bmod_bmod_of_dvd (by decide)]
@[go_sem] theorem B_U4 (x : BitVec 32) : B (U4 x) = x.setWidth 64 := by unfold B U4; rw [BitVec.ofInt_natCast]; apply BitVec.eq_of_toNat_eq; simp
@[go_sem] theorem B_S4 (x : BitVec 32) : B (S4 x) = x.signExtend 64 := by unfold B S4 BitVec.signExtend; rfl

theorem wrap_u64_B (n : Int) : IntKind.u64.wrap n = U (B n) := by
  rw [IntKind.wrap_u64]; unfold U B
  rw [BitVec.toNat_ofInt]
  have : (0 : Int) ≤ n % (18446744073709551616 : Int) := by omega
  omega
theorem wrap_u32_B (n : Int) : IntKind.u32.wrap n = U4 (B4 n) := by
  rw [IntKind.wrap_u32]; unfold U4 B4
  rw [BitVec.toNat_ofInt]
  have : (0 : Int) ≤ n % (4294967296 : Int) := by omega
  omega
theorem wrap_i64_B (n : Int) : IntKind.i64.wrap n = S (B n) := by
  rw [IntKind.wrap_i64]; unfold S B
  rw [BitVec.toInt_ofInt, Int.bmod_def]
  simp only [Nat.reducePow, Int.cast_ofNat_Int]
  split <;> omega
theorem wrap_i32_B (n : Int) : IntKind.i32.wrap n = S4 (B4 n) := by
  rw [IntKind.wrap_i32]; unfold S4 B4
  rw [BitVec.toInt_ofInt, Int.bmod_def]
  simp only [Nat.reducePow, Int.cast_ofNat_Int]
  split <;> omega

attribute [go_sem] wrap_u64_B wrap_u32_B

/-! Turning the sign -/
@[go_sem] theorem wrap_i64_U (x : BitVec 64) : IntKind.i64.wrap (U x) = S x := by rw [wrap_i64_B, B_U]
@[go_sem] theorem wrap_i32_U4 (x : BitVec 32) : IntKind.i32.wrap (U4 x) = S4 x := by rw [wrap_i32_B, B4_U4]
@[go_sem] theorem wrap_i64_S4 (x : BitVec 32) : IntKind.i64.wrap (S4 x) = S (x.signExtend 64) := by rw [wrap_i64_B, B_S4]
@[go_sem] theorem wrap_i64_S (x : BitVec 64) : IntKind.i64.wrap (S x) = S x := by rw [wrap_i64_B, B_S]

/-! Bit by bit -/
theorem U_back (x : BitVec 64) : IntKind.u64.wrap (x.toNat : Int) = U x := by rw [wrap_u64_B, B_nat]; simp
theorem U4_back (x : BitVec 32) : IntKind.u32.wrap (x.toNat : Int) = U4 x := by rw [wrap_u32_B, B4_nat]; simp
@[go_sem] theorem bits_and_u64 (a b : Int) : bits .and .u64 a b = U (B a &&& B b) := U_back _
@[go_sem] theorem bits_or_u64 (a b : Int) : bits .or .u64 a b = U (B a ||| B b) := U_back _
@[go_sem] theorem bits_xor_u64 (a b : Int) : bits .xor .u64 a b = U (B a ^^^ B b) := U_back _
@[go_sem] theorem bits_andNot_u64 (a b : Int) : bits .andNot .u64 a b = U (B a &&& ~~~ B b) := U_back _
@[go_sem high] theorem intBits_and_u64 (a b : Int) : Op.intBits .and .u64 a b = pure (.int .u64 (U (B a &&& B b))) := by rw [← bits_and_u64]; rfl
@[go_sem high] theorem intBits_or_u64 (a b : Int) : Op.intBits .or .u64 a b = pure (.int .u64 (U (B a ||| B b))) := by rw [← bits_or_u64]; rfl
@[go_sem high] theorem intBits_xor_u64 (a b : Int) : Op.intBits .xor .u64 a b = pure (.int .u64 (U (B a ^^^ B b))) := by rw [← bits_xor_u64]; rfl
@[go_sem high] theorem intBits_andNot_u64 (a b : Int) : Op.intBits .andNot .u64 a b = pure (.int .u64 (U (B a &&& ~~~ B b))) := by rw [← bits_andNot_u64]; rfl
@[go_sem high] theorem unary_xor_u64 (a : Int) : Op.unary .xor (.int .u64 a) = pure (.int .u64 (U (~~~ B a))) := by
  rw [unary_xor]
  simp only [IntKind.signed, Bool.false_eq_true, if_false]
  rw [intBits_xor_u64]
  have h : B IntKind.u64.max = BitVec.allOnes 64 := by decide +kernel
  rw [h, BitVec.allOnes_xor]
@[go_sem high] theorem unary_xor_u32 (a : Int) : Op.unary .xor (.int .u32 a) = pure (.int .u32 (U4 (~~~ B4 a))) := by
  rw [unary_xor]
  simp only [IntKind.signed, Bool.false_eq_true, if_false]
  have e : Op.intBits .xor .u32 IntKind.u32.max a = pure (.int .u32 (U4 (B4 IntKind.u32.max ^^^ B4 a))) := by rw [← U4_back]; rfl
  rw [e]
  have h : B4 IntKind.u32.max = BitVec.allOnes 32 := by decide +kernel
  rw [h, BitVec.allOnes_xor]

/-! Shifts: the count a number of 64 bits without a sign, or a whole number that is not below 0 -/
theorem B_two_pow (k : Nat) (x : BitVec 64) : x * B (2 ^ min k 64) = x <<< k := by
  apply BitVec.eq_of_toNat_eq
  have h2 : B ((2 : Int) ^ min k 64) = BitVec.ofNat 64 (2 ^ min k 64) := by
    rw [← B_nat]; simp
  rw [h2, BitVec.toNat_mul, BitVec.toNat_ofNat, BitVec.toNat_shiftLeft, Nat.shiftLeft_eq]
  rcases Nat.le_total k 64 with h | h
  · rw [Nat.min_eq_left h]; simp [Nat.mul_mod]
  · rw [Nat.min_eq_right h]
    have e : 2 ^ k = 2 ^ 64 * 2 ^ (k - 64) := by rw [← Nat.pow_add]; congr 1; omega
    rw [e]
    have : x.toNat * (2 ^ 64 * 2 ^ (k - 64)) = 2 ^ 64 * (x.toNat * 2 ^ (k - 64)) := by
      rw [← Nat.mul_assoc, Nat.mul_comm x.toNat, Nat.mul_assoc]
    rw [this]; simp
theorem B4_two_pow (k : Nat) (x : BitVec 32) : x * B4 (2 ^ min k 32) = x <<< k := by
  apply BitVec.eq_of_toNat_eq
  have h2 : B4 ((2 : Int) ^ min k 32) = BitVec.ofNat 32 (2 ^ min k 32) := by
    rw [← B4_nat]; simp
  rw [h2, BitVec.toNat_mul, BitVec.toNat_ofNat, BitVec.toNat_shiftLeft, Nat.shiftLeft_eq]
  rcases Nat.le_total k 32 with h | h
  · rw [Nat.min_eq_left h]; simp [Nat.mul_mod]
  · rw [Nat.min_eq_right h]
    have e : 2 ^ k = 2 ^ 32 * 2 ^ (k - 32) := by rw [← Nat.pow_add]; congr 1; omega
    rw [e]
    have : x.toNat * (2 ^ 32 * 2 ^ (k - 32)) = 2 ^ 32 * (x.toNat * 2 ^ (k - 32)) := by
      rw [← Nat.mul_assoc, Nat.mul_comm x.toNat, Nat.mul_assoc]
    rw [this]; simp
theorem shl_u64 (a : Int) (k : Nat) (yk : IntKind) : Op.shift .shl .u64 a yk (k : Int) = pure (.int .u64 (U (B a <<< k))) := by
  rw [shift_shl_any _ _ _ _ (by omega), wrap_u64_B, B_mul]
  simp only [Int.toNat_natCast, IntKind.bits]
  rw [B_two_pow]
theorem shl_u32 (a : Int) (k : Nat) (yk : IntKind) : Op.shift .shl .u32 a yk (k : Int) = pure (.int .u32 (U4 (B4 a <<< k))) := by
  rw [shift_shl_any _ _ _ _ (by omega), wrap_u32_B, B4_mul]
  simp only [Int.toNat_natCast, IntKind.bits]
  rw [B4_two_pow]
theorem shl_i64 (a : Int) (k : Nat) (yk : IntKind) : Op.shift .shl .i64 a yk (k : Int) = pure (.int .i64 (S (B a <<< k))) := by
  rw [shift_shl_any _ _ _ _ (by omega), wrap_i64_B, B_mul]
  simp only [Int.toNat_natCast, IntKind.bits]
  rw [B_two_pow]
theorem shl_i32 (a : Int) (k : Nat) (yk : IntKind) : Op.shift .shl .i32 a yk (k : Int) = pure (.int .i32 (S4 (B4 a <<< k))) := by
  rw [shift_shl_any _ _ _ _ (by omega), wrap_i32_B, B4_mul]
  simp only [Int.toNat_natCast, IntKind.bits]
  rw [B4_two_pow]
theorem shr_nat (m : Nat) (W k : Nat) (hm : m < 2 ^ W) : m / 2 ^ min k W = m >>> k := by
  rw [Nat.shiftRight_eq_div_pow]
  rcases Nat.le_total k W with h | h
  · rw [Nat.min_eq_left h]
  · rw [Nat.min_eq_right h, Nat.div_eq_of_lt hm, Nat.div_eq_of_lt (Nat.lt_of_lt_of_le hm (Nat.pow_le_pow_right (by decide) h))]
theorem shr_u64 (x : BitVec 64) (k : Nat) (yk : IntKind) : Op.shift .shr .u64 (U x) yk (k : Int) = pure (.int .u64 (U (x >>> k))) := by
  rw [shift_shr_any _ _ _ _ (by omega)]
  have : U x / 2 ^ min ((k : Int)).toNat IntKind.u64.bits = U (x >>> k) := by
    unfold U
    simp only [Int.toNat_natCast, IntKind.bits, BitVec.toNat_ushiftRight]
    rw [← shr_nat x.toNat 64 k x.isLt]
    norm_cast
  rw [this]
theorem shr_u32 (x : BitVec 32) (k : Nat) (yk : IntKind) : Op.shift .shr .u32 (U4 x) yk (k : Int) = pure (.int .u32 (U4 (x >>> k))) := by
  rw [shift_shr_any _ _ _ _ (by omega)]
  have : U4 x / 2 ^ min ((k : Int)).toNat IntKind.u32.bits = U4 (x >>> k) := by
    unfold U4
    simp only [Int.toNat_natCast, IntKind.bits, BitVec.toNat_ushiftRight]
    rw [← shr_nat x.toNat 32 k x.isLt]
    norm_cast
  rw [this]
theorem sshr_int (m : Int) (W k : Nat) (h0 : -(2 ^ (W - 1) : Int) ≤ m) (h1 : m < 2 ^ (W - 1)) (hW : 0 < W) : m / 2 ^ min k W = m >>> k := by
  rw [Int.shiftRight_eq_div_pow]
  rcases Nat.le_total k W with h | h
  · rw [Nat.min_eq_left h]; norm_cast
  · rw [Nat.min_eq_right h]
    have hk : ((2 : Int) ^ (W - 1)) ≤ 2 ^ W := by
      have : (2 : Nat) ^ (W - 1) ≤ 2 ^ W := Nat.pow_le_pow_right (by decide) (by omega)
      exact_mod_cast this
    have hk2 : ((2 : Int) ^ (W - 1)) ≤ 2 ^ k := by
      have : (2 : Nat) ^ (W - 1) ≤ 2 ^ k := Nat.pow_le_pow_right (by decide) (by omega)
      exact_mod_cast this
    have e : (((2 ^ k : Nat)) : Int) = (2 : Int) ^ k := by norm_cast
    rw [e]
    have key : ∀ d : Int, (2 : Int) ^ (W - 1) ≤ d → m / d = if m < 0 then -1 else 0 := by
      intro d hd
      have hp : (0 : Int) < 2 ^ (W - 1) := Int.pow_pos (by decide)
      split
      · rename_i hm
        have : m / d = -1 := by
          rw [Int.ediv_eq_iff_of_pos (by omega)]
          omega
        exact this
      · exact Int.ediv_eq_zero_of_lt (by omega) (by omega)
    rw [key _ hk, key _ hk2]
theorem shr_i64 (x : BitVec 64) (k : Nat) (yk : IntKind) : Op.shift .shr .i64 (S x) yk (k : Int) = pure (.int .i64 (S (x.sshiftRight k))) := by
  rw [shift_shr_any _ _ _ _ (by omega)]
  have : S x / 2 ^ min ((k : Int)).toNat IntKind.i64.bits = S (x.sshiftRight k) := by
    have h0 := S_lo x
    have h1 := S_hi x
    simp only [Int.toNat_natCast, IntKind.bits]
    rw [sshr_int (S x) 64 k (by simpa using h0) (by simpa using h1) (by decide)]
    unfold S
    rw [BitVec.toInt_sshiftRight]
  rw [this]
theorem shr_i32 (x : BitVec 32) (k : Nat) (yk : IntKind) : Op.shift .shr .i32 (S4 x) yk (k : Int) = pure (.int .i32 (S4 (x.sshiftRight k))) := by
  rw [shift_shr_any _ _ _ _ (by omega)]
  have : S4 x / 2 ^ min ((k : Int)).toNat IntKind.i32.bits = S4 (x.sshiftRight k) := by
    have h0 := S4_lo x
    have h1 := S4_hi x
    simp only [Int.toNat_natCast, IntKind.bits]
    rw [sshr_int (S4 x) 32 k (by simpa using h0) (by simpa using h1) (by decide)]
    unfold S4
    rw [BitVec.toInt_sshiftRight]
  rw [this]
section
variable (yk : IntKind)
@[go_sem high] theorem shl_u64_nat (a : Int) (k : Nat) : Op.shift .shl .u64 a yk (k : Int) = pure (.int .u64 (U (B a <<< k))) := shl_u64 a k yk
@[go_sem high] theorem shl_u64_lit (a : Int) (k : Nat) : Op.shift .shl .u64 a yk (no_index (OfNat.ofNat k)) = pure (.int .u64 (U (B a <<< k))) := shl_u64 a k yk
@[go_sem high] theorem shl_u64_U (a : Int) (c : BitVec 64) : Op.shift .shl .u64 a yk (U c) = pure (.int .u64 (U (B a <<< c.toNat))) := shl_u64 a c.toNat yk
@[go_sem high] theorem shr_u64_nat (x : BitVec 64) (k : Nat) : Op.shift .shr .u64 (U x) yk (k : Int) = pure (.int .u64 (U (x >>> k))) := shr_u64 x k yk
@[go_sem high] theorem shr_u64_lit (x : BitVec 64) (k : Nat) : Op.shift .shr .u64 (U x) yk (no_index (OfNat.ofNat k)) = pure (.int .u64 (U (x >>> k))) := shr_u64 x k yk
@[go_sem high] theorem shr_u64_U (x : BitVec 64) (c : BitVec 64) : Op.shift .shr .u64 (U x) yk (U c) = pure (.int .u64 (U (x >>> c.toNat))) := shr_u64 x c.toNat yk
@[go_sem high] theorem shr_i64_nat (x : BitVec 64) (k : Nat) : Op.shift .shr .i64 (S x) yk (k : Int) = pure (.int .i64 (S (x.sshiftRight k))) := shr_i64 x k yk
@[go_sem high] theorem shr_i64_lit (x : BitVec 64) (k : Nat) : Op.shift .shr .i64 (S x) yk (no_index (OfNat.ofNat k)) = pure (.int .i64 (S (x.sshiftRight k))) := shr_i64 x k yk
@[go_sem high] theorem shr_i64_U (x : BitVec 64) (c : BitVec 64) : Op.shift .shr .i64 (S x) yk (U c) = pure (.int .i64 (S (x.sshiftRight c.toNat))) := shr_i64 x c.toNat yk
@[go_sem high] theorem shl_i64_U (a : Int) (c : BitVec 64) : Op.shift .shl .i64 a yk (U c) = pure (.int .i64 (S (B a <<< c.toNat))) := shl_i64 a c.toNat yk
@[go_sem high] theorem shl_i32_U (a : Int) (c : BitVec 64) : Op.shift .shl .i32 a yk (U c) = pure (.int .i32 (S4 (B4 a <<< c.toNat))) := shl_i32 a c.toNat yk
@[go_sem high] theorem shl_u32_U (a : Int) (c : BitVec 64) : Op.shift .shl .u32 a yk (U c) = pure (.int .u32 (U4 (B4 a <<< c.toNat))) := shl_u32 a c.toNat yk
@[go_sem high] theorem shr_u32_U (x : BitVec 32) (c : BitVec 64) : Op.shift .shr .u32 (U4 x) yk (U c) = pure (.int .u32 (U4 (x >>> c.toNat))) := shr_u32 x c.toNat yk
@[go_sem high] theorem shr_i32_U (x : BitVec 32) (c : BitVec 64) : Op.shift .shr .i32 (S4 x) yk (U c) = pure (.int .i32 (S4 (x.sshiftRight c.toNat))) := shr_i32 x c.toNat yk
end

/-- A fact is laid where the walk does not see it. -/
theorem hide {p : Prop} (h : p) : Hid p := h

/-! Quotient and rest -/
@[go_sem] theorem wrap_tdiv_U (x y : BitVec 64) : IntKind.u64.wrap ((U x).tdiv (U y)) = U (x / y) := by
  rw [wrap_u64_B]; unfold U B
  rw [Int.tdiv_eq_ediv_of_nonneg (by omega), ← Int.natCast_ediv, BitVec.ofInt_natCast, ← BitVec.toNat_udiv, BitVec.ofNat_toNat, BitVec.setWidth_eq]
@[go_sem] theorem B_tdiv_U (x y : BitVec 64) : B ((U x).tdiv (U y)) = x / y := by
  unfold U B
  rw [Int.tdiv_eq_ediv_of_nonneg (by omega), ← Int.natCast_ediv, BitVec.ofInt_natCast, ← BitVec.toNat_udiv, BitVec.ofNat_toNat, BitVec.setWidth_eq]
@[go_sem] theorem B4_tdiv_U4 (x y : BitVec 32) : B4 ((U4 x).tdiv (U4 y)) = x / y := by
  unfold U4 B4
  rw [Int.tdiv_eq_ediv_of_nonneg (by omega), ← Int.natCast_ediv, BitVec.ofInt_natCast, ← BitVec.toNat_udiv, BitVec.ofNat_toNat, BitVec.setWidth_eq]
@[go_sem] theorem tmod_U (x y : BitVec 64) : (U x).tmod (U y) = U (x % y) := by
  unfold U
  rw [Int.tmod_eq_emod_of_nonneg (by omega), ← Int.natCast_emod, BitVec.toNat_umod]
@[go_sem] theorem tmod_U4 (x y : BitVec 32) : (U4 x).tmod (U4 y) = U4 (x % y) := by
  unfold U4
  rw [Int.tmod_eq_emod_of_nonneg (by omega), ← Int.natCast_emod, BitVec.toNat_umod]
@[go_sem] theorem wrap_tdiv_S (x y : BitVec 64) : IntKind.i64.wrap ((S x).tdiv (S y)) = S (x.sdiv y) := by
  rw [wrap_i64_B]; unfold S B
  rw [BitVec.toInt_ofInt, BitVec.toInt_sdiv]
@[go_sem] theorem wrap_tdiv_S4 (x y : BitVec 32) : IntKind.i32.wrap ((S4 x).tdiv (S4 y)) = S4 (x.sdiv y) := by
  rw [wrap_i32_B]; unfold S4 B4
  rw [BitVec.toInt_ofInt, BitVec.toInt_sdiv]
@[go_sem] theorem tmod_S (x y : BitVec 64) : (S x).tmod (S y) = S (x.srem y) := by unfold S; rw [BitVec.toInt_srem]
@[go_sem] theorem tmod_S4 (x y : BitVec 32) : (S4 x).tmod (S4 y) = S4 (x.srem y) := by unfold S4; rw [BitVec.toInt_srem]

/-! Comparisons, said of the bits -/
theorem U_inj {x y : BitVec 64} : U x = U y ↔ x = y := ⟨fun h => by have := congrArg B h; rwa [B_U, B_U] at this, fun h => by rw [h]⟩
theorem S_inj {x y : BitVec 64} : S x = S y ↔ x = y := ⟨fun h => by have := congrArg B h; rwa [B_S, B_S] at this, fun h => by rw [h]⟩
theorem U4_inj {x y : BitVec 32} : U4 x = U4 y ↔ x = y := ⟨fun h => by have := congrArg B4 h; rwa [B4_U4, B4_U4] at this, fun h => by rw [h]⟩
theorem S4_inj {x y : BitVec 32} : S4 x = S4 y ↔ x = y := ⟨fun h => by have := congrArg B4 h; rwa [B4_S4, B4_S4] at this, fun h => by rw [h]⟩
theorem U_lt {x y : BitVec 64} : U x < U y ↔ x < y := by unfold U; rw [BitVec.lt_def]; omega
theorem U_le {x y : BitVec 64} : U x ≤ U y ↔ x ≤ y := by unfold U; rw [BitVec.le_def]; omega
theorem U_beq (x y : BitVec 64) : (U x == U y) = (x == y) := by rw [Bool.eq_iff_iff]; simp [U_inj]
theorem U_bne (x y : BitVec 64) : (U x != U y) = (x != y) := by unfold bne; rw [U_beq]
theorem U_zero {x : BitVec 64} : U x = 0 ↔ x = 0#64 := U_inj (y := 0#64)
theorem S_zero {x : BitVec 64} : S x = 0 ↔ x = 0#64 := S_inj (y := 0#64)
theorem U4_zero {x : BitVec 32} : U4 x = 0 ↔ x = 0#32 := U4_inj (y := 0#32)
theorem S4_zero {x : BitVec 32} : S4 x = 0 ↔ x = 0#32 := S4_inj (y := 0#32)
theorem S_mone {x : BitVec 64} : S x = -1 ↔ x = -1#64 := S_inj (y := -1#64)
theorem S4_mone {x : BitVec 32} : S4 x = -1 ↔ x = -1#32 := S4_inj (y := -1#32)
end Go.Proofs.Ytkmdahokomnjcaa
