/-
  The plain steps under the document's loops (tandemref05): product, divide, shift, Wide. Nothing of the program stands here.
-/
import Derived.Test.YtkmdahokomnjcaaAluPlain
namespace Go.Proofs.Ytkmdahokomnjcaa

theorem Z_not_succ {k : Nat} (hk : k ≤ 64) (x : BitVec k) : Z ((~~~ Z x + 1#64).setWidth k) = Z (-x) := by
  have e : ~~~ Z x + 1#64 = -(Z x) := (BitVec.neg_eq_not_add (Z x)).symm
  rw [e, BitVec.setWidth_neg_of_le hk, Z_back hk]

theorem Z_lt {k : Nat} (hk : k ≤ 64) (x y : BitVec k) : (U (Z x) < U (Z y)) ↔ x.ult y = true := by
  unfold U; rw [Z_toNat hk, Z_toNat hk, BitVec.ult_eq_decide]; simp

theorem slt_cases {k : Nat} (x y : BitVec k) : x.slt y = if x.msb = y.msb then x.ult y else x.msb := by
  rw [BitVec.slt_eq_ult]
  have hx := BitVec.msb_eq_decide x
  have hy := BitVec.msb_eq_decide y
  rw [BitVec.ult_eq_decide]
  generalize 2 ^ (k - 1) = h at *
  rcases h1 : x.msb with _ | _ <;> rcases h2 : y.msb with _ | _ <;> rw [h1] at hx <;> rw [h2] at hy
  · simp
  · have a := of_decide_eq_false hx.symm
    have b := of_decide_eq_true hy.symm
    have c : x.toNat < y.toNat := by omega
    simp [c]
  · have a := of_decide_eq_true hx.symm
    have b := of_decide_eq_false hy.symm
    have c : ¬ x.toNat < y.toNat := by omega
    simp [c]
  · simp

/-! Wide -/
def wideAt {k : Nat} (y : BitVec k) (j : Nat) : BitVec 64 := BitVec.ofNat 64 (y.toNat + 2 ^ j - 2 ^ k)
theorem wide_start {k : Nat} (hk : k ≤ 64) (y : BitVec k) : wideAt y k = Z y := by
  apply BitVec.eq_of_toNat_eq
  unfold wideAt
  rw [Z_toNat hk, BitVec.toNat_ofNat]
  have : y.toNat < 2 ^ 64 := Nat.lt_of_lt_of_le y.isLt (Nat.pow_le_pow_right (by decide) hk)
  rw [Nat.add_sub_cancel]
  exact Nat.mod_eq_of_lt this
theorem wide_step {k : Nat} (y : BitVec k) (j : Nat) (hj : k ≤ j) : wideAt y j + 1#64 <<< j = wideAt y (j + 1) := by
  apply BitVec.eq_of_toNat_eq
  unfold wideAt
  have h1 : (1#64 <<< j) = BitVec.ofNat 64 (2 ^ j) := by
    apply BitVec.eq_of_toNat_eq
    rw [BitVec.toNat_shiftLeft, Nat.shiftLeft_eq, BitVec.toNat_ofNat, BitVec.toNat_ofNat]; simp
  have h2 : (2 : Nat) ^ k ≤ 2 ^ j := Nat.pow_le_pow_right (by decide) hj
  have h3 : (2 : Nat) ^ (j + 1) = 2 ^ j + 2 ^ j := by rw [Nat.pow_succ]; omega
  rw [h1, ← BitVec.ofNat_add, h3]
  congr 2
  omega
theorem wide_end {k : Nat} (hk : k ≤ 64) (y : BitVec k) (hm : y.msb = true) : wideAt y 64 = y.signExtend 64 := by
  apply BitVec.eq_of_toNat_eq
  rw [BitVec.toNat_signExtend, hm, if_pos rfl]
  have e : (y.setWidth 64).toNat = y.toNat := Z_toNat hk y
  rw [e]
  unfold wideAt
  rw [BitVec.toNat_ofNat]
  have h2 : (2 : Nat) ^ k ≤ 2 ^ 64 := Nat.pow_le_pow_right (by decide) hk
  have h3 := y.isLt
  rw [Nat.mod_eq_of_lt (by omega)]
  omega
theorem wide_none {k : Nat} (y : BitVec k) (hm : y.msb = false) : Z y = y.signExtend 64 := (BitVec.signExtend_eq_setWidth_of_msb_false hm).symm

/-! A bit of a number -/
theorem bit_nat (b : BitVec 64) (j : Nat) : (b >>> j &&& 1#64).toNat = b.toNat / 2 ^ j % 2 := by
  rw [BitVec.toNat_and, BitVec.toNat_ushiftRight, Nat.shiftRight_eq_div_pow]
  exact nat_mask1 _
theorem div_step (n j : Nat) : n / 2 ^ j = 2 * (n / 2 ^ (j + 1)) + n / 2 ^ j % 2 := by
  rw [Nat.pow_succ, ← Nat.div_div_eq_div_mul]; omega

/-! product -/
def ProdAt (a b : BitVec 64) (m : Nat) (h l : BitVec 64) : Prop := 18446744073709551616 * h.toNat + l.toNat = a.toNat * (b.toNat / 2 ^ m)
theorem prod_start (a b : BitVec 64) : ProdAt a b 64 0#64 0#64 := by
  unfold ProdAt
  rw [Nat.div_eq_of_lt (by simpa using b.isLt)]; simp
theorem div_eu (R D q r : Nat) (h : R = D * q + r) (hr : r < D) : R / D = q ∧ R % D = r := by
  have hD : 0 < D := by omega
  refine ⟨?_, ?_⟩
  · rw [h, Nat.mul_add_div hD, Nat.div_eq_of_lt hr]; omega
  · rw [h, Nat.mul_add_mod, Nat.mod_eq_of_lt hr]
theorem nat_shift (H L P : Nat) (hp : 18446744073709551616 * H + L = P) (hH : H < 9223372036854775808) (hL : L < 18446744073709551616) :
    18446744073709551616 * ((2 * H % 18446744073709551616 + L / 9223372036854775808) % 18446744073709551616) + 2 * L % 18446744073709551616 = 2 * P := by
  have f : 2 * H % 18446744073709551616 = 2 * H := Nat.mod_eq_of_lt (by omega)
  rw [f]
  by_cases hc : L < 9223372036854775808
  · have d : L / 9223372036854775808 = 0 := Nat.div_eq_of_lt hc
    have e : 2 * L % 18446744073709551616 = 2 * L := Nat.mod_eq_of_lt (by omega)
    have g : (2 * H + 0) % 18446744073709551616 = 2 * H := Nat.mod_eq_of_lt (by omega)
    rw [d, e, g]; omega
  · have d : L / 9223372036854775808 = 1 := (div_eu L _ 1 (L - 9223372036854775808) (by omega) (by omega)).1
    have e : 2 * L % 18446744073709551616 = 2 * L - 18446744073709551616 := (div_eu (2 * L) _ 1 (2 * L - 18446744073709551616) (by omega) (by omega)).2
    have g : (2 * H + 1) % 18446744073709551616 = 2 * H + 1 := Nat.mod_eq_of_lt (by omega)
    rw [d, e, g]; omega
theorem nat_carry (H L A Q : Nat) (hp : 18446744073709551616 * H + L = Q) (hb : (Q + A) / 18446744073709551616 < 18446744073709551616) (hL : L < 18446744073709551616) (hA : A < 18446744073709551616) :
    ((L + A) % 18446744073709551616 < L → 18446744073709551616 * ((H + 1) % 18446744073709551616) + (L + A) % 18446744073709551616 = Q + A) ∧
    (¬ (L + A) % 18446744073709551616 < L → 18446744073709551616 * H + (L + A) % 18446744073709551616 = Q + A) := by
  by_cases hc : L + A < 18446744073709551616
  · have e : (L + A) % 18446744073709551616 = L + A := Nat.mod_eq_of_lt hc
    rw [e]
    exact ⟨fun h => by omega, fun _ => by omega⟩
  · have e : (L + A) % 18446744073709551616 = L + A - 18446744073709551616 := (div_eu (L + A) _ 1 (L + A - 18446744073709551616) (by omega) (by omega)).2
    have d : (Q + A) / 18446744073709551616 = H + 1 := (div_eu (Q + A) _ (H + 1) (L + A - 18446744073709551616) (by omega) (by omega)).1
    rw [d] at hb
    have g : (H + 1) % 18446744073709551616 = H + 1 := Nat.mod_eq_of_lt hb
    rw [e, g]
    exact ⟨fun _ => by omega, fun h => by omega⟩
theorem prod_step (a b h l : BitVec 64) (j : Nat) (hp : ProdAt a b (j + 1) h l) :
    ((b >>> j &&& 1#64 = 1#64) → (l <<< 1 + a < l <<< 1 → ProdAt a b j (h <<< 1 + l >>> 63 + 1#64) (l <<< 1 + a)) ∧ (¬ l <<< 1 + a < l <<< 1 → ProdAt a b j (h <<< 1 + l >>> 63) (l <<< 1 + a))) ∧
    (¬ (b >>> j &&& 1#64 = 1#64) → ProdAt a b j (h <<< 1 + l >>> 63) (l <<< 1)) := by
  unfold ProdAt at *
  have hb := bit_nat b j
  have hd := div_step b.toNat j
  have ha := a.isLt
  have hh := h.isLt
  have hl := l.isLt
  have hbb := b.isLt
  have hq : b.toNat / 2 ^ j < 18446744073709551616 := Nat.lt_of_le_of_lt (Nat.div_le_self _ _) hbb
  have hbound : a.toNat * (b.toNat / 2 ^ j) / 18446744073709551616 < 18446744073709551616 := by
    have := Nat.mul_lt_mul'' ha hq
    omega
  have hbit : (b >>> j &&& 1#64 = 1#64) ↔ b.toNat / 2 ^ j % 2 = 1 := by
    rw [← hb]
    constructor
    · intro e; rw [e]; rfl
    · intro e; exact BitVec.eq_of_toNat_eq e
  rw [BitVec.lt_def, hbit]
  have e1 : (h <<< 1).toNat = 2 * h.toNat % 18446744073709551616 := by rw [BitVec.toNat_shiftLeft, Nat.shiftLeft_eq, Nat.mul_comm]
  have e2 : (l <<< 1).toNat = 2 * l.toNat % 18446744073709551616 := by rw [BitVec.toNat_shiftLeft, Nat.shiftLeft_eq, Nat.mul_comm]
  have e3 : (l >>> 63).toNat = l.toNat / 9223372036854775808 := by rw [BitVec.toNat_ushiftRight, Nat.shiftRight_eq_div_pow]
  have hm : a.toNat * (b.toNat / 2 ^ j) = 2 * (a.toNat * (b.toNat / 2 ^ (j + 1))) + a.toNat * (b.toNat / 2 ^ j % 2) := by
    have : a.toNat * (b.toNat / 2 ^ j) = a.toNat * (2 * (b.toNat / 2 ^ (j + 1)) + b.toNat / 2 ^ j % 2) := by rw [← hd]
    rw [this, Nat.mul_add, Nat.mul_left_comm]
  rw [hm] at hbound ⊢
  clear hm hd hq hbb
  generalize a.toNat * (b.toNat / 2 ^ (j + 1)) = P at *
  have hH : h.toNat < 9223372036854775808 := by omega
  have sh := nat_shift h.toNat l.toNat P hp hH hl
  have c1 : (h <<< 1 + l >>> 63).toNat = (2 * h.toNat % 18446744073709551616 + l.toNat / 9223372036854775808) % 18446744073709551616 := by rw [BitVec.toNat_add, e1, e3]
  rw [← c1, ← e2] at sh
  have c2 : (l <<< 1 + a).toNat = ((l <<< 1).toNat + a.toNat) % 18446744073709551616 := BitVec.toNat_add _ _
  have c3 : (h <<< 1 + l >>> 63 + 1#64).toNat = ((h <<< 1 + l >>> 63).toNat + 1) % 18446744073709551616 := by rw [BitVec.toNat_add]; rfl
  rcases Nat.mod_two_eq_zero_or_one (b.toNat / 2 ^ j) with h0 | h0
  · rw [h0]
    refine ⟨fun h => by omega, fun _ => ?_⟩
    rw [Nat.mul_zero, Nat.add_zero]
    exact sh
  · rw [h0, Nat.mul_one] at hbound ⊢
    have key := nat_carry _ _ a.toNat _ sh hbound (l <<< 1).isLt ha
    rw [c3, c2]
    exact ⟨fun _ => key, fun h => absurd rfl h⟩
theorem prod_end (a b h l : BitVec 64) (hp : ProdAt a b 0 h l) : h = mulHi a b ∧ l = a * b := by
  unfold ProdAt at hp
  rw [Nat.pow_zero, Nat.div_one] at hp
  have hl := l.isLt
  have hh := h.isLt
  refine ⟨BitVec.eq_of_toNat_eq ?_, BitVec.eq_of_toNat_eq ?_⟩
  · rw [mulHi_toNat]; omega
  · rw [BitVec.toNat_mul]; simp only [Nat.reducePow]; omega

/-! divide -/
def DivAt (A D : Nat) (m : Nat) (q r : BitVec 64) : Prop := q.toNat = A / 2 ^ m / D ∧ r.toNat = A / 2 ^ m % D
theorem div_start (A D k : Nat) (hA : A < 2 ^ k) : DivAt A D k 0#64 0#64 := by
  unfold DivAt
  rw [Nat.div_eq_of_lt hA]; simp
theorem divide_step (a b q r : BitVec 64) (j : Nat) (hb : b ≠ 0#64) (hp : DivAt a.toNat b.toNat (j + 1) q r) :
    ((r >>> 63 = 1#64 ∨ b ≤ r <<< 1 + (a >>> j &&& 1#64)) → DivAt a.toNat b.toNat j (q <<< 1 + 1#64) (r <<< 1 + (a >>> j &&& 1#64) - b)) ∧
    (¬ (r >>> 63 = 1#64 ∨ b ≤ r <<< 1 + (a >>> j &&& 1#64)) → DivAt a.toNat b.toNat j (q <<< 1) (r <<< 1 + (a >>> j &&& 1#64))) := by
  unfold DivAt at *
  obtain ⟨hq, hr⟩ := hp
  have hD := pos_of_ne hb
  have hbit := bit_nat a j
  have hd := div_step a.toNat j
  have hA := a.isLt
  have hN : a.toNat / 2 ^ j < 18446744073709551616 := Nat.lt_of_le_of_lt (Nat.div_le_self _ _) hA
  have hov : (r >>> 63 = 1#64) ↔ 9223372036854775808 ≤ r.toNat := by
    have e3 : (r >>> 63).toNat = r.toNat / 9223372036854775808 := by rw [BitVec.toNat_ushiftRight, Nat.shiftRight_eq_div_pow]
    have := r.isLt
    constructor
    · intro e; rw [e] at e3; simp at e3; omega
    · intro e; apply BitVec.eq_of_toNat_eq; rw [e3]; simp; omega
  have hbl := b.isLt
  have hrl := r.isLt
  have hql := q.isLt
  rw [hov, BitVec.le_def]
  have er : (r <<< 1 + (a >>> j &&& 1#64)).toNat = (2 * r.toNat % 18446744073709551616 + a.toNat / 2 ^ j % 2) % 18446744073709551616 := by
    rw [BitVec.toNat_add, BitVec.toNat_shiftLeft, Nat.shiftLeft_eq, hbit, Nat.mul_comm 2]
  have eq1 : (q <<< 1).toNat = 2 * q.toNat % 18446744073709551616 := by rw [BitVec.toNat_shiftLeft, Nat.shiftLeft_eq, Nat.mul_comm]
  generalize hn : a.toNat / 2 ^ j = N at *
  generalize hp2 : a.toNat / 2 ^ (j + 1) = M at *
  have hM := Nat.div_add_mod M b.toNat
  have hMr := Nat.mod_lt M hD
  rw [← hq, ← hr] at hM
  rw [← hr] at hMr
  have hqd : b.toNat * (2 * q.toNat) = 2 * (b.toNat * q.toNat) := Nat.mul_left_comm _ _ _
  have hqd1 : b.toNat * (2 * q.toNat + 1) = 2 * (b.toNat * q.toNat) + b.toNat := by rw [Nat.mul_add, hqd, Nat.mul_one]
  have hqle : q.toNat ≤ b.toNat * q.toNat := Nat.le_mul_of_pos_left _ hD
  generalize hPP : b.toNat * q.toNat = P at *
  refine ⟨fun h => ?_, fun h => ?_⟩
  · have key := div_eu N b.toNat (2 * q.toNat + 1) (2 * r.toNat + N % 2 - b.toNat) (by rw [hqd1]; omega) (by omega)
    rw [key.1, key.2]
    rw [BitVec.toNat_add, eq1, BitVec.toNat_sub, er]
    simp only [Nat.reducePow, BitVec.toNat_ofNat, Nat.reduceMod]
    omega
  · have key := div_eu N b.toNat (2 * q.toNat) (2 * r.toNat + N % 2) (by rw [hqd]; omega) (by omega)
    rw [key.1, key.2, eq1, er]
    omega
theorem divide_end {k : Nat} (hk : k ≤ 64) (x y : BitVec k) (q r : BitVec 64) (hp : DivAt (Z x).toNat (Z y).toNat 0 q r) : q = Z (x / y) ∧ r = Z (x % y) := by
  unfold DivAt at hp
  rw [Nat.pow_zero, Nat.div_one, Z_toNat hk, Z_toNat hk] at hp
  refine ⟨BitVec.eq_of_toNat_eq ?_, BitVec.eq_of_toNat_eq ?_⟩
  · rw [hp.1, Z_toNat hk, BitVec.toNat_udiv]
  · rw [hp.2, Z_toNat hk, BitVec.toNat_umod]
theorem Z_ne {k : Nat} (hk : k ≤ 64) {y : BitVec k} (h : y ≠ 0#k) : Z y ≠ 0#64 := fun e => h (by
  have g := Z_back hk y
  rw [e] at g; rw [← g]; simp)
theorem neg_ne {k : Nat} {y : BitVec k} (h : y ≠ 0#k) : -y ≠ 0#k := fun e => h (by rw [← BitVec.neg_neg (x := y), e]; simp)

/-! shifts by one place after the other -/
theorem sll_step {k : Nat} (hk : k ≤ 64) (x : BitVec k) (j : Nat) : Z ((Z (x <<< j)).setWidth k <<< 1) = Z (x <<< (j + 1)) := by
  rw [Z_back hk, ← BitVec.shiftLeft_add]
theorem srl_step {k : Nat} (hk : k ≤ 64) (x : BitVec k) (j : Nat) : Z (x >>> j) >>> 1 = Z (x >>> (j + 1)) := by
  apply BitVec.eq_of_toNat_eq
  rw [BitVec.toNat_ushiftRight, Z_toNat hk, Z_toNat hk, BitVec.toNat_ushiftRight, BitVec.toNat_ushiftRight, Nat.shiftRight_add]
theorem sra_one {k : Nat} (hk0 : 0 < k) (hk : k ≤ 64) (y : BitVec k) : (y.msb = true → Z y >>> 1 + 1#64 <<< (k - 1) = Z (y.sshiftRight 1)) ∧ (y.msb = false → Z y >>> 1 = Z (y.sshiftRight 1)) := by
  obtain ⟨j, rfl⟩ : ∃ j, k = j + 1 := ⟨k - 1, by omega⟩
  have hy := y.isLt
  have h3 : (2 : Nat) ^ (j + 1) = 2 ^ j + 2 ^ j := by rw [Nat.pow_succ]; omega
  have h4 : (2 : Nat) ^ (j + 1) ≤ 2 ^ 64 := Nat.pow_le_pow_right (by decide) hk
  refine ⟨fun hm => ?_, fun hm => ?_⟩
  · apply BitVec.eq_of_toNat_eq
    have h1 : (1#64 <<< (j + 1 - 1)).toNat = 2 ^ j := by
      rw [Nat.add_sub_cancel, BitVec.toNat_shiftLeft, Nat.shiftLeft_eq]
      simp only [BitVec.toNat_ofNat, Nat.reducePow, Nat.reduceMod, Nat.one_mul]
      exact Nat.mod_eq_of_lt (by omega)
    rw [BitVec.toNat_add, h1, BitVec.toNat_ushiftRight, Z_toNat hk, Z_toNat hk, BitVec.toNat_sshiftRight_of_msb_true hm, Nat.shiftRight_eq_div_pow, Nat.shiftRight_eq_div_pow]
    rw [BitVec.msb_eq_decide] at hm
    have hm2 := of_decide_eq_true hm
    rw [Nat.add_sub_cancel] at hm2
    rw [h3] at hy ⊢
    rw [Nat.mod_eq_of_lt (by omega)]
    omega
  · apply BitVec.eq_of_toNat_eq
    rw [BitVec.toNat_ushiftRight, Z_toNat hk, Z_toNat hk, BitVec.toNat_sshiftRight_of_msb_false hm]
theorem sra_step {k : Nat} (hk0 : 0 < k) (hk : k ≤ 64) (x : BitVec k) (j : Nat) : ((x.sshiftRight j).msb = true → Z (x.sshiftRight j) >>> 1 + 1#64 <<< (k - 1) = Z (x.sshiftRight (j + 1))) ∧ ((x.sshiftRight j).msb = false → Z (x.sshiftRight j) >>> 1 = Z (x.sshiftRight (j + 1))) := by
  have h := sra_one hk0 hk (x.sshiftRight j)
  rw [← BitVec.sshiftRight_add] at h
  exact h
end Go.Proofs.Ytkmdahokomnjcaa
