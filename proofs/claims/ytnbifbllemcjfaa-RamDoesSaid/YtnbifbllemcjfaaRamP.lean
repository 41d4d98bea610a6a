/-
  Plain laws of bytes, numbers and pages. Nothing of the program's code stands here.
-/
import Derived.Test.YtnbifbllemcjfaaRamH
namespace Go.Proofs.Ytnbifbllemcjfaa
set_option linter.unusedVariables false
open Go.RowKit Go.Maps

/-- The j-th byte of a number. -/
def byteOf (v : BitVec 64) (j : Nat) : BitVec 8 := (v >>> (8 * j)).setWidth 8
theorem wrF_at (M : Nat → BitVec 8) (A : Nat) (v : BitVec 64) (a : Nat) : ∀ k, wrF M A v k a = if A ≤ a ∧ a < A + k then byteOf v (a - A) else M a
  | 0 => by rw [if_neg (by omega)]; rfl
  | k + 1 => by
    rw [wrF_succ]
    unfold updB
    by_cases h : a = A + k
    · subst h
      rw [if_pos rfl, if_pos (by omega), Nat.add_sub_cancel_left]
      rfl
    · rw [if_neg h, wrF_at M A v a k]
      by_cases h2 : A ≤ a ∧ a < A + k
      · rw [if_pos h2, if_pos (by omega)]
      · rw [if_neg h2, if_neg (by omega)]
theorem wrN_at (M : Nat → BitVec 8) (x : BitVec 64) (n : Int) (v : BitVec 64) (a : Nat) : wrN M x n v a = if hasS x n = true ∧ x.toNat ≤ a ∧ a < x.toNat + n.toNat then byteOf v (a - x.toNat) else M a := by
  unfold wrN
  by_cases h : hasS x n = true
  · rw [if_pos h, wrF_at]
    by_cases h2 : x.toNat ≤ a ∧ a < x.toNat + n.toNat
    · rw [if_pos h2, if_pos ⟨h, h2⟩]
    · rw [if_neg h2, if_neg (fun e => h2 e.2)]
  · rw [if_neg h, if_neg (fun e => h e.1)]
theorem byteOf_bit (v : BitVec 64) (j t : Nat) (ht : t < 8) : (byteOf v j).getLsbD t = v.getLsbD (8 * j + t) := by
  unfold byteOf
  rw [BitVec.getLsbD_setWidth, BitVec.getLsbD_ushiftRight]
  simp [ht]
theorem byte_low (x : BitVec 64) (m : BitVec 8) : byteOf (x <<< 8 ||| m.setWidth 64) 0 = m := by
  apply BitVec.eq_of_getLsbD_eq
  intro t ht
  rw [byteOf_bit _ _ _ ht]
  have h0 : 8 * 0 + t = t := by omega
  have h1 : t < 64 := by omega
  rw [h0, BitVec.getLsbD_or, BitVec.getLsbD_shiftLeft, BitVec.getLsbD_setWidth, decide_eq_true ht, decide_eq_true h1]
  simp
theorem byte_up (x : BitVec 64) (m : BitVec 8) {j : Nat} (hj : j < 7) : byteOf (x <<< 8 ||| m.setWidth 64) (j + 1) = byteOf x j := by
  apply BitVec.eq_of_getLsbD_eq
  intro t ht
  rw [byteOf_bit _ _ _ ht, byteOf_bit _ _ _ ht]
  have h1 : 8 * (j + 1) + t < 64 := by omega
  have h2 : ¬ 8 * (j + 1) + t < 8 := by omega
  have h3 : 8 * (j + 1) + t - 8 = 8 * j + t := by omega
  have h4 : m.getLsbD (8 * (j + 1) + t) = false := BitVec.getLsbD_of_ge _ _ (by omega)
  rw [BitVec.getLsbD_or, BitVec.getLsbD_shiftLeft, BitVec.getLsbD_setWidth, h3, h4, decide_eq_true h1, decide_eq_false h2]
  simp
theorem rdF_byte (M : Nat → BitVec 8) (A : Nat) : ∀ k i j, k ≤ 8 → j < 8 → byteOf (rdF M A i k) j = if j < k then M (A + i + j) else 0#8
  | 0, i, j, _, hj => by
    rw [if_neg (by omega)]
    unfold rdF byteOf
    simp
  | k + 1, i, 0, hk, hj => by
    rw [if_pos (by omega)]
    show byteOf ((rdF M A (i + 1) k) <<< 8 ||| (M (A + i)).setWidth 64) 0 = _
    rw [byte_low]
    rfl
  | k + 1, i, j + 1, hk, hj => by
    show byteOf ((rdF M A (i + 1) k) <<< 8 ||| (M (A + i)).setWidth 64) (j + 1) = _
    rw [byte_up _ _ (by omega), rdF_byte M A k (i + 1) j (by omega) (by omega)]
    by_cases h : j < k
    · rw [if_pos h, if_pos (by omega)]
      congr 1
      omega
    · rw [if_neg h, if_neg (by omega)]
theorem bytes_ext {x y : BitVec 64} (h : ∀ j, j < 8 → byteOf x j = byteOf y j) : x = y := by
  apply BitVec.eq_of_getLsbD_eq
  intro t ht
  have h1 := congrArg (fun b => b.getLsbD (t % 8)) (h (t / 8) (by omega))
  rw [byteOf_bit _ _ _ (by omega), byteOf_bit _ _ _ (by omega), Nat.div_add_mod] at h1
  exact h1
theorem rdF_congr {M M' : Nat → BitVec 8} {A : Nat} : ∀ k i, (∀ j, i ≤ j → j < i + k → M (A + j) = M' (A + j)) → rdF M A i k = rdF M' A i k
  | 0, _, _ => rfl
  | k + 1, i, h => by
    show (rdF M A (i + 1) k) <<< 8 ||| _ = (rdF M' A (i + 1) k) <<< 8 ||| _
    rw [rdF_congr k (i + 1) fun j h1 h2 => h j (by omega) (by omega), h i (Nat.le_refl _) (by omega)]
theorem hasS_iff {a : BitVec 64} {n : Int} : hasS a n = true ↔ (n = 1 ∨ n = 2 ∨ n = 4 ∨ n = 8) ∧ 2147483648 ≤ a.toNat ∧ (a.toNat : Int) + n ≤ 2148532224 := by
  unfold hasS okS U
  simp only [Bool.and_eq_true, Bool.or_eq_true, beq_iff_eq, decide_eq_true_eq]
  omega
/-- A number is written where it was read. -/
theorem wr_rd (M : Nat → BitVec 8) (a : BitVec 64) (n : Int) : wrN M a n (rdN M a n) = M := by
  funext x
  rw [wrN_at]
  by_cases h : hasS a n = true ∧ a.toNat ≤ x ∧ x < a.toNat + n.toNat
  · rw [if_pos h]
    have hh := hasS_iff.1 h.1
    unfold rdN
    rw [if_pos h.1, rdF_byte M _ _ _ _ (by omega) (by omega), if_pos (by omega)]
    congr 1
    omega
  · rw [if_neg h]
theorem rd1 (M : Nat → BitVec 8) (a : BitVec 64) (h : hasS a 1 = true) : rdN M a 1 = (M a.toNat).setWidth 64 := by
  unfold rdN
  rw [if_pos h]
  show (0#64) <<< 8 ||| (M (a.toNat + 0)).setWidth 64 = _
  rw [Nat.add_zero, BitVec.zero_shiftLeft, BitVec.zero_or]
theorem byteOf_setWidth (m : BitVec 8) (j : Nat) : byteOf (m.setWidth 64) j = if j = 0 then m else 0#8 := by
  apply BitVec.eq_of_getLsbD_eq
  intro t ht
  rw [byteOf_bit _ _ _ ht, BitVec.getLsbD_setWidth]
  by_cases h : j = 0
  · subst h; rw [if_pos rfl]; simp; omega
  · rw [if_neg h, BitVec.getLsbD_of_ge m _ (by omega)]; simp
theorem sameM_refl (M : Nat → BitVec 8) : sameM M M = true := sameM_bytes.2 fun _ _ _ => rfl
theorem sameM_comm (M M' : Nat → BitVec 8) : sameM M M' = sameM M' M := by
  rw [Bool.eq_iff_iff, sameM_bytes, sameM_bytes]
  exact ⟨fun h a h1 h2 => (h a h1 h2).symm, fun h a h1 h2 => (h a h1 h2).symm⟩
theorem pagesL_congr {M M' : Nat → BitVec 8} (h : ∀ a, 2147483648 ≤ a → a < 2148532224 → M a = M' a) : pagesI M = pagesI M' := by
  unfold pagesI pagesL
  refine congrArg _ (List.filter_congr fun n hn => ?_)
  have hp := inP_range.1 hn
  unfold InP at hp
  refine congrArg not ?_
  rw [Bool.eq_iff_iff, pageZ_iff, pageZ_iff]
  exact ⟨fun e i hi => by rw [← h _ (by omega) (by omega)]; exact e i hi, fun e i hi => by rw [h _ (by omega) (by omega)]; exact e i hi⟩
/-- Writes without a common byte. -/
theorem wr_comm (M : Nat → BitVec 8) (a b : BitVec 64) (n k : Int) (u v : BitVec 64) (h : hasS a n = true → hasS b k = true → a.toNat + n.toNat ≤ b.toNat ∨ b.toNat + k.toNat ≤ a.toNat) :
    wrN (wrN M a n u) b k v = wrN (wrN M b k v) a n u := by
  funext x
  rw [wrN_at, wrN_at, wrN_at, wrN_at]
  by_cases h1 : hasS a n = true ∧ a.toNat ≤ x ∧ x < a.toNat + n.toNat
  · by_cases h2 : hasS b k = true ∧ b.toNat ≤ x ∧ x < b.toNat + k.toNat
    · exfalso
      have := h h1.1 h2.1
      omega
    · rw [if_neg h2, if_pos h1, if_pos h1]
  · by_cases h2 : hasS b k = true ∧ b.toNat ≤ x ∧ x < b.toNat + k.toNat
    · rw [if_pos h2, if_neg h1, if_pos h2]
    · rw [if_neg h2, if_neg h1, if_neg h1, if_neg h2]
/-- The pages of a memory of which the bytes are known. -/
theorem pages_eq {M : Nat → BitVec 8} {l : List Int} (hl : l.Pairwise (· < ·)) (h : ∀ x, x ∈ l ↔ ∃ n, x = ((n * 4096 : Nat) : Int) ∧ InP n ∧ pageZ M n = false) : pagesI M = l :=
  sorted_ext (rising_pagesI M) hl fun x => by rw [mem_pagesI, h]
theorem pageZ_no {M : Nat → BitVec 8} {n : Nat} : pageZ M n = false ↔ ∃ i, i < 4096 ∧ M (n * 4096 + i) ≠ 0#8 := by
  constructor
  · intro h
    have h1 : ¬ ∀ i, i < 4096 → M (n * 4096 + i) = 0#8 := fun e => by rw [pageZ_iff.2 e] at h; cases h
    exact Classical.byContradiction fun e => h1 fun i hi => Classical.byContradiction fun e' => e ⟨i, hi, e'⟩
  · rintro ⟨i, hi, he⟩
    cases e : pageZ M n
    · rfl
    · exact absurd (pageZ_iff.1 e i hi) he
end Go.Proofs.Ytnbifbllemcjfaa
