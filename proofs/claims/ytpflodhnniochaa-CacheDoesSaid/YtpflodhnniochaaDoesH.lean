/-
  The reference's cache: power, New.
-/
import Derived.Test.YtpflodhnniochaaDoesG
namespace Go.Proofs.Ytpflodhnniochaa
set_option linter.unusedVariables false
open Go.RowKit Go.Maps

def powB (n : Int) : Bool := decide (n = 1 ∨ n = 2 ∨ n = 4 ∨ n = 8 ∨ n = 16 ∨ n = 32 ∨ n = 64)
/-- Not one of the first m powers. -/
def notP (n : Int) (m : Nat) : Prop := ∀ i, i < m → n ≠ ((2 ^ i : Nat) : Int)
theorem powB_yes {n : Int} {m : Nat} (hm : m < 7) (h : n = ((2 ^ m : Nat) : Int)) : powB n = true := by
  rcases (by omega : m = 0 ∨ m = 1 ∨ m = 2 ∨ m = 3 ∨ m = 4 ∨ m = 5 ∨ m = 6) with rfl | rfl | rfl | rfl | rfl | rfl | rfl <;> (subst h; rfl)
theorem powB_no {n : Int} (h : notP n 7) : powB n = false := by
  unfold powB
  rw [decide_eq_false_iff_not]
  have h0 := h 0 (by decide); have h1 := h 1 (by decide); have h2 := h 2 (by decide); have h3 := h 3 (by decide); have h4 := h 4 (by decide); have h5 := h 5 (by decide); have h6 := h 6 (by decide)
  simp at h0 h1 h2 h3 h4 h5 h6
  omega
theorem Power_any (w : World) (n : Int) : Calls Try.prog 25 #[.int .i64 n] w fun e w' => e = .returned (.bool (powB n)) ∧ w = w' := by
  go_enter Try.func25, Try.ntmps25
  go_wp2
  go_loop [3] (fun kv => ∃ m : Nat, m ≤ 7 ∧ kv = .int .i64 ((2 ^ m : Nat) : Int) ∧ Hid (notP n m)) (fun kv => 128 - (intOf kv).toNat)
  case atStart => exact ⟨0, by decide, rfl, hide fun i hi => absurd hi (Nat.not_lt_zero _)⟩
  case round =>
    obtain ⟨m, hm, rfl, hno⟩ := hrel
    have hnx : n ≠ ((2 ^ m : Nat) : Int) → Hid (notP n (m + 1)) := fun e => hide fun i hi => by
      by_cases e2 : i = m
      · subst e2; exact e
      · exact hno.out i (by omega)
    have hys : m < 7 → n = ((2 ^ m : Nat) : Int) → powB n = true := fun h e => powB_yes h e
    rcases (by omega : m = 7 ∨ m = 0 ∨ m = 1 ∨ m = 2 ∨ m = 3 ∨ m = 4 ∨ m = 5 ∨ m = 6) with rfl | h7
    · have hans := hide (powB_no hno.out)
      clear hnx hys
      go_wp2
      go_ret
      rw [hans.out]
      exact ⟨rfl, rfl⟩
    · rcases h7 with rfl | rfl | rfl | rfl | rfl | rfl | rfl
      · have e : (((2 : Nat) ^ 0 : Nat) : Int) = 1 := rfl
        rw [e] at hnx hys ⊢
        clear e
        by_cases h : n = 1
        · have h2 := hide (hys (by decide) h)
          subst h
          clear hnx hys hno
          go_wp2
          go_ret
          rw [h2.out]
          exact ⟨rfl, rfl⟩
        · have h2 := hnx h
          clear hnx hys hno
          go_wp2
          go_round
          case rel => exact ⟨1, by decide, by rfl, h2⟩
          case measure => simp [intOf]
      · have e : (((2 : Nat) ^ 1 : Nat) : Int) = 2 := rfl
        rw [e] at hnx hys ⊢
        clear e
        by_cases h : n = 2
        · have h2 := hide (hys (by decide) h)
          subst h
          clear hnx hys hno
          go_wp2
          go_ret
          rw [h2.out]
          exact ⟨rfl, rfl⟩
        · have h2 := hnx h
          clear hnx hys hno
          go_wp2
          go_round
          case rel => exact ⟨2, by decide, by rfl, h2⟩
          case measure => simp [intOf]
      · have e : (((2 : Nat) ^ 2 : Nat) : Int) = 4 := rfl
        rw [e] at hnx hys ⊢
        clear e
        by_cases h : n = 4
        · have h2 := hide (hys (by decide) h)
          subst h
          clear hnx hys hno
          go_wp2
          go_ret
          rw [h2.out]
          exact ⟨rfl, rfl⟩
        · have h2 := hnx h
          clear hnx hys hno
          go_wp2
          go_round
          case rel => exact ⟨3, by decide, by rfl, h2⟩
          case measure => simp [intOf]
      · have e : (((2 : Nat) ^ 3 : Nat) : Int) = 8 := rfl
        rw [e] at hnx hys ⊢
        clear e
        by_cases h : n = 8
        · have h2 := hide (hys (by decide) h)
          subst h
          clear hnx hys hno
          go_wp2
          go_ret
          rw [h2.out]
          exact ⟨rfl, rfl⟩
        · have h2 := hnx h
          clear hnx hys hno
          go_wp2
          go_round
          case rel => exact ⟨4, by decide, by rfl, h2⟩
          case measure => simp [intOf]
      · have e : (((2 : Nat) ^ 4 : Nat) : Int) = 16 := rfl
        rw [e] at hnx hys ⊢
        clear e
        by_cases h : n = 16
        · have h2 := hide (hys (by decide) h)
          subst h
          clear hnx hys hno
          go_wp2
          go_ret
          rw [h2.out]
          exact ⟨rfl, rfl⟩
        · have h2 := hnx h
          clear hnx hys hno
          go_wp2
          go_round
          case rel => exact ⟨5, by decide, by rfl, h2⟩
          case measure => simp [intOf]
      · have e : (((2 : Nat) ^ 5 : Nat) : Int) = 32 := rfl
        rw [e] at hnx hys ⊢
        clear e
        by_cases h : n = 32
        · have h2 := hide (hys (by decide) h)
          subst h
          clear hnx hys hno
          go_wp2
          go_ret
          rw [h2.out]
          exact ⟨rfl, rfl⟩
        · have h2 := hnx h
          clear hnx hys hno
          go_wp2
          go_round
          case rel => exact ⟨6, by decide, by rfl, h2⟩
          case measure => simp [intOf]
      · have e : (((2 : Nat) ^ 6 : Nat) : Int) = 64 := rfl
        rw [e] at hnx hys ⊢
        clear e
        by_cases h : n = 64
        · have h2 := hide (hys (by decide) h)
          subst h
          clear hnx hys hno
          go_wp2
          go_ret
          rw [h2.out]
          exact ⟨rfl, rfl⟩
        · have h2 := hnx h
          clear hnx hys hno
          go_wp2
          go_round
          case rel => exact ⟨7, by decide, by rfl, h2⟩
          case measure => simp [intOf]
end Go.Proofs.Ytpflodhnniochaa
