/-
  Who may touch a register: the walks of csr.at, csr.May and of the document's There, Fixed, May; and the plain law that they agree. (Printed by gen_csra.py.)
-/
import Derived.Test.YtgkajhpmgeofkaaRegs
import Derived.Below
namespace Go.Proofs.Ytgkajhpmgeofkaa
set_option linter.unusedVariables false
open Go.RowKit

theorem ret2 {a b : Value} {c d : Value} (h : a = c) (g : b = d) : Ending.returned (.tuple #[a, b]) = Ending.returned (.tuple #[c, d]) := by rw [h, g]
theorem ret1 {a b : Value} (h : a = b) : Ending.returned a = Ending.returned b := by rw [h]
theorem int_eq {k : IntKind} {a b : Int} (h : a = b) : Value.int k a = Value.int k b := by rw [h]
theorem bool_eq {a b : Bool} (h : a = b) : Value.bool a = Value.bool b := by rw [h]

/-- What there is at a number. -/
def atK (n : Int) : Int :=
  if n = 1 ∨ n = 2 ∨ n = 3 then 2
  else if n = 384 then 3
  else if n = 266 ∨ n = 778 ∨ n = 930 ∨ n = 3857 ∨ n = 3858 ∨ n = 3859 ∨ n = 3860 ∨ n = 3861 then 5
  else if n = 256 ∨ n = 260 ∨ n = 261 ∨ n = 262 ∨ n = 320 ∨ n = 321 ∨ n = 322 ∨ n = 323 ∨ n = 324 ∨ n = 768 ∨ n = 769 ∨ n = 770 ∨ n = 771 ∨ n = 772 ∨ n = 773 ∨ n = 774 ∨ n = 800 ∨ n = 832 ∨ n = 833 ∨ n = 834 ∨ n = 835 ∨ n = 836 ∨ n = 928 ∨ n = 2816 ∨ n = 2818 then 1
  else if (803 ≤ n ∧ n ≤ 831) ∨ (2819 ≤ n ∧ n ≤ 2847) ∨ (952 ≤ n ∧ n ≤ 959) then 5
  else if (944 ≤ n ∧ n ≤ 951) then 1
  else if (3072 ≤ n ∧ n ≤ 3103) then 4
  else 0

theorem at_1 (w : World) : Calls Try.prog 22 #[.int .i64 1] w fun e w' => e = .returned (.int .i64 2) ∧ w = w' := by
  go_enter Try.func22, Try.ntmps22
  go_wp2
  go_ret
  exact ⟨rfl, rfl⟩

theorem at_2 (w : World) : Calls Try.prog 22 #[.int .i64 2] w fun e w' => e = .returned (.int .i64 2) ∧ w = w' := by
  go_enter Try.func22, Try.ntmps22
  go_wp2
  go_ret
  exact ⟨rfl, rfl⟩

theorem at_3 (w : World) : Calls Try.prog 22 #[.int .i64 3] w fun e w' => e = .returned (.int .i64 2) ∧ w = w' := by
  go_enter Try.func22, Try.ntmps22
  go_wp2
  go_ret
  exact ⟨rfl, rfl⟩

theorem at_384 (w : World) : Calls Try.prog 22 #[.int .i64 384] w fun e w' => e = .returned (.int .i64 3) ∧ w = w' := by
  go_enter Try.func22, Try.ntmps22
  go_wp2
  go_ret
  exact ⟨rfl, rfl⟩

theorem at_266 (w : World) : Calls Try.prog 22 #[.int .i64 266] w fun e w' => e = .returned (.int .i64 5) ∧ w = w' := by
  go_enter Try.func22, Try.ntmps22
  go_wp2
  go_ret
  exact ⟨rfl, rfl⟩

theorem at_778 (w : World) : Calls Try.prog 22 #[.int .i64 778] w fun e w' => e = .returned (.int .i64 5) ∧ w = w' := by
  go_enter Try.func22, Try.ntmps22
  go_wp2
  go_ret
  exact ⟨rfl, rfl⟩

theorem at_930 (w : World) : Calls Try.prog 22 #[.int .i64 930] w fun e w' => e = .returned (.int .i64 5) ∧ w = w' := by
  go_enter Try.func22, Try.ntmps22
  go_wp2
  go_ret
  exact ⟨rfl, rfl⟩

theorem at_3857 (w : World) : Calls Try.prog 22 #[.int .i64 3857] w fun e w' => e = .returned (.int .i64 5) ∧ w = w' := by
  go_enter Try.func22, Try.ntmps22
  go_wp2
  go_ret
  exact ⟨rfl, rfl⟩

theorem at_3858 (w : World) : Calls Try.prog 22 #[.int .i64 3858] w fun e w' => e = .returned (.int .i64 5) ∧ w = w' := by
  go_enter Try.func22, Try.ntmps22
  go_wp2
  go_ret
  exact ⟨rfl, rfl⟩

theorem at_3859 (w : World) : Calls Try.prog 22 #[.int .i64 3859] w fun e w' => e = .returned (.int .i64 5) ∧ w = w' := by
  go_enter Try.func22, Try.ntmps22
  go_wp2
  go_ret
  exact ⟨rfl, rfl⟩

theorem at_3860 (w : World) : Calls Try.prog 22 #[.int .i64 3860] w fun e w' => e = .returned (.int .i64 5) ∧ w = w' := by
  go_enter Try.func22, Try.ntmps22
  go_wp2
  go_ret
  exact ⟨rfl, rfl⟩

theorem at_3861 (w : World) : Calls Try.prog 22 #[.int .i64 3861] w fun e w' => e = .returned (.int .i64 5) ∧ w = w' := by
  go_enter Try.func22, Try.ntmps22
  go_wp2
  go_ret
  exact ⟨rfl, rfl⟩

theorem at_256 (w : World) : Calls Try.prog 22 #[.int .i64 256] w fun e w' => e = .returned (.int .i64 1) ∧ w = w' := by
  go_enter Try.func22, Try.ntmps22
  go_wp2
  go_ret
  exact ⟨rfl, rfl⟩

theorem at_260 (w : World) : Calls Try.prog 22 #[.int .i64 260] w fun e w' => e = .returned (.int .i64 1) ∧ w = w' := by
  go_enter Try.func22, Try.ntmps22
  go_wp2
  go_ret
  exact ⟨rfl, rfl⟩

theorem at_261 (w : World) : Calls Try.prog 22 #[.int .i64 261] w fun e w' => e = .returned (.int .i64 1) ∧ w = w' := by
  go_enter Try.func22, Try.ntmps22
  go_wp2
  go_ret
  exact ⟨rfl, rfl⟩

theorem at_262 (w : World) : Calls Try.prog 22 #[.int .i64 262] w fun e w' => e = .returned (.int .i64 1) ∧ w = w' := by
  go_enter Try.func22, Try.ntmps22
  go_wp2
  go_ret
  exact ⟨rfl, rfl⟩

theorem at_320 (w : World) : Calls Try.prog 22 #[.int .i64 320] w fun e w' => e = .returned (.int .i64 1) ∧ w = w' := by
  go_enter Try.func22, Try.ntmps22
  go_wp2
  go_ret
  exact ⟨rfl, rfl⟩

theorem at_321 (w : World) : Calls Try.prog 22 #[.int .i64 321] w fun e w' => e = .returned (.int .i64 1) ∧ w = w' := by
  go_enter Try.func22, Try.ntmps22
  go_wp2
  go_ret
  exact ⟨rfl, rfl⟩

theorem at_322 (w : World) : Calls Try.prog 22 #[.int .i64 322] w fun e w' => e = .returned (.int .i64 1) ∧ w = w' := by
  go_enter Try.func22, Try.ntmps22
  go_wp2
  go_ret
  exact ⟨rfl, rfl⟩

theorem at_323 (w : World) : Calls Try.prog 22 #[.int .i64 323] w fun e w' => e = .returned (.int .i64 1) ∧ w = w' := by
  go_enter Try.func22, Try.ntmps22
  go_wp2
  go_ret
  exact ⟨rfl, rfl⟩

theorem at_324 (w : World) : Calls Try.prog 22 #[.int .i64 324] w fun e w' => e = .returned (.int .i64 1) ∧ w = w' := by
  go_enter Try.func22, Try.ntmps22
  go_wp2
  go_ret
  exact ⟨rfl, rfl⟩

theorem at_768 (w : World) : Calls Try.prog 22 #[.int .i64 768] w fun e w' => e = .returned (.int .i64 1) ∧ w = w' := by
  go_enter Try.func22, Try.ntmps22
  go_wp2
  go_ret
  exact ⟨rfl, rfl⟩

theorem at_769 (w : World) : Calls Try.prog 22 #[.int .i64 769] w fun e w' => e = .returned (.int .i64 1) ∧ w = w' := by
  go_enter Try.func22, Try.ntmps22
  go_wp2
  go_ret
  exact ⟨rfl, rfl⟩

theorem at_770 (w : World) : Calls Try.prog 22 #[.int .i64 770] w fun e w' => e = .returned (.int .i64 1) ∧ w = w' := by
  go_enter Try.func22, Try.ntmps22
  go_wp2
  go_ret
  exact ⟨rfl, rfl⟩

theorem at_771 (w : World) : Calls Try.prog 22 #[.int .i64 771] w fun e w' => e = .returned (.int .i64 1) ∧ w = w' := by
  go_enter Try.func22, Try.ntmps22
  go_wp2
  go_ret
  exact ⟨rfl, rfl⟩

theorem at_772 (w : World) : Calls Try.prog 22 #[.int .i64 772] w fun e w' => e = .returned (.int .i64 1) ∧ w = w' := by
  go_enter Try.func22, Try.ntmps22
  go_wp2
  go_ret
  exact ⟨rfl, rfl⟩

theorem at_773 (w : World) : Calls Try.prog 22 #[.int .i64 773] w fun e w' => e = .returned (.int .i64 1) ∧ w = w' := by
  go_enter Try.func22, Try.ntmps22
  go_wp2
  go_ret
  exact ⟨rfl, rfl⟩

theorem at_774 (w : World) : Calls Try.prog 22 #[.int .i64 774] w fun e w' => e = .returned (.int .i64 1) ∧ w = w' := by
  go_enter Try.func22, Try.ntmps22
  go_wp2
  go_ret
  exact ⟨rfl, rfl⟩

theorem at_800 (w : World) : Calls Try.prog 22 #[.int .i64 800] w fun e w' => e = .returned (.int .i64 1) ∧ w = w' := by
  go_enter Try.func22, Try.ntmps22
  go_wp2
  go_ret
  exact ⟨rfl, rfl⟩

theorem at_832 (w : World) : Calls Try.prog 22 #[.int .i64 832] w fun e w' => e = .returned (.int .i64 1) ∧ w = w' := by
  go_enter Try.func22, Try.ntmps22
  go_wp2
  go_ret
  exact ⟨rfl, rfl⟩

theorem at_833 (w : World) : Calls Try.prog 22 #[.int .i64 833] w fun e w' => e = .returned (.int .i64 1) ∧ w = w' := by
  go_enter Try.func22, Try.ntmps22
  go_wp2
  go_ret
  exact ⟨rfl, rfl⟩

theorem at_834 (w : World) : Calls Try.prog 22 #[.int .i64 834] w fun e w' => e = .returned (.int .i64 1) ∧ w = w' := by
  go_enter Try.func22, Try.ntmps22
  go_wp2
  go_ret
  exact ⟨rfl, rfl⟩

theorem at_835 (w : World) : Calls Try.prog 22 #[.int .i64 835] w fun e w' => e = .returned (.int .i64 1) ∧ w = w' := by
  go_enter Try.func22, Try.ntmps22
  go_wp2
  go_ret
  exact ⟨rfl, rfl⟩

theorem at_836 (w : World) : Calls Try.prog 22 #[.int .i64 836] w fun e w' => e = .returned (.int .i64 1) ∧ w = w' := by
  go_enter Try.func22, Try.ntmps22
  go_wp2
  go_ret
  exact ⟨rfl, rfl⟩

theorem at_928 (w : World) : Calls Try.prog 22 #[.int .i64 928] w fun e w' => e = .returned (.int .i64 1) ∧ w = w' := by
  go_enter Try.func22, Try.ntmps22
  go_wp2
  go_ret
  exact ⟨rfl, rfl⟩

theorem at_2816 (w : World) : Calls Try.prog 22 #[.int .i64 2816] w fun e w' => e = .returned (.int .i64 1) ∧ w = w' := by
  go_enter Try.func22, Try.ntmps22
  go_wp2
  go_ret
  exact ⟨rfl, rfl⟩

theorem at_2818 (w : World) : Calls Try.prog 22 #[.int .i64 2818] w fun e w' => e = .returned (.int .i64 1) ∧ w = w' := by
  go_enter Try.func22, Try.ntmps22
  go_wp2
  go_ret
  exact ⟨rfl, rfl⟩

set_option maxHeartbeats 1000000 in
theorem at_r0 (n : Int) (n1 : (n == 1) = false) (n2 : (n == 2) = false) (n3 : (n == 3) = false) (n384 : (n == 384) = false) (n266 : (n == 266) = false) (n778 : (n == 778) = false) (n930 : (n == 930) = false) (n3857 : (n == 3857) = false) (n3858 : (n == 3858) = false) (n3859 : (n == 3859) = false) (n3860 : (n == 3860) = false) (n3861 : (n == 3861) = false) (n256 : (n == 256) = false) (n260 : (n == 260) = false) (n261 : (n == 261) = false) (n262 : (n == 262) = false) (n320 : (n == 320) = false) (n321 : (n == 321) = false) (n322 : (n == 322) = false) (n323 : (n == 323) = false) (n324 : (n == 324) = false) (n768 : (n == 768) = false) (n769 : (n == 769) = false) (n770 : (n == 770) = false) (n771 : (n == 771) = false) (n772 : (n == 772) = false) (n773 : (n == 773) = false) (n774 : (n == 774) = false) (n800 : (n == 800) = false) (n832 : (n == 832) = false) (n833 : (n == 833) = false) (n834 : (n == 834) = false) (n835 : (n == 835) = false) (n836 : (n == 836) = false) (n928 : (n == 928) = false) (n2816 : (n == 2816) = false) (n2818 : (n == 2818) = false) (h1 : 803 ≤ n) (h2 : n ≤ 831) (w : World) : Calls Try.prog 22 #[.int .i64 n] w fun e w' => e = .returned (.int .i64 5) ∧ w = w' := by
  go_enter Try.func22, Try.ntmps22
  go_wp2
  go_ret
  exact ⟨rfl, rfl⟩

set_option maxHeartbeats 1000000 in
theorem at_r1 (n : Int) (n1 : (n == 1) = false) (n2 : (n == 2) = false) (n3 : (n == 3) = false) (n384 : (n == 384) = false) (n266 : (n == 266) = false) (n778 : (n == 778) = false) (n930 : (n == 930) = false) (n3857 : (n == 3857) = false) (n3858 : (n == 3858) = false) (n3859 : (n == 3859) = false) (n3860 : (n == 3860) = false) (n3861 : (n == 3861) = false) (n256 : (n == 256) = false) (n260 : (n == 260) = false) (n261 : (n == 261) = false) (n262 : (n == 262) = false) (n320 : (n == 320) = false) (n321 : (n == 321) = false) (n322 : (n == 322) = false) (n323 : (n == 323) = false) (n324 : (n == 324) = false) (n768 : (n == 768) = false) (n769 : (n == 769) = false) (n770 : (n == 770) = false) (n771 : (n == 771) = false) (n772 : (n == 772) = false) (n773 : (n == 773) = false) (n774 : (n == 774) = false) (n800 : (n == 800) = false) (n832 : (n == 832) = false) (n833 : (n == 833) = false) (n834 : (n == 834) = false) (n835 : (n == 835) = false) (n836 : (n == 836) = false) (n928 : (n == 928) = false) (n2816 : (n == 2816) = false) (n2818 : (n == 2818) = false) (h1 : 2819 ≤ n) (h2 : n ≤ 2847) (w : World) : Calls Try.prog 22 #[.int .i64 n] w fun e w' => e = .returned (.int .i64 5) ∧ w = w' := by
  go_enter Try.func22, Try.ntmps22
  go_wp2
  go_ret
  exact ⟨rfl, rfl⟩

set_option maxHeartbeats 1000000 in
theorem at_r2 (n : Int) (n1 : (n == 1) = false) (n2 : (n == 2) = false) (n3 : (n == 3) = false) (n384 : (n == 384) = false) (n266 : (n == 266) = false) (n778 : (n == 778) = false) (n930 : (n == 930) = false) (n3857 : (n == 3857) = false) (n3858 : (n == 3858) = false) (n3859 : (n == 3859) = false) (n3860 : (n == 3860) = false) (n3861 : (n == 3861) = false) (n256 : (n == 256) = false) (n260 : (n == 260) = false) (n261 : (n == 261) = false) (n262 : (n == 262) = false) (n320 : (n == 320) = false) (n321 : (n == 321) = false) (n322 : (n == 322) = false) (n323 : (n == 323) = false) (n324 : (n == 324) = false) (n768 : (n == 768) = false) (n769 : (n == 769) = false) (n770 : (n == 770) = false) (n771 : (n == 771) = false) (n772 : (n == 772) = false) (n773 : (n == 773) = false) (n774 : (n == 774) = false) (n800 : (n == 800) = false) (n832 : (n == 832) = false) (n833 : (n == 833) = false) (n834 : (n == 834) = false) (n835 : (n == 835) = false) (n836 : (n == 836) = false) (n928 : (n == 928) = false) (n2816 : (n == 2816) = false) (n2818 : (n == 2818) = false) (h1 : 952 ≤ n) (h2 : n ≤ 959) (w : World) : Calls Try.prog 22 #[.int .i64 n] w fun e w' => e = .returned (.int .i64 5) ∧ w = w' := by
  go_enter Try.func22, Try.ntmps22
  go_wp2
  go_ret
  exact ⟨rfl, rfl⟩

set_option maxHeartbeats 1000000 in
theorem at_r3 (n : Int) (n1 : (n == 1) = false) (n2 : (n == 2) = false) (n3 : (n == 3) = false) (n384 : (n == 384) = false) (n266 : (n == 266) = false) (n778 : (n == 778) = false) (n930 : (n == 930) = false) (n3857 : (n == 3857) = false) (n3858 : (n == 3858) = false) (n3859 : (n == 3859) = false) (n3860 : (n == 3860) = false) (n3861 : (n == 3861) = false) (n256 : (n == 256) = false) (n260 : (n == 260) = false) (n261 : (n == 261) = false) (n262 : (n == 262) = false) (n320 : (n == 320) = false) (n321 : (n == 321) = false) (n322 : (n == 322) = false) (n323 : (n == 323) = false) (n324 : (n == 324) = false) (n768 : (n == 768) = false) (n769 : (n == 769) = false) (n770 : (n == 770) = false) (n771 : (n == 771) = false) (n772 : (n == 772) = false) (n773 : (n == 773) = false) (n774 : (n == 774) = false) (n800 : (n == 800) = false) (n832 : (n == 832) = false) (n833 : (n == 833) = false) (n834 : (n == 834) = false) (n835 : (n == 835) = false) (n836 : (n == 836) = false) (n928 : (n == 928) = false) (n2816 : (n == 2816) = false) (n2818 : (n == 2818) = false) (h1 : 944 ≤ n) (h2 : n ≤ 951) (w : World) : Calls Try.prog 22 #[.int .i64 n] w fun e w' => e = .returned (.int .i64 1) ∧ w = w' := by
  go_enter Try.func22, Try.ntmps22
  go_wp2
  go_ret
  exact ⟨rfl, rfl⟩

set_option maxHeartbeats 1000000 in
theorem at_r4 (n : Int) (n1 : (n == 1) = false) (n2 : (n == 2) = false) (n3 : (n == 3) = false) (n384 : (n == 384) = false) (n266 : (n == 266) = false) (n778 : (n == 778) = false) (n930 : (n == 930) = false) (n3857 : (n == 3857) = false) (n3858 : (n == 3858) = false) (n3859 : (n == 3859) = false) (n3860 : (n == 3860) = false) (n3861 : (n == 3861) = false) (n256 : (n == 256) = false) (n260 : (n == 260) = false) (n261 : (n == 261) = false) (n262 : (n == 262) = false) (n320 : (n == 320) = false) (n321 : (n == 321) = false) (n322 : (n == 322) = false) (n323 : (n == 323) = false) (n324 : (n == 324) = false) (n768 : (n == 768) = false) (n769 : (n == 769) = false) (n770 : (n == 770) = false) (n771 : (n == 771) = false) (n772 : (n == 772) = false) (n773 : (n == 773) = false) (n774 : (n == 774) = false) (n800 : (n == 800) = false) (n832 : (n == 832) = false) (n833 : (n == 833) = false) (n834 : (n == 834) = false) (n835 : (n == 835) = false) (n836 : (n == 836) = false) (n928 : (n == 928) = false) (n2816 : (n == 2816) = false) (n2818 : (n == 2818) = false) (h1 : 3072 ≤ n) (h2 : n ≤ 3103) (w : World) : Calls Try.prog 22 #[.int .i64 n] w fun e w' => e = .returned (.int .i64 4) ∧ w = w' := by
  go_enter Try.func22, Try.ntmps22
  go_wp2
  go_ret
  exact ⟨rfl, rfl⟩

set_option maxHeartbeats 4000000 in
theorem at_none (n : Int) (n1 : (n == 1) = false) (n2 : (n == 2) = false) (n3 : (n == 3) = false) (n384 : (n == 384) = false) (n266 : (n == 266) = false) (n778 : (n == 778) = false) (n930 : (n == 930) = false) (n3857 : (n == 3857) = false) (n3858 : (n == 3858) = false) (n3859 : (n == 3859) = false) (n3860 : (n == 3860) = false) (n3861 : (n == 3861) = false) (n256 : (n == 256) = false) (n260 : (n == 260) = false) (n261 : (n == 261) = false) (n262 : (n == 262) = false) (n320 : (n == 320) = false) (n321 : (n == 321) = false) (n322 : (n == 322) = false) (n323 : (n == 323) = false) (n324 : (n == 324) = false) (n768 : (n == 768) = false) (n769 : (n == 769) = false) (n770 : (n == 770) = false) (n771 : (n == 771) = false) (n772 : (n == 772) = false) (n773 : (n == 773) = false) (n774 : (n == 774) = false) (n800 : (n == 800) = false) (n832 : (n == 832) = false) (n833 : (n == 833) = false) (n834 : (n == 834) = false) (n835 : (n == 835) = false) (n836 : (n == 836) = false) (n928 : (n == 928) = false) (n2816 : (n == 2816) = false) (n2818 : (n == 2818) = false) (r0 : ¬ (803 ≤ n ∧ n ≤ 831)) (r1 : ¬ (2819 ≤ n ∧ n ≤ 2847)) (r2 : ¬ (952 ≤ n ∧ n ≤ 959)) (r3 : ¬ (944 ≤ n ∧ n ≤ 951)) (r4 : ¬ (3072 ≤ n ∧ n ≤ 3103)) (w : World) : Calls Try.prog 22 #[.int .i64 n] w fun e w' => e = .returned (.int .i64 0) ∧ w = w' := by
  have s0 : decide (803 ≤ n) = false ∨ (decide (803 ≤ n) = true ∧ decide (n ≤ 831) = false) := by
    by_cases h : 803 ≤ n
    · exact .inr ⟨decide_eq_true h, decide_eq_false (fun h2 => r0 ⟨h, h2⟩)⟩
    · exact .inl (decide_eq_false h)
  have s1 : decide (2819 ≤ n) = false ∨ (decide (2819 ≤ n) = true ∧ decide (n ≤ 2847) = false) := by
    by_cases h : 2819 ≤ n
    · exact .inr ⟨decide_eq_true h, decide_eq_false (fun h2 => r1 ⟨h, h2⟩)⟩
    · exact .inl (decide_eq_false h)
  have s2 : decide (952 ≤ n) = false ∨ (decide (952 ≤ n) = true ∧ decide (n ≤ 959) = false) := by
    by_cases h : 952 ≤ n
    · exact .inr ⟨decide_eq_true h, decide_eq_false (fun h2 => r2 ⟨h, h2⟩)⟩
    · exact .inl (decide_eq_false h)
  have s3 : decide (944 ≤ n) = false ∨ (decide (944 ≤ n) = true ∧ decide (n ≤ 951) = false) := by
    by_cases h : 944 ≤ n
    · exact .inr ⟨decide_eq_true h, decide_eq_false (fun h2 => r3 ⟨h, h2⟩)⟩
    · exact .inl (decide_eq_false h)
  have s4 : decide (3072 ≤ n) = false ∨ (decide (3072 ≤ n) = true ∧ decide (n ≤ 3103) = false) := by
    by_cases h : 3072 ≤ n
    · exact .inr ⟨decide_eq_true h, decide_eq_false (fun h2 => r4 ⟨h, h2⟩)⟩
    · exact .inl (decide_eq_false h)
  go_enter Try.func22, Try.ntmps22
  go_wp2
  all_goals
    go_ret
    exact ⟨rfl, rfl⟩

theorem at_any (n : Int) (w : World) : Calls Try.prog 22 #[.int .i64 n] w fun e w' => e = .returned (.int .i64 (atK n)) ∧ w = w' := by
  by_cases n1 : n = 1
  · subst n1; exact at_1 w
  by_cases n2 : n = 2
  · subst n2; exact at_2 w
  by_cases n3 : n = 3
  · subst n3; exact at_3 w
  by_cases n384 : n = 384
  · subst n384; exact at_384 w
  by_cases n266 : n = 266
  · subst n266; exact at_266 w
  by_cases n778 : n = 778
  · subst n778; exact at_778 w
  by_cases n930 : n = 930
  · subst n930; exact at_930 w
  by_cases n3857 : n = 3857
  · subst n3857; exact at_3857 w
  by_cases n3858 : n = 3858
  · subst n3858; exact at_3858 w
  by_cases n3859 : n = 3859
  · subst n3859; exact at_3859 w
  by_cases n3860 : n = 3860
  · subst n3860; exact at_3860 w
  by_cases n3861 : n = 3861
  · subst n3861; exact at_3861 w
  by_cases n256 : n = 256
  · subst n256; exact at_256 w
  by_cases n260 : n = 260
  · subst n260; exact at_260 w
  by_cases n261 : n = 261
  · subst n261; exact at_261 w
  by_cases n262 : n = 262
  · subst n262; exact at_262 w
  by_cases n320 : n = 320
  · subst n320; exact at_320 w
  by_cases n321 : n = 321
  · subst n321; exact at_321 w
  by_cases n322 : n = 322
  · subst n322; exact at_322 w
  by_cases n323 : n = 323
  · subst n323; exact at_323 w
  by_cases n324 : n = 324
  · subst n324; exact at_324 w
  by_cases n768 : n = 768
  · subst n768; exact at_768 w
  by_cases n769 : n = 769
  · subst n769; exact at_769 w
  by_cases n770 : n = 770
  · subst n770; exact at_770 w
  by_cases n771 : n = 771
  · subst n771; exact at_771 w
  by_cases n772 : n = 772
  · subst n772; exact at_772 w
  by_cases n773 : n = 773
  · subst n773; exact at_773 w
  by_cases n774 : n = 774
  · subst n774; exact at_774 w
  by_cases n800 : n = 800
  · subst n800; exact at_800 w
  by_cases n832 : n = 832
  · subst n832; exact at_832 w
  by_cases n833 : n = 833
  · subst n833; exact at_833 w
  by_cases n834 : n = 834
  · subst n834; exact at_834 w
  by_cases n835 : n = 835
  · subst n835; exact at_835 w
  by_cases n836 : n = 836
  · subst n836; exact at_836 w
  by_cases n928 : n = 928
  · subst n928; exact at_928 w
  by_cases n2816 : n = 2816
  · subst n2816; exact at_2816 w
  by_cases n2818 : n = 2818
  · subst n2818; exact at_2818 w
  by_cases r0 : 803 ≤ n ∧ n ≤ 831
  · have e : atK n = 5 := by
      simp only [atK, n1, n2, n3, n384, n266, n778, n930, n3857, n3858, n3859, n3860, n3861, n256, n260, n261, n262, n320, n321, n322, n323, n324, n768, n769, n770, n771, n772, n773, n774, n800, n832, n833, n834, n835, n836, n928, n2816, n2818, or_self, if_false]
      (repeat' split) <;> omega
    rw [e]
    exact at_r0 n (beq_eq_false_iff_ne.2 n1) (beq_eq_false_iff_ne.2 n2) (beq_eq_false_iff_ne.2 n3) (beq_eq_false_iff_ne.2 n384) (beq_eq_false_iff_ne.2 n266) (beq_eq_false_iff_ne.2 n778) (beq_eq_false_iff_ne.2 n930) (beq_eq_false_iff_ne.2 n3857) (beq_eq_false_iff_ne.2 n3858) (beq_eq_false_iff_ne.2 n3859) (beq_eq_false_iff_ne.2 n3860) (beq_eq_false_iff_ne.2 n3861) (beq_eq_false_iff_ne.2 n256) (beq_eq_false_iff_ne.2 n260) (beq_eq_false_iff_ne.2 n261) (beq_eq_false_iff_ne.2 n262) (beq_eq_false_iff_ne.2 n320) (beq_eq_false_iff_ne.2 n321) (beq_eq_false_iff_ne.2 n322) (beq_eq_false_iff_ne.2 n323) (beq_eq_false_iff_ne.2 n324) (beq_eq_false_iff_ne.2 n768) (beq_eq_false_iff_ne.2 n769) (beq_eq_false_iff_ne.2 n770) (beq_eq_false_iff_ne.2 n771) (beq_eq_false_iff_ne.2 n772) (beq_eq_false_iff_ne.2 n773) (beq_eq_false_iff_ne.2 n774) (beq_eq_false_iff_ne.2 n800) (beq_eq_false_iff_ne.2 n832) (beq_eq_false_iff_ne.2 n833) (beq_eq_false_iff_ne.2 n834) (beq_eq_false_iff_ne.2 n835) (beq_eq_false_iff_ne.2 n836) (beq_eq_false_iff_ne.2 n928) (beq_eq_false_iff_ne.2 n2816) (beq_eq_false_iff_ne.2 n2818) r0.1 r0.2 w
  by_cases r1 : 2819 ≤ n ∧ n ≤ 2847
  · have e : atK n = 5 := by
      simp only [atK, n1, n2, n3, n384, n266, n778, n930, n3857, n3858, n3859, n3860, n3861, n256, n260, n261, n262, n320, n321, n322, n323, n324, n768, n769, n770, n771, n772, n773, n774, n800, n832, n833, n834, n835, n836, n928, n2816, n2818, or_self, if_false]
      (repeat' split) <;> omega
    rw [e]
    exact at_r1 n (beq_eq_false_iff_ne.2 n1) (beq_eq_false_iff_ne.2 n2) (beq_eq_false_iff_ne.2 n3) (beq_eq_false_iff_ne.2 n384) (beq_eq_false_iff_ne.2 n266) (beq_eq_false_iff_ne.2 n778) (beq_eq_false_iff_ne.2 n930) (beq_eq_false_iff_ne.2 n3857) (beq_eq_false_iff_ne.2 n3858) (beq_eq_false_iff_ne.2 n3859) (beq_eq_false_iff_ne.2 n3860) (beq_eq_false_iff_ne.2 n3861) (beq_eq_false_iff_ne.2 n256) (beq_eq_false_iff_ne.2 n260) (beq_eq_false_iff_ne.2 n261) (beq_eq_false_iff_ne.2 n262) (beq_eq_false_iff_ne.2 n320) (beq_eq_false_iff_ne.2 n321) (beq_eq_false_iff_ne.2 n322) (beq_eq_false_iff_ne.2 n323) (beq_eq_false_iff_ne.2 n324) (beq_eq_false_iff_ne.2 n768) (beq_eq_false_iff_ne.2 n769) (beq_eq_false_iff_ne.2 n770) (beq_eq_false_iff_ne.2 n771) (beq_eq_false_iff_ne.2 n772) (beq_eq_false_iff_ne.2 n773) (beq_eq_false_iff_ne.2 n774) (beq_eq_false_iff_ne.2 n800) (beq_eq_false_iff_ne.2 n832) (beq_eq_false_iff_ne.2 n833) (beq_eq_false_iff_ne.2 n834) (beq_eq_false_iff_ne.2 n835) (beq_eq_false_iff_ne.2 n836) (beq_eq_false_iff_ne.2 n928) (beq_eq_false_iff_ne.2 n2816) (beq_eq_false_iff_ne.2 n2818) r1.1 r1.2 w
  by_cases r2 : 952 ≤ n ∧ n ≤ 959
  · have e : atK n = 5 := by
      simp only [atK, n1, n2, n3, n384, n266, n778, n930, n3857, n3858, n3859, n3860, n3861, n256, n260, n261, n262, n320, n321, n322, n323, n324, n768, n769, n770, n771, n772, n773, n774, n800, n832, n833, n834, n835, n836, n928, n2816, n2818, or_self, if_false]
      (repeat' split) <;> omega
    rw [e]
    exact at_r2 n (beq_eq_false_iff_ne.2 n1) (beq_eq_false_iff_ne.2 n2) (beq_eq_false_iff_ne.2 n3) (beq_eq_false_iff_ne.2 n384) (beq_eq_false_iff_ne.2 n266) (beq_eq_false_iff_ne.2 n778) (beq_eq_false_iff_ne.2 n930) (beq_eq_false_iff_ne.2 n3857) (beq_eq_false_iff_ne.2 n3858) (beq_eq_false_iff_ne.2 n3859) (beq_eq_false_iff_ne.2 n3860) (beq_eq_false_iff_ne.2 n3861) (beq_eq_false_iff_ne.2 n256) (beq_eq_false_iff_ne.2 n260) (beq_eq_false_iff_ne.2 n261) (beq_eq_false_iff_ne.2 n262) (beq_eq_false_iff_ne.2 n320) (beq_eq_false_iff_ne.2 n321) (beq_eq_false_iff_ne.2 n322) (beq_eq_false_iff_ne.2 n323) (beq_eq_false_iff_ne.2 n324) (beq_eq_false_iff_ne.2 n768) (beq_eq_false_iff_ne.2 n769) (beq_eq_false_iff_ne.2 n770) (beq_eq_false_iff_ne.2 n771) (beq_eq_false_iff_ne.2 n772) (beq_eq_false_iff_ne.2 n773) (beq_eq_false_iff_ne.2 n774) (beq_eq_false_iff_ne.2 n800) (beq_eq_false_iff_ne.2 n832) (beq_eq_false_iff_ne.2 n833) (beq_eq_false_iff_ne.2 n834) (beq_eq_false_iff_ne.2 n835) (beq_eq_false_iff_ne.2 n836) (beq_eq_false_iff_ne.2 n928) (beq_eq_false_iff_ne.2 n2816) (beq_eq_false_iff_ne.2 n2818) r2.1 r2.2 w
  by_cases r3 : 944 ≤ n ∧ n ≤ 951
  · have e : atK n = 1 := by
      simp only [atK, n1, n2, n3, n384, n266, n778, n930, n3857, n3858, n3859, n3860, n3861, n256, n260, n261, n262, n320, n321, n322, n323, n324, n768, n769, n770, n771, n772, n773, n774, n800, n832, n833, n834, n835, n836, n928, n2816, n2818, or_self, if_false]
      (repeat' split) <;> omega
    rw [e]
    exact at_r3 n (beq_eq_false_iff_ne.2 n1) (beq_eq_false_iff_ne.2 n2) (beq_eq_false_iff_ne.2 n3) (beq_eq_false_iff_ne.2 n384) (beq_eq_false_iff_ne.2 n266) (beq_eq_false_iff_ne.2 n778) (beq_eq_false_iff_ne.2 n930) (beq_eq_false_iff_ne.2 n3857) (beq_eq_false_iff_ne.2 n3858) (beq_eq_false_iff_ne.2 n3859) (beq_eq_false_iff_ne.2 n3860) (beq_eq_false_iff_ne.2 n3861) (beq_eq_false_iff_ne.2 n256) (beq_eq_false_iff_ne.2 n260) (beq_eq_false_iff_ne.2 n261) (beq_eq_false_iff_ne.2 n262) (beq_eq_false_iff_ne.2 n320) (beq_eq_false_iff_ne.2 n321) (beq_eq_false_iff_ne.2 n322) (beq_eq_false_iff_ne.2 n323) (beq_eq_false_iff_ne.2 n324) (beq_eq_false_iff_ne.2 n768) (beq_eq_false_iff_ne.2 n769) (beq_eq_false_iff_ne.2 n770) (beq_eq_false_iff_ne.2 n771) (beq_eq_false_iff_ne.2 n772) (beq_eq_false_iff_ne.2 n773) (beq_eq_false_iff_ne.2 n774) (beq_eq_false_iff_ne.2 n800) (beq_eq_false_iff_ne.2 n832) (beq_eq_false_iff_ne.2 n833) (beq_eq_false_iff_ne.2 n834) (beq_eq_false_iff_ne.2 n835) (beq_eq_false_iff_ne.2 n836) (beq_eq_false_iff_ne.2 n928) (beq_eq_false_iff_ne.2 n2816) (beq_eq_false_iff_ne.2 n2818) r3.1 r3.2 w
  by_cases r4 : 3072 ≤ n ∧ n ≤ 3103
  · have e : atK n = 4 := by
      simp only [atK, n1, n2, n3, n384, n266, n778, n930, n3857, n3858, n3859, n3860, n3861, n256, n260, n261, n262, n320, n321, n322, n323, n324, n768, n769, n770, n771, n772, n773, n774, n800, n832, n833, n834, n835, n836, n928, n2816, n2818, or_self, if_false]
      (repeat' split) <;> omega
    rw [e]
    exact at_r4 n (beq_eq_false_iff_ne.2 n1) (beq_eq_false_iff_ne.2 n2) (beq_eq_false_iff_ne.2 n3) (beq_eq_false_iff_ne.2 n384) (beq_eq_false_iff_ne.2 n266) (beq_eq_false_iff_ne.2 n778) (beq_eq_false_iff_ne.2 n930) (beq_eq_false_iff_ne.2 n3857) (beq_eq_false_iff_ne.2 n3858) (beq_eq_false_iff_ne.2 n3859) (beq_eq_false_iff_ne.2 n3860) (beq_eq_false_iff_ne.2 n3861) (beq_eq_false_iff_ne.2 n256) (beq_eq_false_iff_ne.2 n260) (beq_eq_false_iff_ne.2 n261) (beq_eq_false_iff_ne.2 n262) (beq_eq_false_iff_ne.2 n320) (beq_eq_false_iff_ne.2 n321) (beq_eq_false_iff_ne.2 n322) (beq_eq_false_iff_ne.2 n323) (beq_eq_false_iff_ne.2 n324) (beq_eq_false_iff_ne.2 n768) (beq_eq_false_iff_ne.2 n769) (beq_eq_false_iff_ne.2 n770) (beq_eq_false_iff_ne.2 n771) (beq_eq_false_iff_ne.2 n772) (beq_eq_false_iff_ne.2 n773) (beq_eq_false_iff_ne.2 n774) (beq_eq_false_iff_ne.2 n800) (beq_eq_false_iff_ne.2 n832) (beq_eq_false_iff_ne.2 n833) (beq_eq_false_iff_ne.2 n834) (beq_eq_false_iff_ne.2 n835) (beq_eq_false_iff_ne.2 n836) (beq_eq_false_iff_ne.2 n928) (beq_eq_false_iff_ne.2 n2816) (beq_eq_false_iff_ne.2 n2818) r4.1 r4.2 w
  have e : atK n = 0 := by
    simp only [atK, n1, n2, n3, n384, n266, n778, n930, n3857, n3858, n3859, n3860, n3861, n256, n260, n261, n262, n320, n321, n322, n323, n324, n768, n769, n770, n771, n772, n773, n774, n800, n832, n833, n834, n835, n836, n928, n2816, n2818, or_self, if_false]
    (repeat' split) <;> omega
  rw [e]
  exact at_none n (beq_eq_false_iff_ne.2 n1) (beq_eq_false_iff_ne.2 n2) (beq_eq_false_iff_ne.2 n3) (beq_eq_false_iff_ne.2 n384) (beq_eq_false_iff_ne.2 n266) (beq_eq_false_iff_ne.2 n778) (beq_eq_false_iff_ne.2 n930) (beq_eq_false_iff_ne.2 n3857) (beq_eq_false_iff_ne.2 n3858) (beq_eq_false_iff_ne.2 n3859) (beq_eq_false_iff_ne.2 n3860) (beq_eq_false_iff_ne.2 n3861) (beq_eq_false_iff_ne.2 n256) (beq_eq_false_iff_ne.2 n260) (beq_eq_false_iff_ne.2 n261) (beq_eq_false_iff_ne.2 n262) (beq_eq_false_iff_ne.2 n320) (beq_eq_false_iff_ne.2 n321) (beq_eq_false_iff_ne.2 n322) (beq_eq_false_iff_ne.2 n323) (beq_eq_false_iff_ne.2 n324) (beq_eq_false_iff_ne.2 n768) (beq_eq_false_iff_ne.2 n769) (beq_eq_false_iff_ne.2 n770) (beq_eq_false_iff_ne.2 n771) (beq_eq_false_iff_ne.2 n772) (beq_eq_false_iff_ne.2 n773) (beq_eq_false_iff_ne.2 n774) (beq_eq_false_iff_ne.2 n800) (beq_eq_false_iff_ne.2 n832) (beq_eq_false_iff_ne.2 n833) (beq_eq_false_iff_ne.2 n834) (beq_eq_false_iff_ne.2 n835) (beq_eq_false_iff_ne.2 n836) (beq_eq_false_iff_ne.2 n928) (beq_eq_false_iff_ne.2 n2816) (beq_eq_false_iff_ne.2 n2818) r0 r1 r2 r3 r4 w

end Go.Proofs.Ytgkajhpmgeofkaa