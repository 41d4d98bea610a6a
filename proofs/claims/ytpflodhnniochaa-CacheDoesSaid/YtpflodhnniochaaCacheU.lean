/-
  CacheComes where no cache may be.
-/
import Derived.Test.YtpflodhnniochaaCacheS
namespace Go.Proofs.Ytpflodhnniochaa
set_option linter.unusedVariables false
open Go.RowKit Go.Maps

theorem pow_of : ∀ n : Nat, n < 65 → 1 ≤ n → bits .and .i64 (n : Int) ((n : Int) - 1) = 0 → n = 1 ∨ n = 2 ∨ n = 4 ∨ n = 8 ∨ n = 16 ∨ n = 32 ∨ n = 64 := by decide +kernel

set_option maxRecDepth 100000 in
set_option maxHeartbeats 8000000 in
theorem Comes_bad (W : World) (a b c d : Int) (seed : BitVec 64) (at_ lv : Value) (hbad : Bad a b c d) :
    Calls Try.prog 4 #[.agg (shapeC a b c d seed), lv, at_] W fun e w' => e = .returned (.bool true) ∧ Below W.heap.size W w' := by
  unfold shapeC
  go_enter Try.func4, Try.ntmps4
  go_wp2_with fail
  go_at_call 8
  have E0 := env_start W (shapeC a b c d seed)
  unfold shapeC at E0
  refine (fixed_any _).mono ?_
  rintro e w1 ⟨rfl, k1⟩
  have E1 : Env W (shapeC a b c d seed) w1 := E0.below k1
  clear E0 k1
  obtain ⟨c0, c1, c2, c3, c4⟩ := E1.cells
  go_wp2_with fail
  go_at_call 9
  refine (New_bad _ a b c d seed hbad).mono ?_
  rintro e w' ⟨rfl, rfl⟩
  have hB := E1.1
  by_cases g1 : a < 1
  · clear hbad E1; go_wp2; go_ret; exact ⟨rfl, hB⟩
  by_cases g2 : 64 < a
  · clear hbad E1; go_wp2; go_ret; exact ⟨rfl, hB⟩
  by_cases g3 : bits .and .i64 a (a - 1) = 0
  · have g4 : a = 1 ∨ a = 2 ∨ a = 4 ∨ a = 8 ∨ a = 16 ∨ a = 32 ∨ a = 64 := by
      obtain ⟨n, rfl⟩ : ∃ n : Nat, a = n := ⟨a.toNat, by omega⟩
      have := pow_of n (by omega) (by omega) g3
      omega
    have g5 := hbad.resolve_left (fun e => e g4)
    clear hbad E1 g4
    by_cases b1 : b < 1
    · go_wp2; go_ret; exact ⟨rfl, hB⟩
    by_cases b2 : 8 < b
    · go_wp2; go_ret; exact ⟨rfl, hB⟩
    by_cases b3 : c < 1
    · go_wp2; go_ret; exact ⟨rfl, hB⟩
    by_cases b4 : 8 < c
    · go_wp2; go_ret; exact ⟨rfl, hB⟩
    by_cases b5 : d < 1
    · go_wp2; go_ret; exact ⟨rfl, hB⟩
    have b6 : 64 < d := by omega
    clear g5
    go_wp2; go_ret; exact ⟨rfl, hB⟩
  · clear hbad E1; go_wp2; go_ret; exact ⟨rfl, hB⟩
end Go.Proofs.Ytpflodhnniochaa
