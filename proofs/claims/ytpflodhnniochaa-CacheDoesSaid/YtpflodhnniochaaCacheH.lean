/-
  Walks: New at what no cache may be; the sort of at most one number; Flush.
-/
import Derived.Test.YtpflodhnniochaaCacheF
namespace Go.Proofs.Ytpflodhnniochaa
set_option linter.unusedVariables false
open Go.RowKit Go.Maps

set_option maxRecDepth 100000 in
set_option maxHeartbeats 4000000 in
theorem New_bad (w : World) (sets ways ns delay : Int) (seed : BitVec 64)
    (h : ¬ (sets = 1 ∨ sets = 2 ∨ sets = 4 ∨ sets = 8 ∨ sets = 16 ∨ sets = 32 ∨ sets = 64) ∨ ways < 1 ∨ 8 < ways ∨ ns < 1 ∨ 8 < ns ∨ delay < 1 ∨ 64 < delay) :
    Calls Try.prog 9 #[.int .i64 sets, .int .i64 ways, .int .i64 ns, .int .i64 delay, .int .u64 (U seed)] w fun e w' => e = .returned (.pointer none) ∧ w' = w := by
  by_cases h0 : sets = 1 ∨ sets = 2 ∨ sets = 4 ∨ sets = 8 ∨ sets = 16 ∨ sets = 32 ∨ sets = 64
  · have h1 : ways < 1 ∨ 8 < ways ∨ ns < 1 ∨ 8 < ns ∨ delay < 1 ∨ 64 < delay := h.resolve_left (fun e => e h0)
    clear h
    by_cases a1 : ways < 1
    · rcases h0 with rfl | rfl | rfl | rfl | rfl | rfl | rfl <;>
      · go_enter Try.func9, Try.ntmps9
        go_wp2
        go_ret
        exact ⟨rfl, rfl⟩
    by_cases a2 : 8 < ways
    · rcases h0 with rfl | rfl | rfl | rfl | rfl | rfl | rfl <;>
      · go_enter Try.func9, Try.ntmps9
        go_wp2
        go_ret
        exact ⟨rfl, rfl⟩
    by_cases a3 : ns < 1
    · rcases h0 with rfl | rfl | rfl | rfl | rfl | rfl | rfl <;>
      · go_enter Try.func9, Try.ntmps9
        go_wp2
        go_ret
        exact ⟨rfl, rfl⟩
    by_cases a4 : 8 < ns
    · rcases h0 with rfl | rfl | rfl | rfl | rfl | rfl | rfl <;>
      · go_enter Try.func9, Try.ntmps9
        go_wp2
        go_ret
        exact ⟨rfl, rfl⟩
    by_cases a5 : delay < 1
    · rcases h0 with rfl | rfl | rfl | rfl | rfl | rfl | rfl <;>
      · go_enter Try.func9, Try.ntmps9
        go_wp2
        go_ret
        exact ⟨rfl, rfl⟩
    have a6 : 64 < delay := by omega
    · rcases h0 with rfl | rfl | rfl | rfl | rfl | rfl | rfl <;>
      · go_enter Try.func9, Try.ntmps9
        go_wp2
        go_ret
        exact ⟨rfl, rfl⟩
  · clear h
    have b1 : ¬ sets = 1 := fun e => h0 (by omega)
    have b2 : ¬ sets = 2 := fun e => h0 (by omega)
    have b3 : ¬ sets = 4 := fun e => h0 (by omega)
    have b4 : ¬ sets = 8 := fun e => h0 (by omega)
    have b5 : ¬ sets = 16 := fun e => h0 (by omega)
    have b6 : ¬ sets = 32 := fun e => h0 (by omega)
    have b7 : ¬ sets = 64 := fun e => h0 (by omega)
    clear h0
    go_enter Try.func9, Try.ntmps9
    go_wp2
    go_ret
    exact ⟨rfl, rfl⟩
end Go.Proofs.Ytpflodhnniochaa
