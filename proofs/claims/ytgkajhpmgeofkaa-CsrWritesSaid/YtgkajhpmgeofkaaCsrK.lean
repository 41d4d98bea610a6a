/-
  The walks of the reference's configs, high and Read. (Printed by gen_csrk.py.)
-/
import Derived.Test.YtgkajhpmgeofkaaCsrE
namespace Go.Proofs.Ytgkajhpmgeofkaa
set_option linter.unusedVariables false
open Go.RowKit

set_option maxHeartbeats 2000000 in
theorem RConfigs_any (r : Regs) (w : World) : Calls Try.prog 35 #[.agg (C r)] w fun e w' => e = .returned (.int .u64 (U (cfgU r 8))) ∧ More w w' := by
  go_enter Try.func35, Try.ntmps35
  go_wp2_with fail
  go_loop [3, 4] (fun vv iv => ∃ j : Nat, j ≤ 8 ∧ iv = .int .i64 j ∧ vv = .int .u64 (U (cfgU r j))) (fun _ iv => 8 - (intOf iv).toNat)
  case atStart => exact ⟨0, by omega, rfl, rfl⟩
  case round =>
    obtain ⟨j, hj, rfl, rfl⟩ := hrel
    obtain rfl | rfl | rfl | rfl | rfl | rfl | rfl | rfl | rfl : j = 0 ∨ j = 1 ∨ j = 2 ∨ j = 3 ∨ j = 4 ∨ j = 5 ∨ j = 6 ∨ j = 7 ∨ j = 8 := by omega
    · simp only [cfgU]
      go_wp2_with fail
      go_round
      case rel => exact ⟨1, by omega, by go_num, rfl⟩
      case measure => simp [intOf]
    · simp only [cfgU]
      go_wp2_with fail
      go_round
      case rel => exact ⟨2, by omega, by go_num, rfl⟩
      case measure => simp [intOf]
    · simp only [cfgU]
      go_wp2_with fail
      go_round
      case rel => exact ⟨3, by omega, by go_num, rfl⟩
      case measure => simp [intOf]
    · simp only [cfgU]
      go_wp2_with fail
      go_round
      case rel => exact ⟨4, by omega, by go_num, rfl⟩
      case measure => simp [intOf]
    · simp only [cfgU]
      go_wp2_with fail
      go_round
      case rel => exact ⟨5, by omega, by go_num, rfl⟩
      case measure => simp [intOf]
    · simp only [cfgU]
      go_wp2_with fail
      go_round
      case rel => exact ⟨6, by omega, by go_num, rfl⟩
      case measure => simp [intOf]
    · simp only [cfgU]
      go_wp2_with fail
      go_round
      case rel => exact ⟨7, by omega, by go_num, rfl⟩
      case measure => simp [intOf]
    · simp only [cfgU]
      go_wp2_with fail
      go_round
      case rel => exact ⟨8, by omega, by go_num, rfl⟩
      case measure => simp [intOf]
    · go_wp2_with fail
      go_ret
      exact ⟨rfl, (More.refl _).alloc _⟩

set_option maxHeartbeats 1000000 in
theorem RHigh_768 (r : Regs) (mip t : BitVec 64) (w : World) : Calls Try.prog 26 #[.agg (C r), .int .i64 768, .int .u64 (U mip), .int .u64 (U t)] w fun e w' => e = .returned (.int .u64 (U (r.mstatus))) ∧ More w w' := by
  go_enter Try.func26, Try.ntmps26
  go_wp2_with (fail)
  go_ret
  exact ⟨ret1 (int_eq (rfl)), (More.refl _).alloc _⟩

set_option maxHeartbeats 1000000 in
theorem RHigh_769 (r : Regs) (mip t : BitVec 64) (w : World) : Calls Try.prog 26 #[.agg (C r), .int .i64 769, .int .u64 (U mip), .int .u64 (U t)] w fun e w' => e = .returned (.int .u64 (U (9223372036856090925#64))) ∧ More w w' := by
  go_enter Try.func26, Try.ntmps26
  go_wp2_with (fail)
  go_ret
  exact ⟨ret1 (int_eq (by decide +kernel)), (More.refl _).alloc _⟩

set_option maxHeartbeats 1000000 in
theorem RHigh_770 (r : Regs) (mip t : BitVec 64) (w : World) : Calls Try.prog 26 #[.agg (C r), .int .i64 770, .int .u64 (U mip), .int .u64 (U t)] w fun e w' => e = .returned (.int .u64 (U (r.medeleg))) ∧ More w w' := by
  go_enter Try.func26, Try.ntmps26
  go_wp2_with (fail)
  go_ret
  exact ⟨ret1 (int_eq (rfl)), (More.refl _).alloc _⟩

set_option maxHeartbeats 1000000 in
theorem RHigh_771 (r : Regs) (mip t : BitVec 64) (w : World) : Calls Try.prog 26 #[.agg (C r), .int .i64 771, .int .u64 (U mip), .int .u64 (U t)] w fun e w' => e = .returned (.int .u64 (U (r.mideleg))) ∧ More w w' := by
  go_enter Try.func26, Try.ntmps26
  go_wp2_with (fail)
  go_ret
  exact ⟨ret1 (int_eq (rfl)), (More.refl _).alloc _⟩

set_option maxHeartbeats 1000000 in
theorem RHigh_772 (r : Regs) (mip t : BitVec 64) (w : World) : Calls Try.prog 26 #[.agg (C r), .int .i64 772, .int .u64 (U mip), .int .u64 (U t)] w fun e w' => e = .returned (.int .u64 (U (r.mie))) ∧ More w w' := by
  go_enter Try.func26, Try.ntmps26
  go_wp2_with (fail)
  go_ret
  exact ⟨ret1 (int_eq (rfl)), (More.refl _).alloc _⟩

set_option maxHeartbeats 1000000 in
theorem RHigh_773 (r : Regs) (mip t : BitVec 64) (w : World) : Calls Try.prog 26 #[.agg (C r), .int .i64 773, .int .u64 (U mip), .int .u64 (U t)] w fun e w' => e = .returned (.int .u64 (U (r.mtvec))) ∧ More w w' := by
  go_enter Try.func26, Try.ntmps26
  go_wp2_with (fail)
  go_ret
  exact ⟨ret1 (int_eq (rfl)), (More.refl _).alloc _⟩

set_option maxHeartbeats 1000000 in
theorem RHigh_774 (r : Regs) (mip t : BitVec 64) (w : World) : Calls Try.prog 26 #[.agg (C r), .int .i64 774, .int .u64 (U mip), .int .u64 (U t)] w fun e w' => e = .returned (.int .u64 (U (r.mcounteren))) ∧ More w w' := by
  go_enter Try.func26, Try.ntmps26
  go_wp2_with (fail)
  go_ret
  exact ⟨ret1 (int_eq (rfl)), (More.refl _).alloc _⟩

set_option maxHeartbeats 1000000 in
theorem RHigh_800 (r : Regs) (mip t : BitVec 64) (w : World) : Calls Try.prog 26 #[.agg (C r), .int .i64 800, .int .u64 (U mip), .int .u64 (U t)] w fun e w' => e = .returned (.int .u64 (U (r.mcountinhibit))) ∧ More w w' := by
  go_enter Try.func26, Try.ntmps26
  go_wp2_with (fail)
  go_ret
  exact ⟨ret1 (int_eq (rfl)), (More.refl _).alloc _⟩

set_option maxHeartbeats 1000000 in
theorem RHigh_832 (r : Regs) (mip t : BitVec 64) (w : World) : Calls Try.prog 26 #[.agg (C r), .int .i64 832, .int .u64 (U mip), .int .u64 (U t)] w fun e w' => e = .returned (.int .u64 (U (r.mscratch))) ∧ More w w' := by
  go_enter Try.func26, Try.ntmps26
  go_wp2_with (fail)
  go_ret
  exact ⟨ret1 (int_eq (rfl)), (More.refl _).alloc _⟩

set_option maxHeartbeats 1000000 in
theorem RHigh_833 (r : Regs) (mip t : BitVec 64) (w : World) : Calls Try.prog 26 #[.agg (C r), .int .i64 833, .int .u64 (U mip), .int .u64 (U t)] w fun e w' => e = .returned (.int .u64 (U (r.mepc))) ∧ More w w' := by
  go_enter Try.func26, Try.ntmps26
  go_wp2_with (fail)
  go_ret
  exact ⟨ret1 (int_eq (rfl)), (More.refl _).alloc _⟩

set_option maxHeartbeats 1000000 in
theorem RHigh_834 (r : Regs) (mip t : BitVec 64) (w : World) : Calls Try.prog 26 #[.agg (C r), .int .i64 834, .int .u64 (U mip), .int .u64 (U t)] w fun e w' => e = .returned (.int .u64 (U (r.mcause))) ∧ More w w' := by
  go_enter Try.func26, Try.ntmps26
  go_wp2_with (fail)
  go_ret
  exact ⟨ret1 (int_eq (rfl)), (More.refl _).alloc _⟩

set_option maxHeartbeats 1000000 in
theorem RHigh_835 (r : Regs) (mip t : BitVec 64) (w : World) : Calls Try.prog 26 #[.agg (C r), .int .i64 835, .int .u64 (U mip), .int .u64 (U t)] w fun e w' => e = .returned (.int .u64 (U (r.mtval))) ∧ More w w' := by
  go_enter Try.func26, Try.ntmps26
  go_wp2_with (fail)
  go_ret
  exact ⟨ret1 (int_eq (rfl)), (More.refl _).alloc _⟩

set_option maxHeartbeats 1000000 in
theorem RHigh_836 (r : Regs) (mip t : BitVec 64) (w : World) : Calls Try.prog 26 #[.agg (C r), .int .i64 836, .int .u64 (U mip), .int .u64 (U t)] w fun e w' => e = .returned (.int .u64 (U (mip))) ∧ More w w' := by
  go_enter Try.func26, Try.ntmps26
  go_wp2_with (fail)
  go_ret
  exact ⟨ret1 (int_eq (rfl)), (More.refl _).alloc _⟩

set_option maxHeartbeats 1000000 in
theorem RHigh_928 (r : Regs) (mip t : BitVec 64) (w : World) : Calls Try.prog 26 #[.agg (C r), .int .i64 928, .int .u64 (U mip), .int .u64 (U t)] w fun e w' => e = .returned (.int .u64 (U (cfgU r 8))) ∧ More w w' := by
  go_enter Try.func26, Try.ntmps26
  go_wp2_with (first | (go_at_call 35; refine (RConfigs_any r _).mono ?_; rintro e w' ⟨rfl, l, rfl⟩) | (refine load26 rfl _ rfl _ rfl _ _ (heap_alloc_new _ _) ?_))
  go_ret
  exact ⟨ret1 (int_eq (rfl)), ((More.refl _).alloc _).more _⟩

set_option maxHeartbeats 1000000 in
theorem RHigh_944 (r : Regs) (mip t : BitVec 64) (w : World) : Calls Try.prog 26 #[.agg (C r), .int .i64 944, .int .u64 (U mip), .int .u64 (U t)] w fun e w' => e = .returned (.int .u64 (U (r.a0))) ∧ More w w' := by
  go_enter Try.func26, Try.ntmps26
  go_wp2_with (fail)
  go_ret
  exact ⟨ret1 (int_eq (rfl)), (More.refl _).alloc _⟩

set_option maxHeartbeats 1000000 in
theorem RHigh_945 (r : Regs) (mip t : BitVec 64) (w : World) : Calls Try.prog 26 #[.agg (C r), .int .i64 945, .int .u64 (U mip), .int .u64 (U t)] w fun e w' => e = .returned (.int .u64 (U (r.a1))) ∧ More w w' := by
  go_enter Try.func26, Try.ntmps26
  go_wp2_with (fail)
  go_ret
  exact ⟨ret1 (int_eq (rfl)), (More.refl _).alloc _⟩

set_option maxHeartbeats 1000000 in
theorem RHigh_946 (r : Regs) (mip t : BitVec 64) (w : World) : Calls Try.prog 26 #[.agg (C r), .int .i64 946, .int .u64 (U mip), .int .u64 (U t)] w fun e w' => e = .returned (.int .u64 (U (r.a2))) ∧ More w w' := by
  go_enter Try.func26, Try.ntmps26
  go_wp2_with (fail)
  go_ret
  exact ⟨ret1 (int_eq (rfl)), (More.refl _).alloc _⟩

set_option maxHeartbeats 1000000 in
theorem RHigh_947 (r : Regs) (mip t : BitVec 64) (w : World) : Calls Try.prog 26 #[.agg (C r), .int .i64 947, .int .u64 (U mip), .int .u64 (U t)] w fun e w' => e = .returned (.int .u64 (U (r.a3))) ∧ More w w' := by
  go_enter Try.func26, Try.ntmps26
  go_wp2_with (fail)
  go_ret
  exact ⟨ret1 (int_eq (rfl)), (More.refl _).alloc _⟩

set_option maxHeartbeats 1000000 in
theorem RHigh_948 (r : Regs) (mip t : BitVec 64) (w : World) : Calls Try.prog 26 #[.agg (C r), .int .i64 948, .int .u64 (U mip), .int .u64 (U t)] w fun e w' => e = .returned (.int .u64 (U (r.a4))) ∧ More w w' := by
  go_enter Try.func26, Try.ntmps26
  go_wp2_with (fail)
  go_ret
  exact ⟨ret1 (int_eq (rfl)), (More.refl _).alloc _⟩

set_option maxHeartbeats 1000000 in
theorem RHigh_949 (r : Regs) (mip t : BitVec 64) (w : World) : Calls Try.prog 26 #[.agg (C r), .int .i64 949, .int .u64 (U mip), .int .u64 (U t)] w fun e w' => e = .returned (.int .u64 (U (r.a5))) ∧ More w w' := by
  go_enter Try.func26, Try.ntmps26
  go_wp2_with (fail)
  go_ret
  exact ⟨ret1 (int_eq (rfl)), (More.refl _).alloc _⟩

set_option maxHeartbeats 1000000 in
theorem RHigh_950 (r : Regs) (mip t : BitVec 64) (w : World) : Calls Try.prog 26 #[.agg (C r), .int .i64 950, .int .u64 (U mip), .int .u64 (U t)] w fun e w' => e = .returned (.int .u64 (U (r.a6))) ∧ More w w' := by
  go_enter Try.func26, Try.ntmps26
  go_wp2_with (fail)
  go_ret
  exact ⟨ret1 (int_eq (rfl)), (More.refl _).alloc _⟩

set_option maxHeartbeats 1000000 in
theorem RHigh_951 (r : Regs) (mip t : BitVec 64) (w : World) : Calls Try.prog 26 #[.agg (C r), .int .i64 951, .int .u64 (U mip), .int .u64 (U t)] w fun e w' => e = .returned (.int .u64 (U (r.a7))) ∧ More w w' := by
  go_enter Try.func26, Try.ntmps26
  go_wp2_with (fail)
  go_ret
  exact ⟨ret1 (int_eq (rfl)), (More.refl _).alloc _⟩

set_option maxHeartbeats 1000000 in
theorem RHigh_2816 (r : Regs) (mip t : BitVec 64) (w : World) : Calls Try.prog 26 #[.agg (C r), .int .i64 2816, .int .u64 (U mip), .int .u64 (U t)] w fun e w' => e = .returned (.int .u64 (U (r.mcycle))) ∧ More w w' := by
  go_enter Try.func26, Try.ntmps26
  go_wp2_with (fail)
  go_ret
  exact ⟨ret1 (int_eq (rfl)), (More.refl _).alloc _⟩

set_option maxHeartbeats 1000000 in
theorem RHigh_2818 (r : Regs) (mip t : BitVec 64) (w : World) : Calls Try.prog 26 #[.agg (C r), .int .i64 2818, .int .u64 (U mip), .int .u64 (U t)] w fun e w' => e = .returned (.int .u64 (U (r.minstret))) ∧ More w w' := by
  go_enter Try.func26, Try.ntmps26
  go_wp2_with (fail)
  go_ret
  exact ⟨ret1 (int_eq (rfl)), (More.refl _).alloc _⟩

set_option maxHeartbeats 1000000 in
theorem RHigh_3072 (r : Regs) (mip t : BitVec 64) (w : World) : Calls Try.prog 26 #[.agg (C r), .int .i64 3072, .int .u64 (U mip), .int .u64 (U t)] w fun e w' => e = .returned (.int .u64 (U (r.mcycle))) ∧ More w w' := by
  go_enter Try.func26, Try.ntmps26
  go_wp2_with (fail)
  go_ret
  exact ⟨ret1 (int_eq (rfl)), (More.refl _).alloc _⟩

set_option maxHeartbeats 1000000 in
theorem RHigh_3073 (r : Regs) (mip t : BitVec 64) (w : World) : Calls Try.prog 26 #[.agg (C r), .int .i64 3073, .int .u64 (U mip), .int .u64 (U t)] w fun e w' => e = .returned (.int .u64 (U (t))) ∧ More w w' := by
  go_enter Try.func26, Try.ntmps26
  go_wp2_with (fail)
  go_ret
  exact ⟨ret1 (int_eq (rfl)), (More.refl _).alloc _⟩

set_option maxHeartbeats 1000000 in
theorem RHigh_3074 (r : Regs) (mip t : BitVec 64) (w : World) : Calls Try.prog 26 #[.agg (C r), .int .i64 3074, .int .u64 (U mip), .int .u64 (U t)] w fun e w' => e = .returned (.int .u64 (U (r.minstret))) ∧ More w w' := by
  go_enter Try.func26, Try.ntmps26
  go_wp2_with (fail)
  go_ret
  exact ⟨ret1 (int_eq (rfl)), (More.refl _).alloc _⟩

set_option maxHeartbeats 4000000 in
theorem RHigh_none (r : Regs) (n : Int) (mip t : BitVec 64) (n768 : (n == 768) = false) (n769 : (n == 769) = false) (n770 : (n == 770) = false) (n771 : (n == 771) = false) (n772 : (n == 772) = false) (n773 : (n == 773) = false) (n774 : (n == 774) = false) (n800 : (n == 800) = false) (n832 : (n == 832) = false) (n833 : (n == 833) = false) (n834 : (n == 834) = false) (n835 : (n == 835) = false) (n836 : (n == 836) = false) (n928 : (n == 928) = false) (n2816 : (n == 2816) = false) (n2818 : (n == 2818) = false) (n3072 : (n == 3072) = false) (n3073 : (n == 3073) = false) (n3074 : (n == 3074) = false) (h : ¬ (944 ≤ n ∧ n ≤ 951)) (w : World) : Calls Try.prog 26 #[.agg (C r), .int .i64 n, .int .u64 (U mip), .int .u64 (U t)] w fun e w' => e = .returned (.int .u64 (U 0#64)) ∧ More w w' := by
  go_enter Try.func26, Try.ntmps26
  go_wp2_with fail
  all_goals
    go_ret
    exact ⟨rfl, (More.refl _).alloc _⟩

set_option maxHeartbeats 1000000 in
theorem RRead_1 (r : Regs) (l t : BitVec 64) (w : World) : Calls Try.prog 15 #[.agg (C r), .int .i64 1, .int .u64 (U l), .int .u64 (U t)] w fun e w' => e = .returned (.int .u64 (U (r.fcsr &&& 31#64))) ∧ More w w' := by
  go_enter Try.func15, Try.ntmps15
  go_wp2_with fail
  go_ret
  exact ⟨ret1 (int_eq rfl), (More.refl _).alloc _⟩

set_option maxHeartbeats 1000000 in
theorem RRead_2 (r : Regs) (l t : BitVec 64) (w : World) : Calls Try.prog 15 #[.agg (C r), .int .i64 2, .int .u64 (U l), .int .u64 (U t)] w fun e w' => e = .returned (.int .u64 (U (r.fcsr >>> 5 &&& 7#64))) ∧ More w w' := by
  go_enter Try.func15, Try.ntmps15
  go_wp2_with fail
  go_ret
  exact ⟨ret1 (int_eq rfl), (More.refl _).alloc _⟩

set_option maxHeartbeats 1000000 in
theorem RRead_3 (r : Regs) (l t : BitVec 64) (w : World) : Calls Try.prog 15 #[.agg (C r), .int .i64 3, .int .u64 (U l), .int .u64 (U t)] w fun e w' => e = .returned (.int .u64 (U (r.fcsr))) ∧ More w w' := by
  go_enter Try.func15, Try.ntmps15
  go_wp2_with fail
  go_ret
  exact ⟨ret1 (int_eq rfl), (More.refl _).alloc _⟩

set_option maxHeartbeats 1000000 in
theorem RRead_256 (r : Regs) (l t : BitVec 64) (w : World) : Calls Try.prog 15 #[.agg (C r), .int .i64 256, .int .u64 (U l), .int .u64 (U t)] w fun e w' => e = .returned (.int .u64 (U (r.mstatus &&& 9223372045445521698#64))) ∧ More w w' := by
  go_enter Try.func15, Try.ntmps15
  go_wp2_with fail
  go_ret
  exact ⟨ret1 (int_eq rfl), (More.refl _).alloc _⟩

set_option maxHeartbeats 1000000 in
theorem RRead_260 (r : Regs) (l t : BitVec 64) (w : World) : Calls Try.prog 15 #[.agg (C r), .int .i64 260, .int .u64 (U l), .int .u64 (U t)] w fun e w' => e = .returned (.int .u64 (U (r.mie &&& r.mideleg))) ∧ More w w' := by
  go_enter Try.func15, Try.ntmps15
  go_wp2_with fail
  go_ret
  exact ⟨ret1 (int_eq rfl), (More.refl _).alloc _⟩

set_option maxHeartbeats 1000000 in
theorem RRead_261 (r : Regs) (l t : BitVec 64) (w : World) : Calls Try.prog 15 #[.agg (C r), .int .i64 261, .int .u64 (U l), .int .u64 (U t)] w fun e w' => e = .returned (.int .u64 (U (r.stvec))) ∧ More w w' := by
  go_enter Try.func15, Try.ntmps15
  go_wp2_with fail
  go_ret
  exact ⟨ret1 (int_eq rfl), (More.refl _).alloc _⟩

set_option maxHeartbeats 1000000 in
theorem RRead_262 (r : Regs) (l t : BitVec 64) (w : World) : Calls Try.prog 15 #[.agg (C r), .int .i64 262, .int .u64 (U l), .int .u64 (U t)] w fun e w' => e = .returned (.int .u64 (U (r.scounteren))) ∧ More w w' := by
  go_enter Try.func15, Try.ntmps15
  go_wp2_with fail
  go_ret
  exact ⟨ret1 (int_eq rfl), (More.refl _).alloc _⟩

set_option maxHeartbeats 1000000 in
theorem RRead_320 (r : Regs) (l t : BitVec 64) (w : World) : Calls Try.prog 15 #[.agg (C r), .int .i64 320, .int .u64 (U l), .int .u64 (U t)] w fun e w' => e = .returned (.int .u64 (U (r.sscratch))) ∧ More w w' := by
  go_enter Try.func15, Try.ntmps15
  go_wp2_with fail
  go_ret
  exact ⟨ret1 (int_eq rfl), (More.refl _).alloc _⟩

set_option maxHeartbeats 1000000 in
theorem RRead_321 (r : Regs) (l t : BitVec 64) (w : World) : Calls Try.prog 15 #[.agg (C r), .int .i64 321, .int .u64 (U l), .int .u64 (U t)] w fun e w' => e = .returned (.int .u64 (U (r.sepc))) ∧ More w w' := by
  go_enter Try.func15, Try.ntmps15
  go_wp2_with fail
  go_ret
  exact ⟨ret1 (int_eq rfl), (More.refl _).alloc _⟩

set_option maxHeartbeats 1000000 in
theorem RRead_322 (r : Regs) (l t : BitVec 64) (w : World) : Calls Try.prog 15 #[.agg (C r), .int .i64 322, .int .u64 (U l), .int .u64 (U t)] w fun e w' => e = .returned (.int .u64 (U (r.scause))) ∧ More w w' := by
  go_enter Try.func15, Try.ntmps15
  go_wp2_with fail
  go_ret
  exact ⟨ret1 (int_eq rfl), (More.refl _).alloc _⟩

set_option maxHeartbeats 1000000 in
theorem RRead_323 (r : Regs) (l t : BitVec 64) (w : World) : Calls Try.prog 15 #[.agg (C r), .int .i64 323, .int .u64 (U l), .int .u64 (U t)] w fun e w' => e = .returned (.int .u64 (U (r.stval))) ∧ More w w' := by
  go_enter Try.func15, Try.ntmps15
  go_wp2_with fail
  go_ret
  exact ⟨ret1 (int_eq rfl), (More.refl _).alloc _⟩

set_option maxHeartbeats 1000000 in
theorem RRead_324 (r : Regs) (l t : BitVec 64) (w : World) : Calls Try.prog 15 #[.agg (C r), .int .i64 324, .int .u64 (U l), .int .u64 (U t)] w fun e w' => e = .returned (.int .u64 (U ((r.mip ||| l &&& 2696#64) &&& r.mideleg))) ∧ More w w' := by
  go_enter Try.func15, Try.ntmps15
  go_wp2_with fail
  go_ret
  exact ⟨ret1 (int_eq rfl), (More.refl _).alloc _⟩

set_option maxHeartbeats 1000000 in
theorem RRead_384 (r : Regs) (l t : BitVec 64) (w : World) : Calls Try.prog 15 #[.agg (C r), .int .i64 384, .int .u64 (U l), .int .u64 (U t)] w fun e w' => e = .returned (.int .u64 (U (r.satp))) ∧ More w w' := by
  go_enter Try.func15, Try.ntmps15
  go_wp2_with fail
  go_ret
  exact ⟨ret1 (int_eq rfl), (More.refl _).alloc _⟩

set_option maxHeartbeats 4000000 in
theorem RRead_high (r : Regs) (n : Int) (l t x : BitVec 64) (n1 : (n == 1) = false) (n2 : (n == 2) = false) (n3 : (n == 3) = false) (n256 : (n == 256) = false) (n260 : (n == 260) = false) (n261 : (n == 261) = false) (n262 : (n == 262) = false) (n320 : (n == 320) = false) (n321 : (n == 321) = false) (n322 : (n == 322) = false) (n323 : (n == 323) = false) (n324 : (n == 324) = false) (n384 : (n == 384) = false)
    (c : Hid (∀ w, Calls Try.prog 26 #[.agg (C r), .int .i64 n, .int .u64 (U (r.mip ||| l &&& 2696#64)), .int .u64 (U t)] w fun e w' => e = .returned (.int .u64 (U x)) ∧ More w w')) (w : World) :
    Calls Try.prog 15 #[.agg (C r), .int .i64 n, .int .u64 (U l), .int .u64 (U t)] w fun e w' => e = .returned (.int .u64 (U x)) ∧ More w w' := by
  go_enter Try.func15, Try.ntmps15
  go_wp2_with (first | (go_at_call 26; refine (c.out _).mono ?_; rintro e w' ⟨rfl, l, rfl⟩) | (refine load26 rfl _ rfl _ rfl _ _ (heap_alloc_new _ _) ?_))
  go_ret
  exact ⟨rfl, ((More.refl _).alloc _).more _⟩

theorem RRead_any (r : Regs) (n : Int) (l t : BitVec 64) (w : World) : Calls Try.prog 15 #[.agg (C r), .int .i64 n, .int .u64 (U l), .int .u64 (U t)] w fun e w' => e = .returned (.int .u64 (U (readS r n l t))) ∧ More w w' := by
  by_cases n1 : n = 1
  · subst n1; rw [readS_1]; exact RRead_1 r l t w
  by_cases n2 : n = 2
  · subst n2; rw [readS_2]; exact RRead_2 r l t w
  by_cases n3 : n = 3
  · subst n3; rw [readS_3]; exact RRead_3 r l t w
  by_cases n256 : n = 256
  · subst n256; rw [readS_256]; exact RRead_256 r l t w
  by_cases n260 : n = 260
  · subst n260; rw [readS_260]; exact RRead_260 r l t w
  by_cases n261 : n = 261
  · subst n261; rw [readS_261]; exact RRead_261 r l t w
  by_cases n262 : n = 262
  · subst n262; rw [readS_262]; exact RRead_262 r l t w
  by_cases n320 : n = 320
  · subst n320; rw [readS_320]; exact RRead_320 r l t w
  by_cases n321 : n = 321
  · subst n321; rw [readS_321]; exact RRead_321 r l t w
  by_cases n322 : n = 322
  · subst n322; rw [readS_322]; exact RRead_322 r l t w
  by_cases n323 : n = 323
  · subst n323; rw [readS_323]; exact RRead_323 r l t w
  by_cases n324 : n = 324
  · subst n324; rw [readS_324]; exact RRead_324 r l t w
  by_cases n384 : n = 384
  · subst n384; rw [readS_384]; exact RRead_384 r l t w
  by_cases n768 : n = 768
  · subst n768; rw [readS_768]; exact RRead_high r 768 l t _ rfl rfl rfl rfl rfl rfl rfl rfl rfl rfl rfl rfl rfl (hide fun w => RHigh_768 r _ t w) w
  by_cases n769 : n = 769
  · subst n769; rw [readS_769]; exact RRead_high r 769 l t _ rfl rfl rfl rfl rfl rfl rfl rfl rfl rfl rfl rfl rfl (hide fun w => RHigh_769 r _ t w) w
  by_cases n770 : n = 770
  · subst n770; rw [readS_770]; exact RRead_high r 770 l t _ rfl rfl rfl rfl rfl rfl rfl rfl rfl rfl rfl rfl rfl (hide fun w => RHigh_770 r _ t w) w
  by_cases n771 : n = 771
  · subst n771; rw [readS_771]; exact RRead_high r 771 l t _ rfl rfl rfl rfl rfl rfl rfl rfl rfl rfl rfl rfl rfl (hide fun w => RHigh_771 r _ t w) w
  by_cases n772 : n = 772
  · subst n772; rw [readS_772]; exact RRead_high r 772 l t _ rfl rfl rfl rfl rfl rfl rfl rfl rfl rfl rfl rfl rfl (hide fun w => RHigh_772 r _ t w) w
  by_cases n773 : n = 773
  · subst n773; rw [readS_773]; exact RRead_high r 773 l t _ rfl rfl rfl rfl rfl rfl rfl rfl rfl rfl rfl rfl rfl (hide fun w => RHigh_773 r _ t w) w
  by_cases n774 : n = 774
  · subst n774; rw [readS_774]; exact RRead_high r 774 l t _ rfl rfl rfl rfl rfl rfl rfl rfl rfl rfl rfl rfl rfl (hide fun w => RHigh_774 r _ t w) w
  by_cases n800 : n = 800
  · subst n800; rw [readS_800]; exact RRead_high r 800 l t _ rfl rfl rfl rfl rfl rfl rfl rfl rfl rfl rfl rfl rfl (hide fun w => RHigh_800 r _ t w) w
  by_cases n832 : n = 832
  · subst n832; rw [readS_832]; exact RRead_high r 832 l t _ rfl rfl rfl rfl rfl rfl rfl rfl rfl rfl rfl rfl rfl (hide fun w => RHigh_832 r _ t w) w
  by_cases n833 : n = 833
  · subst n833; rw [readS_833]; exact RRead_high r 833 l t _ rfl rfl rfl rfl rfl rfl rfl rfl rfl rfl rfl rfl rfl (hide fun w => RHigh_833 r _ t w) w
  by_cases n834 : n = 834
  · subst n834; rw [readS_834]; exact RRead_high r 834 l t _ rfl rfl rfl rfl rfl rfl rfl rfl rfl rfl rfl rfl rfl (hide fun w => RHigh_834 r _ t w) w
  by_cases n835 : n = 835
  · subst n835; rw [readS_835]; exact RRead_high r 835 l t _ rfl rfl rfl rfl rfl rfl rfl rfl rfl rfl rfl rfl rfl (hide fun w => RHigh_835 r _ t w) w
  by_cases n836 : n = 836
  · subst n836; rw [readS_836]; exact RRead_high r 836 l t _ rfl rfl rfl rfl rfl rfl rfl rfl rfl rfl rfl rfl rfl (hide fun w => RHigh_836 r _ t w) w
  by_cases n928 : n = 928
  · subst n928; rw [readS_928]; exact RRead_high r 928 l t _ rfl rfl rfl rfl rfl rfl rfl rfl rfl rfl rfl rfl rfl (hide fun w => RHigh_928 r _ t w) w
  by_cases n944 : n = 944
  · subst n944; rw [readS_944]; exact RRead_high r 944 l t _ rfl rfl rfl rfl rfl rfl rfl rfl rfl rfl rfl rfl rfl (hide fun w => RHigh_944 r _ t w) w
  by_cases n945 : n = 945
  · subst n945; rw [readS_945]; exact RRead_high r 945 l t _ rfl rfl rfl rfl rfl rfl rfl rfl rfl rfl rfl rfl rfl (hide fun w => RHigh_945 r _ t w) w
  by_cases n946 : n = 946
  · subst n946; rw [readS_946]; exact RRead_high r 946 l t _ rfl rfl rfl rfl rfl rfl rfl rfl rfl rfl rfl rfl rfl (hide fun w => RHigh_946 r _ t w) w
  by_cases n947 : n = 947
  · subst n947; rw [readS_947]; exact RRead_high r 947 l t _ rfl rfl rfl rfl rfl rfl rfl rfl rfl rfl rfl rfl rfl (hide fun w => RHigh_947 r _ t w) w
  by_cases n948 : n = 948
  · subst n948; rw [readS_948]; exact RRead_high r 948 l t _ rfl rfl rfl rfl rfl rfl rfl rfl rfl rfl rfl rfl rfl (hide fun w => RHigh_948 r _ t w) w
  by_cases n949 : n = 949
  · subst n949; rw [readS_949]; exact RRead_high r 949 l t _ rfl rfl rfl rfl rfl rfl rfl rfl rfl rfl rfl rfl rfl (hide fun w => RHigh_949 r _ t w) w
  by_cases n950 : n = 950
  · subst n950; rw [readS_950]; exact RRead_high r 950 l t _ rfl rfl rfl rfl rfl rfl rfl rfl rfl rfl rfl rfl rfl (hide fun w => RHigh_950 r _ t w) w
  by_cases n951 : n = 951
  · subst n951; rw [readS_951]; exact RRead_high r 951 l t _ rfl rfl rfl rfl rfl rfl rfl rfl rfl rfl rfl rfl rfl (hide fun w => RHigh_951 r _ t w) w
  by_cases n2816 : n = 2816
  · subst n2816; rw [readS_2816]; exact RRead_high r 2816 l t _ rfl rfl rfl rfl rfl rfl rfl rfl rfl rfl rfl rfl rfl (hide fun w => RHigh_2816 r _ t w) w
  by_cases n2818 : n = 2818
  · subst n2818; rw [readS_2818]; exact RRead_high r 2818 l t _ rfl rfl rfl rfl rfl rfl rfl rfl rfl rfl rfl rfl rfl (hide fun w => RHigh_2818 r _ t w) w
  by_cases n3072 : n = 3072
  · subst n3072; rw [readS_3072]; exact RRead_high r 3072 l t _ rfl rfl rfl rfl rfl rfl rfl rfl rfl rfl rfl rfl rfl (hide fun w => RHigh_3072 r _ t w) w
  by_cases n3073 : n = 3073
  · subst n3073; rw [readS_3073]; exact RRead_high r 3073 l t _ rfl rfl rfl rfl rfl rfl rfl rfl rfl rfl rfl rfl rfl (hide fun w => RHigh_3073 r _ t w) w
  by_cases n3074 : n = 3074
  · subst n3074; rw [readS_3074]; exact RRead_high r 3074 l t _ rfl rfl rfl rfl rfl rfl rfl rfl rfl rfl rfl rfl rfl (hide fun w => RHigh_3074 r _ t w) w
  rw [readS_none r n l t n1 n2 n3 n256 n260 n261 n262 n320 n321 n322 n323 n324 n384 n768 n769 n770 n771 n772 n773 n774 n800 n832 n833 n834 n835 n836 n928 n944 n945 n946 n947 n948 n949 n950 n951 n2816 n2818 n3072 n3073 n3074]
  exact RRead_high r n l t _ (beq_eq_false_iff_ne.2 n1) (beq_eq_false_iff_ne.2 n2) (beq_eq_false_iff_ne.2 n3) (beq_eq_false_iff_ne.2 n256) (beq_eq_false_iff_ne.2 n260) (beq_eq_false_iff_ne.2 n261) (beq_eq_false_iff_ne.2 n262) (beq_eq_false_iff_ne.2 n320) (beq_eq_false_iff_ne.2 n321) (beq_eq_false_iff_ne.2 n322) (beq_eq_false_iff_ne.2 n323) (beq_eq_false_iff_ne.2 n324) (beq_eq_false_iff_ne.2 n384) (hide fun w => RHigh_none r n _ t (beq_eq_false_iff_ne.2 n768) (beq_eq_false_iff_ne.2 n769) (beq_eq_false_iff_ne.2 n770) (beq_eq_false_iff_ne.2 n771) (beq_eq_false_iff_ne.2 n772) (beq_eq_false_iff_ne.2 n773) (beq_eq_false_iff_ne.2 n774) (beq_eq_false_iff_ne.2 n800) (beq_eq_false_iff_ne.2 n832) (beq_eq_false_iff_ne.2 n833) (beq_eq_false_iff_ne.2 n834) (beq_eq_false_iff_ne.2 n835) (beq_eq_false_iff_ne.2 n836) (beq_eq_false_iff_ne.2 n928) (beq_eq_false_iff_ne.2 n2816) (beq_eq_false_iff_ne.2 n2818) (beq_eq_false_iff_ne.2 n3072) (beq_eq_false_iff_ne.2 n3073) (beq_eq_false_iff_ne.2 n3074) (by omega) w) w

end Go.Proofs.Ytgkajhpmgeofkaa