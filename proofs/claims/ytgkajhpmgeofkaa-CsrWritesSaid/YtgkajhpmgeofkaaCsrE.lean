/-
  The walks of csr's lay, settled, place and Read. (Printed by gen_csre.py.)
-/
import Derived.Test.YtgkajhpmgeofkaaCsrD
import Derived.Test.YtgkajhpmgeofkaaCsrSpec
namespace Go.Proofs.Ytgkajhpmgeofkaa
set_option linter.unusedVariables false
open Go.RowKit

theorem lay_any (a v m : BitVec 64) (w : World) : Calls Try.prog 28 #[.int .u64 (U a), .int .u64 (U v), .int .u64 (U m)] w fun e w' => e = .returned (.int .u64 (U (layS a v m))) ∧ w = w' := by
  go_enter Try.func28, Try.ntmps28
  go_wp2
  go_ret
  exact ⟨rfl, rfl⟩
theorem settled_any (m : BitVec 64) (w : World) : Calls Try.prog 29 #[.int .u64 (U m)] w fun e w' => e = .returned (.int .u64 (U (settledS m))) ∧ w = w' := by
  have hs : settledS m = if (m &&& 8288682#64 ||| 42949672960#64) >>> 13 &&& 3#64 = 3#64 then (m &&& 8288682#64 ||| 42949672960#64) ||| 9223372036854775808#64 else m &&& 8288682#64 ||| 42949672960#64 := rfl
  have hb : (U ((m &&& 8288682#64 ||| 42949672960#64) >>> 13 &&& 3#64) == 3) = ((m &&& 8288682#64 ||| 42949672960#64) >>> 13 &&& 3#64 == 3#64) := U_beq _ 3#64
  by_cases h : (m &&& 8288682#64 ||| 42949672960#64) >>> 13 &&& 3#64 = 3#64
  · have t : (U ((m &&& 8288682#64 ||| 42949672960#64) >>> 13 &&& 3#64) == 3) = true := by rw [hb, h]; rfl
    rw [if_pos h] at hs
    rw [hs]
    clear hs hb h
    go_enter Try.func29, Try.ntmps29
    go_wp2
    go_ret
    exact ⟨rfl, rfl⟩
  · have t : (U ((m &&& 8288682#64 ||| 42949672960#64) >>> 13 &&& 3#64) == 3) = false := by rw [hb]; simpa using h
    rw [if_neg h] at hs
    rw [hs]
    clear hs hb h
    go_enter Try.func29, Try.ntmps29
    go_wp2
    go_ret
    exact ⟨rfl, rfl⟩

theorem place_261 (b : Nat) (w : World) : Calls Try.prog 25 #[.pointer (some ⟨b, 0, none⟩), .int .i64 261] w fun e w' => e = .returned (.pointer (some ⟨b, 14, none⟩)) ∧ w = w' := by
  go_enter Try.func25, Try.ntmps25
  go_wp2
  go_ret
  exact ⟨rfl, rfl⟩

theorem place_262 (b : Nat) (w : World) : Calls Try.prog 25 #[.pointer (some ⟨b, 0, none⟩), .int .i64 262] w fun e w' => e = .returned (.pointer (some ⟨b, 19, none⟩)) ∧ w = w' := by
  go_enter Try.func25, Try.ntmps25
  go_wp2
  go_ret
  exact ⟨rfl, rfl⟩

theorem place_320 (b : Nat) (w : World) : Calls Try.prog 25 #[.pointer (some ⟨b, 0, none⟩), .int .i64 320] w fun e w' => e = .returned (.pointer (some ⟨b, 18, none⟩)) ∧ w = w' := by
  go_enter Try.func25, Try.ntmps25
  go_wp2
  go_ret
  exact ⟨rfl, rfl⟩

theorem place_321 (b : Nat) (w : World) : Calls Try.prog 25 #[.pointer (some ⟨b, 0, none⟩), .int .i64 321] w fun e w' => e = .returned (.pointer (some ⟨b, 15, none⟩)) ∧ w = w' := by
  go_enter Try.func25, Try.ntmps25
  go_wp2
  go_ret
  exact ⟨rfl, rfl⟩

theorem place_322 (b : Nat) (w : World) : Calls Try.prog 25 #[.pointer (some ⟨b, 0, none⟩), .int .i64 322] w fun e w' => e = .returned (.pointer (some ⟨b, 16, none⟩)) ∧ w = w' := by
  go_enter Try.func25, Try.ntmps25
  go_wp2
  go_ret
  exact ⟨rfl, rfl⟩

theorem place_323 (b : Nat) (w : World) : Calls Try.prog 25 #[.pointer (some ⟨b, 0, none⟩), .int .i64 323] w fun e w' => e = .returned (.pointer (some ⟨b, 17, none⟩)) ∧ w = w' := by
  go_enter Try.func25, Try.ntmps25
  go_wp2
  go_ret
  exact ⟨rfl, rfl⟩

theorem place_384 (b : Nat) (w : World) : Calls Try.prog 25 #[.pointer (some ⟨b, 0, none⟩), .int .i64 384] w fun e w' => e = .returned (.pointer (some ⟨b, 20, none⟩)) ∧ w = w' := by
  go_enter Try.func25, Try.ntmps25
  go_wp2
  go_ret
  exact ⟨rfl, rfl⟩

theorem place_768 (b : Nat) (w : World) : Calls Try.prog 25 #[.pointer (some ⟨b, 0, none⟩), .int .i64 768] w fun e w' => e = .returned (.pointer (some ⟨b, 0, none⟩)) ∧ w = w' := by
  go_enter Try.func25, Try.ntmps25
  go_wp2
  go_ret
  exact ⟨rfl, rfl⟩

theorem place_770 (b : Nat) (w : World) : Calls Try.prog 25 #[.pointer (some ⟨b, 0, none⟩), .int .i64 770] w fun e w' => e = .returned (.pointer (some ⟨b, 2, none⟩)) ∧ w = w' := by
  go_enter Try.func25, Try.ntmps25
  go_wp2
  go_ret
  exact ⟨rfl, rfl⟩

theorem place_771 (b : Nat) (w : World) : Calls Try.prog 25 #[.pointer (some ⟨b, 0, none⟩), .int .i64 771] w fun e w' => e = .returned (.pointer (some ⟨b, 3, none⟩)) ∧ w = w' := by
  go_enter Try.func25, Try.ntmps25
  go_wp2
  go_ret
  exact ⟨rfl, rfl⟩

theorem place_772 (b : Nat) (w : World) : Calls Try.prog 25 #[.pointer (some ⟨b, 0, none⟩), .int .i64 772] w fun e w' => e = .returned (.pointer (some ⟨b, 4, none⟩)) ∧ w = w' := by
  go_enter Try.func25, Try.ntmps25
  go_wp2
  go_ret
  exact ⟨rfl, rfl⟩

theorem place_773 (b : Nat) (w : World) : Calls Try.prog 25 #[.pointer (some ⟨b, 0, none⟩), .int .i64 773] w fun e w' => e = .returned (.pointer (some ⟨b, 1, none⟩)) ∧ w = w' := by
  go_enter Try.func25, Try.ntmps25
  go_wp2
  go_ret
  exact ⟨rfl, rfl⟩

theorem place_774 (b : Nat) (w : World) : Calls Try.prog 25 #[.pointer (some ⟨b, 0, none⟩), .int .i64 774] w fun e w' => e = .returned (.pointer (some ⟨b, 10, none⟩)) ∧ w = w' := by
  go_enter Try.func25, Try.ntmps25
  go_wp2
  go_ret
  exact ⟨rfl, rfl⟩

theorem place_800 (b : Nat) (w : World) : Calls Try.prog 25 #[.pointer (some ⟨b, 0, none⟩), .int .i64 800] w fun e w' => e = .returned (.pointer (some ⟨b, 11, none⟩)) ∧ w = w' := by
  go_enter Try.func25, Try.ntmps25
  go_wp2
  go_ret
  exact ⟨rfl, rfl⟩

theorem place_832 (b : Nat) (w : World) : Calls Try.prog 25 #[.pointer (some ⟨b, 0, none⟩), .int .i64 832] w fun e w' => e = .returned (.pointer (some ⟨b, 9, none⟩)) ∧ w = w' := by
  go_enter Try.func25, Try.ntmps25
  go_wp2
  go_ret
  exact ⟨rfl, rfl⟩

theorem place_833 (b : Nat) (w : World) : Calls Try.prog 25 #[.pointer (some ⟨b, 0, none⟩), .int .i64 833] w fun e w' => e = .returned (.pointer (some ⟨b, 6, none⟩)) ∧ w = w' := by
  go_enter Try.func25, Try.ntmps25
  go_wp2
  go_ret
  exact ⟨rfl, rfl⟩

theorem place_834 (b : Nat) (w : World) : Calls Try.prog 25 #[.pointer (some ⟨b, 0, none⟩), .int .i64 834] w fun e w' => e = .returned (.pointer (some ⟨b, 7, none⟩)) ∧ w = w' := by
  go_enter Try.func25, Try.ntmps25
  go_wp2
  go_ret
  exact ⟨rfl, rfl⟩

theorem place_835 (b : Nat) (w : World) : Calls Try.prog 25 #[.pointer (some ⟨b, 0, none⟩), .int .i64 835] w fun e w' => e = .returned (.pointer (some ⟨b, 8, none⟩)) ∧ w = w' := by
  go_enter Try.func25, Try.ntmps25
  go_wp2
  go_ret
  exact ⟨rfl, rfl⟩

theorem place_2816 (b : Nat) (w : World) : Calls Try.prog 25 #[.pointer (some ⟨b, 0, none⟩), .int .i64 2816] w fun e w' => e = .returned (.pointer (some ⟨b, 12, none⟩)) ∧ w = w' := by
  go_enter Try.func25, Try.ntmps25
  go_wp2
  go_ret
  exact ⟨rfl, rfl⟩

theorem place_2818 (b : Nat) (w : World) : Calls Try.prog 25 #[.pointer (some ⟨b, 0, none⟩), .int .i64 2818] w fun e w' => e = .returned (.pointer (some ⟨b, 13, none⟩)) ∧ w = w' := by
  go_enter Try.func25, Try.ntmps25
  go_wp2
  go_ret
  exact ⟨rfl, rfl⟩

@[go_sem] theorem index_G_0 (r : Regs) (w : World) : (Instr.index 23 (.agg #[Value.int IntKind.u8 (U1 r.c0), Value.int IntKind.u8 (U1 r.c1), Value.int IntKind.u8 (U1 r.c2), Value.int IntKind.u8 (U1 r.c3), Value.int IntKind.u8 (U1 r.c4), Value.int IntKind.u8 (U1 r.c5), Value.int IntKind.u8 (U1 r.c6), Value.int IntKind.u8 (U1 r.c7)]) (.int .i64 0)).run Try.prog w = .ok (.int .u8 (U1 r.c0)) w := by kernel_rfl
@[go_sem] theorem index_G_1 (r : Regs) (w : World) : (Instr.index 23 (.agg #[Value.int IntKind.u8 (U1 r.c0), Value.int IntKind.u8 (U1 r.c1), Value.int IntKind.u8 (U1 r.c2), Value.int IntKind.u8 (U1 r.c3), Value.int IntKind.u8 (U1 r.c4), Value.int IntKind.u8 (U1 r.c5), Value.int IntKind.u8 (U1 r.c6), Value.int IntKind.u8 (U1 r.c7)]) (.int .i64 1)).run Try.prog w = .ok (.int .u8 (U1 r.c1)) w := by kernel_rfl
@[go_sem] theorem index_G_2 (r : Regs) (w : World) : (Instr.index 23 (.agg #[Value.int IntKind.u8 (U1 r.c0), Value.int IntKind.u8 (U1 r.c1), Value.int IntKind.u8 (U1 r.c2), Value.int IntKind.u8 (U1 r.c3), Value.int IntKind.u8 (U1 r.c4), Value.int IntKind.u8 (U1 r.c5), Value.int IntKind.u8 (U1 r.c6), Value.int IntKind.u8 (U1 r.c7)]) (.int .i64 2)).run Try.prog w = .ok (.int .u8 (U1 r.c2)) w := by kernel_rfl
@[go_sem] theorem index_G_3 (r : Regs) (w : World) : (Instr.index 23 (.agg #[Value.int IntKind.u8 (U1 r.c0), Value.int IntKind.u8 (U1 r.c1), Value.int IntKind.u8 (U1 r.c2), Value.int IntKind.u8 (U1 r.c3), Value.int IntKind.u8 (U1 r.c4), Value.int IntKind.u8 (U1 r.c5), Value.int IntKind.u8 (U1 r.c6), Value.int IntKind.u8 (U1 r.c7)]) (.int .i64 3)).run Try.prog w = .ok (.int .u8 (U1 r.c3)) w := by kernel_rfl
@[go_sem] theorem index_G_4 (r : Regs) (w : World) : (Instr.index 23 (.agg #[Value.int IntKind.u8 (U1 r.c0), Value.int IntKind.u8 (U1 r.c1), Value.int IntKind.u8 (U1 r.c2), Value.int IntKind.u8 (U1 r.c3), Value.int IntKind.u8 (U1 r.c4), Value.int IntKind.u8 (U1 r.c5), Value.int IntKind.u8 (U1 r.c6), Value.int IntKind.u8 (U1 r.c7)]) (.int .i64 4)).run Try.prog w = .ok (.int .u8 (U1 r.c4)) w := by kernel_rfl
@[go_sem] theorem index_G_5 (r : Regs) (w : World) : (Instr.index 23 (.agg #[Value.int IntKind.u8 (U1 r.c0), Value.int IntKind.u8 (U1 r.c1), Value.int IntKind.u8 (U1 r.c2), Value.int IntKind.u8 (U1 r.c3), Value.int IntKind.u8 (U1 r.c4), Value.int IntKind.u8 (U1 r.c5), Value.int IntKind.u8 (U1 r.c6), Value.int IntKind.u8 (U1 r.c7)]) (.int .i64 5)).run Try.prog w = .ok (.int .u8 (U1 r.c5)) w := by kernel_rfl
@[go_sem] theorem index_G_6 (r : Regs) (w : World) : (Instr.index 23 (.agg #[Value.int IntKind.u8 (U1 r.c0), Value.int IntKind.u8 (U1 r.c1), Value.int IntKind.u8 (U1 r.c2), Value.int IntKind.u8 (U1 r.c3), Value.int IntKind.u8 (U1 r.c4), Value.int IntKind.u8 (U1 r.c5), Value.int IntKind.u8 (U1 r.c6), Value.int IntKind.u8 (U1 r.c7)]) (.int .i64 6)).run Try.prog w = .ok (.int .u8 (U1 r.c6)) w := by kernel_rfl
@[go_sem] theorem index_G_7 (r : Regs) (w : World) : (Instr.index 23 (.agg #[Value.int IntKind.u8 (U1 r.c0), Value.int IntKind.u8 (U1 r.c1), Value.int IntKind.u8 (U1 r.c2), Value.int IntKind.u8 (U1 r.c3), Value.int IntKind.u8 (U1 r.c4), Value.int IntKind.u8 (U1 r.c5), Value.int IntKind.u8 (U1 r.c6), Value.int IntKind.u8 (U1 r.c7)]) (.int .i64 7)).run Try.prog w = .ok (.int .u8 (U1 r.c7)) w := by kernel_rfl
set_option maxHeartbeats 1000000 in
theorem place_none (b : Nat) (n : Int) (n261 : (n == 261) = false) (n262 : (n == 262) = false) (n320 : (n == 320) = false) (n321 : (n == 321) = false) (n322 : (n == 322) = false) (n323 : (n == 323) = false) (n384 : (n == 384) = false) (n768 : (n == 768) = false) (n770 : (n == 770) = false) (n771 : (n == 771) = false) (n772 : (n == 772) = false) (n773 : (n == 773) = false) (n774 : (n == 774) = false) (n800 : (n == 800) = false) (n832 : (n == 832) = false) (n833 : (n == 833) = false) (n834 : (n == 834) = false) (n835 : (n == 835) = false) (n2816 : (n == 2816) = false) (n2818 : (n == 2818) = false) (w : World) : Calls Try.prog 25 #[.pointer (some ⟨b, 0, none⟩), .int .i64 n] w fun e w' => e = .returned (.pointer none) ∧ w = w' := by
  go_enter Try.func25, Try.ntmps25
  go_wp2
  go_ret
  exact ⟨rfl, rfl⟩

set_option maxHeartbeats 1000000 in
theorem Read_1 (r : Regs) (l t : BitVec 64) (w : World) : Calls Try.prog 14 #[.agg (C r), .int .i64 1, .int .u64 (U l), .int .u64 (U t)] w fun e w' => e = .returned (.int .u64 (U (r.fcsr &&& 31#64))) ∧ More w w' := by
  go_enter Try.func14, Try.ntmps14
  go_wp2_with (fail)
  go_ret
  exact ⟨ret1 (int_eq (rfl)), (More.refl _).alloc _⟩

set_option maxHeartbeats 1000000 in
theorem Read_2 (r : Regs) (l t : BitVec 64) (w : World) : Calls Try.prog 14 #[.agg (C r), .int .i64 2, .int .u64 (U l), .int .u64 (U t)] w fun e w' => e = .returned (.int .u64 (U (r.fcsr >>> 5 &&& 7#64))) ∧ More w w' := by
  go_enter Try.func14, Try.ntmps14
  go_wp2_with (fail)
  go_ret
  exact ⟨ret1 (int_eq (rfl)), (More.refl _).alloc _⟩

set_option maxHeartbeats 1000000 in
theorem Read_3 (r : Regs) (l t : BitVec 64) (w : World) : Calls Try.prog 14 #[.agg (C r), .int .i64 3, .int .u64 (U l), .int .u64 (U t)] w fun e w' => e = .returned (.int .u64 (U (r.fcsr))) ∧ More w w' := by
  go_enter Try.func14, Try.ntmps14
  go_wp2_with (fail)
  go_ret
  exact ⟨ret1 (int_eq (rfl)), (More.refl _).alloc _⟩

set_option maxHeartbeats 1000000 in
theorem Read_256 (r : Regs) (l t : BitVec 64) (w : World) : Calls Try.prog 14 #[.agg (C r), .int .i64 256, .int .u64 (U l), .int .u64 (U t)] w fun e w' => e = .returned (.int .u64 (U (r.mstatus &&& 9223372045445521698#64))) ∧ More w w' := by
  go_enter Try.func14, Try.ntmps14
  go_wp2_with (fail)
  go_ret
  exact ⟨ret1 (int_eq (rfl)), (More.refl _).alloc _⟩

set_option maxHeartbeats 1000000 in
theorem Read_260 (r : Regs) (l t : BitVec 64) (w : World) : Calls Try.prog 14 #[.agg (C r), .int .i64 260, .int .u64 (U l), .int .u64 (U t)] w fun e w' => e = .returned (.int .u64 (U (r.mie &&& r.mideleg))) ∧ More w w' := by
  go_enter Try.func14, Try.ntmps14
  go_wp2_with (fail)
  go_ret
  exact ⟨ret1 (int_eq (rfl)), (More.refl _).alloc _⟩

set_option maxHeartbeats 1000000 in
theorem Read_261 (r : Regs) (l t : BitVec 64) (w : World) : Calls Try.prog 14 #[.agg (C r), .int .i64 261, .int .u64 (U l), .int .u64 (U t)] w fun e w' => e = .returned (.int .u64 (U (r.stvec))) ∧ More w w' := by
  go_enter Try.func14, Try.ntmps14
  go_wp2_with (go_at_call 25; refine (place_261 _ _).mono ?_; rintro e w' ⟨rfl, rfl⟩)
  go_ret
  exact ⟨ret1 (int_eq (rfl)), (More.refl _).alloc _⟩

set_option maxHeartbeats 1000000 in
theorem Read_262 (r : Regs) (l t : BitVec 64) (w : World) : Calls Try.prog 14 #[.agg (C r), .int .i64 262, .int .u64 (U l), .int .u64 (U t)] w fun e w' => e = .returned (.int .u64 (U (r.scounteren))) ∧ More w w' := by
  go_enter Try.func14, Try.ntmps14
  go_wp2_with (go_at_call 25; refine (place_262 _ _).mono ?_; rintro e w' ⟨rfl, rfl⟩)
  go_ret
  exact ⟨ret1 (int_eq (rfl)), (More.refl _).alloc _⟩

set_option maxHeartbeats 1000000 in
theorem Read_320 (r : Regs) (l t : BitVec 64) (w : World) : Calls Try.prog 14 #[.agg (C r), .int .i64 320, .int .u64 (U l), .int .u64 (U t)] w fun e w' => e = .returned (.int .u64 (U (r.sscratch))) ∧ More w w' := by
  go_enter Try.func14, Try.ntmps14
  go_wp2_with (go_at_call 25; refine (place_320 _ _).mono ?_; rintro e w' ⟨rfl, rfl⟩)
  go_ret
  exact ⟨ret1 (int_eq (rfl)), (More.refl _).alloc _⟩

set_option maxHeartbeats 1000000 in
theorem Read_321 (r : Regs) (l t : BitVec 64) (w : World) : Calls Try.prog 14 #[.agg (C r), .int .i64 321, .int .u64 (U l), .int .u64 (U t)] w fun e w' => e = .returned (.int .u64 (U (r.sepc))) ∧ More w w' := by
  go_enter Try.func14, Try.ntmps14
  go_wp2_with (go_at_call 25; refine (place_321 _ _).mono ?_; rintro e w' ⟨rfl, rfl⟩)
  go_ret
  exact ⟨ret1 (int_eq (rfl)), (More.refl _).alloc _⟩

set_option maxHeartbeats 1000000 in
theorem Read_322 (r : Regs) (l t : BitVec 64) (w : World) : Calls Try.prog 14 #[.agg (C r), .int .i64 322, .int .u64 (U l), .int .u64 (U t)] w fun e w' => e = .returned (.int .u64 (U (r.scause))) ∧ More w w' := by
  go_enter Try.func14, Try.ntmps14
  go_wp2_with (go_at_call 25; refine (place_322 _ _).mono ?_; rintro e w' ⟨rfl, rfl⟩)
  go_ret
  exact ⟨ret1 (int_eq (rfl)), (More.refl _).alloc _⟩

set_option maxHeartbeats 1000000 in
theorem Read_323 (r : Regs) (l t : BitVec 64) (w : World) : Calls Try.prog 14 #[.agg (C r), .int .i64 323, .int .u64 (U l), .int .u64 (U t)] w fun e w' => e = .returned (.int .u64 (U (r.stval))) ∧ More w w' := by
  go_enter Try.func14, Try.ntmps14
  go_wp2_with (go_at_call 25; refine (place_323 _ _).mono ?_; rintro e w' ⟨rfl, rfl⟩)
  go_ret
  exact ⟨ret1 (int_eq (rfl)), (More.refl _).alloc _⟩

set_option maxHeartbeats 1000000 in
theorem Read_324 (r : Regs) (l t : BitVec 64) (w : World) : Calls Try.prog 14 #[.agg (C r), .int .i64 324, .int .u64 (U l), .int .u64 (U t)] w fun e w' => e = .returned (.int .u64 (U ((r.mip ||| l &&& 2696#64) &&& r.mideleg))) ∧ More w w' := by
  go_enter Try.func14, Try.ntmps14
  go_wp2_with (fail)
  go_ret
  exact ⟨ret1 (int_eq (rfl)), (More.refl _).alloc _⟩

set_option maxHeartbeats 1000000 in
theorem Read_384 (r : Regs) (l t : BitVec 64) (w : World) : Calls Try.prog 14 #[.agg (C r), .int .i64 384, .int .u64 (U l), .int .u64 (U t)] w fun e w' => e = .returned (.int .u64 (U (r.satp))) ∧ More w w' := by
  go_enter Try.func14, Try.ntmps14
  go_wp2_with (go_at_call 25; refine (place_384 _ _).mono ?_; rintro e w' ⟨rfl, rfl⟩)
  go_ret
  exact ⟨ret1 (int_eq (rfl)), (More.refl _).alloc _⟩

set_option maxHeartbeats 1000000 in
theorem Read_768 (r : Regs) (l t : BitVec 64) (w : World) : Calls Try.prog 14 #[.agg (C r), .int .i64 768, .int .u64 (U l), .int .u64 (U t)] w fun e w' => e = .returned (.int .u64 (U (r.mstatus))) ∧ More w w' := by
  go_enter Try.func14, Try.ntmps14
  go_wp2_with (go_at_call 25; refine (place_768 _ _).mono ?_; rintro e w' ⟨rfl, rfl⟩)
  go_ret
  exact ⟨ret1 (int_eq (rfl)), (More.refl _).alloc _⟩

set_option maxHeartbeats 1000000 in
theorem Read_769 (r : Regs) (l t : BitVec 64) (w : World) : Calls Try.prog 14 #[.agg (C r), .int .i64 769, .int .u64 (U l), .int .u64 (U t)] w fun e w' => e = .returned (.int .u64 (U (9223372036856090925#64))) ∧ More w w' := by
  go_enter Try.func14, Try.ntmps14
  go_wp2_with (fail)
  go_ret
  exact ⟨ret1 (int_eq (by decide +kernel)), (More.refl _).alloc _⟩

set_option maxHeartbeats 1000000 in
theorem Read_770 (r : Regs) (l t : BitVec 64) (w : World) : Calls Try.prog 14 #[.agg (C r), .int .i64 770, .int .u64 (U l), .int .u64 (U t)] w fun e w' => e = .returned (.int .u64 (U (r.medeleg))) ∧ More w w' := by
  go_enter Try.func14, Try.ntmps14
  go_wp2_with (go_at_call 25; refine (place_770 _ _).mono ?_; rintro e w' ⟨rfl, rfl⟩)
  go_ret
  exact ⟨ret1 (int_eq (rfl)), (More.refl _).alloc _⟩

set_option maxHeartbeats 1000000 in
theorem Read_771 (r : Regs) (l t : BitVec 64) (w : World) : Calls Try.prog 14 #[.agg (C r), .int .i64 771, .int .u64 (U l), .int .u64 (U t)] w fun e w' => e = .returned (.int .u64 (U (r.mideleg))) ∧ More w w' := by
  go_enter Try.func14, Try.ntmps14
  go_wp2_with (go_at_call 25; refine (place_771 _ _).mono ?_; rintro e w' ⟨rfl, rfl⟩)
  go_ret
  exact ⟨ret1 (int_eq (rfl)), (More.refl _).alloc _⟩

set_option maxHeartbeats 1000000 in
theorem Read_772 (r : Regs) (l t : BitVec 64) (w : World) : Calls Try.prog 14 #[.agg (C r), .int .i64 772, .int .u64 (U l), .int .u64 (U t)] w fun e w' => e = .returned (.int .u64 (U (r.mie))) ∧ More w w' := by
  go_enter Try.func14, Try.ntmps14
  go_wp2_with (go_at_call 25; refine (place_772 _ _).mono ?_; rintro e w' ⟨rfl, rfl⟩)
  go_ret
  exact ⟨ret1 (int_eq (rfl)), (More.refl _).alloc _⟩

set_option maxHeartbeats 1000000 in
theorem Read_773 (r : Regs) (l t : BitVec 64) (w : World) : Calls Try.prog 14 #[.agg (C r), .int .i64 773, .int .u64 (U l), .int .u64 (U t)] w fun e w' => e = .returned (.int .u64 (U (r.mtvec))) ∧ More w w' := by
  go_enter Try.func14, Try.ntmps14
  go_wp2_with (go_at_call 25; refine (place_773 _ _).mono ?_; rintro e w' ⟨rfl, rfl⟩)
  go_ret
  exact ⟨ret1 (int_eq (rfl)), (More.refl _).alloc _⟩

set_option maxHeartbeats 1000000 in
theorem Read_774 (r : Regs) (l t : BitVec 64) (w : World) : Calls Try.prog 14 #[.agg (C r), .int .i64 774, .int .u64 (U l), .int .u64 (U t)] w fun e w' => e = .returned (.int .u64 (U (r.mcounteren))) ∧ More w w' := by
  go_enter Try.func14, Try.ntmps14
  go_wp2_with (go_at_call 25; refine (place_774 _ _).mono ?_; rintro e w' ⟨rfl, rfl⟩)
  go_ret
  exact ⟨ret1 (int_eq (rfl)), (More.refl _).alloc _⟩

set_option maxHeartbeats 1000000 in
theorem Read_800 (r : Regs) (l t : BitVec 64) (w : World) : Calls Try.prog 14 #[.agg (C r), .int .i64 800, .int .u64 (U l), .int .u64 (U t)] w fun e w' => e = .returned (.int .u64 (U (r.mcountinhibit))) ∧ More w w' := by
  go_enter Try.func14, Try.ntmps14
  go_wp2_with (go_at_call 25; refine (place_800 _ _).mono ?_; rintro e w' ⟨rfl, rfl⟩)
  go_ret
  exact ⟨ret1 (int_eq (rfl)), (More.refl _).alloc _⟩

set_option maxHeartbeats 1000000 in
theorem Read_832 (r : Regs) (l t : BitVec 64) (w : World) : Calls Try.prog 14 #[.agg (C r), .int .i64 832, .int .u64 (U l), .int .u64 (U t)] w fun e w' => e = .returned (.int .u64 (U (r.mscratch))) ∧ More w w' := by
  go_enter Try.func14, Try.ntmps14
  go_wp2_with (go_at_call 25; refine (place_832 _ _).mono ?_; rintro e w' ⟨rfl, rfl⟩)
  go_ret
  exact ⟨ret1 (int_eq (rfl)), (More.refl _).alloc _⟩

set_option maxHeartbeats 1000000 in
theorem Read_833 (r : Regs) (l t : BitVec 64) (w : World) : Calls Try.prog 14 #[.agg (C r), .int .i64 833, .int .u64 (U l), .int .u64 (U t)] w fun e w' => e = .returned (.int .u64 (U (r.mepc))) ∧ More w w' := by
  go_enter Try.func14, Try.ntmps14
  go_wp2_with (go_at_call 25; refine (place_833 _ _).mono ?_; rintro e w' ⟨rfl, rfl⟩)
  go_ret
  exact ⟨ret1 (int_eq (rfl)), (More.refl _).alloc _⟩

set_option maxHeartbeats 1000000 in
theorem Read_834 (r : Regs) (l t : BitVec 64) (w : World) : Calls Try.prog 14 #[.agg (C r), .int .i64 834, .int .u64 (U l), .int .u64 (U t)] w fun e w' => e = .returned (.int .u64 (U (r.mcause))) ∧ More w w' := by
  go_enter Try.func14, Try.ntmps14
  go_wp2_with (go_at_call 25; refine (place_834 _ _).mono ?_; rintro e w' ⟨rfl, rfl⟩)
  go_ret
  exact ⟨ret1 (int_eq (rfl)), (More.refl _).alloc _⟩

set_option maxHeartbeats 1000000 in
theorem Read_835 (r : Regs) (l t : BitVec 64) (w : World) : Calls Try.prog 14 #[.agg (C r), .int .i64 835, .int .u64 (U l), .int .u64 (U t)] w fun e w' => e = .returned (.int .u64 (U (r.mtval))) ∧ More w w' := by
  go_enter Try.func14, Try.ntmps14
  go_wp2_with (go_at_call 25; refine (place_835 _ _).mono ?_; rintro e w' ⟨rfl, rfl⟩)
  go_ret
  exact ⟨ret1 (int_eq (rfl)), (More.refl _).alloc _⟩

set_option maxHeartbeats 1000000 in
theorem Read_836 (r : Regs) (l t : BitVec 64) (w : World) : Calls Try.prog 14 #[.agg (C r), .int .i64 836, .int .u64 (U l), .int .u64 (U t)] w fun e w' => e = .returned (.int .u64 (U (r.mip ||| l &&& 2696#64))) ∧ More w w' := by
  go_enter Try.func14, Try.ntmps14
  go_wp2_with (fail)
  go_ret
  exact ⟨ret1 (int_eq (rfl)), (More.refl _).alloc _⟩

set_option maxHeartbeats 1000000 in
theorem Read_944 (r : Regs) (l t : BitVec 64) (w : World) : Calls Try.prog 14 #[.agg (C r), .int .i64 944, .int .u64 (U l), .int .u64 (U t)] w fun e w' => e = .returned (.int .u64 (U (r.a0))) ∧ More w w' := by
  go_enter Try.func14, Try.ntmps14
  go_wp2_with (fail)
  go_ret
  exact ⟨ret1 (int_eq (rfl)), (More.refl _).alloc _⟩

set_option maxHeartbeats 1000000 in
theorem Read_945 (r : Regs) (l t : BitVec 64) (w : World) : Calls Try.prog 14 #[.agg (C r), .int .i64 945, .int .u64 (U l), .int .u64 (U t)] w fun e w' => e = .returned (.int .u64 (U (r.a1))) ∧ More w w' := by
  go_enter Try.func14, Try.ntmps14
  go_wp2_with (fail)
  go_ret
  exact ⟨ret1 (int_eq (rfl)), (More.refl _).alloc _⟩

set_option maxHeartbeats 1000000 in
theorem Read_946 (r : Regs) (l t : BitVec 64) (w : World) : Calls Try.prog 14 #[.agg (C r), .int .i64 946, .int .u64 (U l), .int .u64 (U t)] w fun e w' => e = .returned (.int .u64 (U (r.a2))) ∧ More w w' := by
  go_enter Try.func14, Try.ntmps14
  go_wp2_with (fail)
  go_ret
  exact ⟨ret1 (int_eq (rfl)), (More.refl _).alloc _⟩

set_option maxHeartbeats 1000000 in
theorem Read_947 (r : Regs) (l t : BitVec 64) (w : World) : Calls Try.prog 14 #[.agg (C r), .int .i64 947, .int .u64 (U l), .int .u64 (U t)] w fun e w' => e = .returned (.int .u64 (U (r.a3))) ∧ More w w' := by
  go_enter Try.func14, Try.ntmps14
  go_wp2_with (fail)
  go_ret
  exact ⟨ret1 (int_eq (rfl)), (More.refl _).alloc _⟩

set_option maxHeartbeats 1000000 in
theorem Read_948 (r : Regs) (l t : BitVec 64) (w : World) : Calls Try.prog 14 #[.agg (C r), .int .i64 948, .int .u64 (U l), .int .u64 (U t)] w fun e w' => e = .returned (.int .u64 (U (r.a4))) ∧ More w w' := by
  go_enter Try.func14, Try.ntmps14
  go_wp2_with (fail)
  go_ret
  exact ⟨ret1 (int_eq (rfl)), (More.refl _).alloc _⟩

set_option maxHeartbeats 1000000 in
theorem Read_949 (r : Regs) (l t : BitVec 64) (w : World) : Calls Try.prog 14 #[.agg (C r), .int .i64 949, .int .u64 (U l), .int .u64 (U t)] w fun e w' => e = .returned (.int .u64 (U (r.a5))) ∧ More w w' := by
  go_enter Try.func14, Try.ntmps14
  go_wp2_with (fail)
  go_ret
  exact ⟨ret1 (int_eq (rfl)), (More.refl _).alloc _⟩

set_option maxHeartbeats 1000000 in
theorem Read_950 (r : Regs) (l t : BitVec 64) (w : World) : Calls Try.prog 14 #[.agg (C r), .int .i64 950, .int .u64 (U l), .int .u64 (U t)] w fun e w' => e = .returned (.int .u64 (U (r.a6))) ∧ More w w' := by
  go_enter Try.func14, Try.ntmps14
  go_wp2_with (fail)
  go_ret
  exact ⟨ret1 (int_eq (rfl)), (More.refl _).alloc _⟩

set_option maxHeartbeats 1000000 in
theorem Read_951 (r : Regs) (l t : BitVec 64) (w : World) : Calls Try.prog 14 #[.agg (C r), .int .i64 951, .int .u64 (U l), .int .u64 (U t)] w fun e w' => e = .returned (.int .u64 (U (r.a7))) ∧ More w w' := by
  go_enter Try.func14, Try.ntmps14
  go_wp2_with (fail)
  go_ret
  exact ⟨ret1 (int_eq (rfl)), (More.refl _).alloc _⟩

set_option maxHeartbeats 1000000 in
theorem Read_2816 (r : Regs) (l t : BitVec 64) (w : World) : Calls Try.prog 14 #[.agg (C r), .int .i64 2816, .int .u64 (U l), .int .u64 (U t)] w fun e w' => e = .returned (.int .u64 (U (r.mcycle))) ∧ More w w' := by
  go_enter Try.func14, Try.ntmps14
  go_wp2_with (go_at_call 25; refine (place_2816 _ _).mono ?_; rintro e w' ⟨rfl, rfl⟩)
  go_ret
  exact ⟨ret1 (int_eq (rfl)), (More.refl _).alloc _⟩

set_option maxHeartbeats 1000000 in
theorem Read_2818 (r : Regs) (l t : BitVec 64) (w : World) : Calls Try.prog 14 #[.agg (C r), .int .i64 2818, .int .u64 (U l), .int .u64 (U t)] w fun e w' => e = .returned (.int .u64 (U (r.minstret))) ∧ More w w' := by
  go_enter Try.func14, Try.ntmps14
  go_wp2_with (go_at_call 25; refine (place_2818 _ _).mono ?_; rintro e w' ⟨rfl, rfl⟩)
  go_ret
  exact ⟨ret1 (int_eq (rfl)), (More.refl _).alloc _⟩

set_option maxHeartbeats 1000000 in
theorem Read_3072 (r : Regs) (l t : BitVec 64) (w : World) : Calls Try.prog 14 #[.agg (C r), .int .i64 3072, .int .u64 (U l), .int .u64 (U t)] w fun e w' => e = .returned (.int .u64 (U (r.mcycle))) ∧ More w w' := by
  go_enter Try.func14, Try.ntmps14
  go_wp2_with (fail)
  go_ret
  exact ⟨ret1 (int_eq (rfl)), (More.refl _).alloc _⟩

set_option maxHeartbeats 1000000 in
theorem Read_3073 (r : Regs) (l t : BitVec 64) (w : World) : Calls Try.prog 14 #[.agg (C r), .int .i64 3073, .int .u64 (U l), .int .u64 (U t)] w fun e w' => e = .returned (.int .u64 (U (t))) ∧ More w w' := by
  go_enter Try.func14, Try.ntmps14
  go_wp2_with (fail)
  go_ret
  exact ⟨ret1 (int_eq (rfl)), (More.refl _).alloc _⟩

set_option maxHeartbeats 1000000 in
theorem Read_3074 (r : Regs) (l t : BitVec 64) (w : World) : Calls Try.prog 14 #[.agg (C r), .int .i64 3074, .int .u64 (U l), .int .u64 (U t)] w fun e w' => e = .returned (.int .u64 (U (r.minstret))) ∧ More w w' := by
  go_enter Try.func14, Try.ntmps14
  go_wp2_with (fail)
  go_ret
  exact ⟨ret1 (int_eq (rfl)), (More.refl _).alloc _⟩

set_option maxHeartbeats 1000000 in
theorem Read_928 (r : Regs) (l t : BitVec 64) (w : World) : Calls Try.prog 14 #[.agg (C r), .int .i64 928, .int .u64 (U l), .int .u64 (U t)] w fun e w' => e = .returned (.int .u64 (U (cfgU r 8))) ∧ More w w' := by
  go_enter Try.func14, Try.ntmps14
  go_wp2_with fail
  go_loop [10, 73] (fun vv iv => ∃ j : Nat, j ≤ 8 ∧ iv = .int .i64 j ∧ vv = .int .u64 (U (cfgU r j))) (fun _ iv => 8 - (intOf iv).toNat)
  case atStart => exact ⟨0, by omega, rfl, rfl⟩
  case round =>
    obtain ⟨j, hj, rfl, rfl⟩ := hrel
    obtain rfl | rfl | rfl | rfl | rfl | rfl | rfl | rfl | rfl : j = 0 ∨ j = 1 ∨ j = 2 ∨ j = 3 ∨ j = 4 ∨ j = 5 ∨ j = 6 ∨ j = 7 ∨ j = 8 := by omega
    · simp only [cfgU]
      go_wp2_with fail
      go_round
      case rel => exact ⟨1, by omega, by go_num, rfl⟩
      case measure => simp [intOf]
    · simp only [cfgU]
      go_wp2_with fail
      go_round
      case rel => exact ⟨2, by omega, by go_num, rfl⟩
      case measure => simp [intOf]
    · simp only [cfgU]
      go_wp2_with fail
      go_round
      case rel => exact ⟨3, by omega, by go_num, rfl⟩
      case measure => simp [intOf]
    · simp only [cfgU]
      go_wp2_with fail
      go_round
      case rel => exact ⟨4, by omega, by go_num, rfl⟩
      case measure => simp [intOf]
    · simp only [cfgU]
      go_wp2_with fail
      go_round
      case rel => exact ⟨5, by omega, by go_num, rfl⟩
      case measure => simp [intOf]
    · simp only [cfgU]
      go_wp2_with fail
      go_round
      case rel => exact ⟨6, by omega, by go_num, rfl⟩
      case measure => simp [intOf]
    · simp only [cfgU]
      go_wp2_with fail
      go_round
      case rel => exact ⟨7, by omega, by go_num, rfl⟩
      case measure => simp [intOf]
    · simp only [cfgU]
      go_wp2_with fail
      go_round
      case rel => exact ⟨8, by omega, by go_num, rfl⟩
      case measure => simp [intOf]
    · go_wp2_with fail
      go_ret
      exact ⟨rfl, (More.refl _).alloc _⟩

set_option maxHeartbeats 4000000 in
theorem Read_none (r : Regs) (n : Int) (l t : BitVec 64) (n1 : (n == 1) = false) (n2 : (n == 2) = false) (n3 : (n == 3) = false) (n256 : (n == 256) = false) (n260 : (n == 260) = false) (n261 : (n == 261) = false) (n262 : (n == 262) = false) (n320 : (n == 320) = false) (n321 : (n == 321) = false) (n322 : (n == 322) = false) (n323 : (n == 323) = false) (n324 : (n == 324) = false) (n384 : (n == 384) = false) (n768 : (n == 768) = false) (n769 : (n == 769) = false) (n770 : (n == 770) = false) (n771 : (n == 771) = false) (n772 : (n == 772) = false) (n773 : (n == 773) = false) (n774 : (n == 774) = false) (n800 : (n == 800) = false) (n832 : (n == 832) = false) (n833 : (n == 833) = false) (n834 : (n == 834) = false) (n835 : (n == 835) = false) (n836 : (n == 836) = false) (n928 : (n == 928) = false) (n2816 : (n == 2816) = false) (n2818 : (n == 2818) = false) (n3072 : (n == 3072) = false) (n3073 : (n == 3073) = false) (n3074 : (n == 3074) = false) (h : ¬ (944 ≤ n ∧ n ≤ 951)) (w : World) : Calls Try.prog 14 #[.agg (C r), .int .i64 n, .int .u64 (U l), .int .u64 (U t)] w fun e w' => e = .returned (.int .u64 (U 0#64)) ∧ More w w' := by
  have s : decide (944 ≤ n) = false ∨ (decide (944 ≤ n) = true ∧ decide (n ≤ 951) = false) := by
    by_cases h1 : 944 ≤ n
    · exact .inr ⟨decide_eq_true h1, decide_eq_false (fun h2 => h ⟨h1, h2⟩)⟩
    · exact .inl (decide_eq_false h1)
  have c : Hid (∀ b w, Calls Try.prog 25 #[.pointer (some ⟨b, 0, none⟩), .int .i64 n] w fun e w' => e = .returned (.pointer none) ∧ w = w') := fun b w => place_none b n n261 n262 n320 n321 n322 n323 n384 n768 n770 n771 n772 n773 n774 n800 n832 n833 n834 n835 n2816 n2818 w
  clear n261 n262 n320 n321 n322 n323 n384 n768 n770 n771 n772 n773 n774 n800 n832 n833 n834 n835 n2816 n2818 s
  go_enter Try.func14, Try.ntmps14
  go_wp2_with (go_at_call 25; refine (c.out _ _).mono ?_; rintro e w' ⟨rfl, rfl⟩)
  all_goals
    go_ret
    exact ⟨rfl, (More.refl _).alloc _⟩

theorem Read_any (r : Regs) (n : Int) (l t : BitVec 64) (w : World) : Calls Try.prog 14 #[.agg (C r), .int .i64 n, .int .u64 (U l), .int .u64 (U t)] w fun e w' => e = .returned (.int .u64 (U (readS r n l t))) ∧ More w w' := by
  by_cases n1 : n = 1
  · subst n1; rw [readS_1]; exact Read_1 r l t w
  by_cases n2 : n = 2
  · subst n2; rw [readS_2]; exact Read_2 r l t w
  by_cases n3 : n = 3
  · subst n3; rw [readS_3]; exact Read_3 r l t w
  by_cases n256 : n = 256
  · subst n256; rw [readS_256]; exact Read_256 r l t w
  by_cases n260 : n = 260
  · subst n260; rw [readS_260]; exact Read_260 r l t w
  by_cases n261 : n = 261
  · subst n261; rw [readS_261]; exact Read_261 r l t w
  by_cases n262 : n = 262
  · subst n262; rw [readS_262]; exact Read_262 r l t w
  by_cases n320 : n = 320
  · subst n320; rw [readS_320]; exact Read_320 r l t w
  by_cases n321 : n = 321
  · subst n321; rw [readS_321]; exact Read_321 r l t w
  by_cases n322 : n = 322
  · subst n322; rw [readS_322]; exact Read_322 r l t w
  by_cases n323 : n = 323
  · subst n323; rw [readS_323]; exact Read_323 r l t w
  by_cases n324 : n = 324
  · subst n324; rw [readS_324]; exact Read_324 r l t w
  by_cases n384 : n = 384
  · subst n384; rw [readS_384]; exact Read_384 r l t w
  by_cases n768 : n = 768
  · subst n768; rw [readS_768]; exact Read_768 r l t w
  by_cases n769 : n = 769
  · subst n769; rw [readS_769]; exact Read_769 r l t w
  by_cases n770 : n = 770
  · subst n770; rw [readS_770]; exact Read_770 r l t w
  by_cases n771 : n = 771
  · subst n771; rw [readS_771]; exact Read_771 r l t w
  by_cases n772 : n = 772
  · subst n772; rw [readS_772]; exact Read_772 r l t w
  by_cases n773 : n = 773
  · subst n773; rw [readS_773]; exact Read_773 r l t w
  by_cases n774 : n = 774
  · subst n774; rw [readS_774]; exact Read_774 r l t w
  by_cases n800 : n = 800
  · subst n800; rw [readS_800]; exact Read_800 r l t w
  by_cases n832 : n = 832
  · subst n832; rw [readS_832]; exact Read_832 r l t w
  by_cases n833 : n = 833
  · subst n833; rw [readS_833]; exact Read_833 r l t w
  by_cases n834 : n = 834
  · subst n834; rw [readS_834]; exact Read_834 r l t w
  by_cases n835 : n = 835
  · subst n835; rw [readS_835]; exact Read_835 r l t w
  by_cases n836 : n = 836
  · subst n836; rw [readS_836]; exact Read_836 r l t w
  by_cases n928 : n = 928
  · subst n928; rw [readS_928]; exact Read_928 r l t w
  by_cases n944 : n = 944
  · subst n944; rw [readS_944]; exact Read_944 r l t w
  by_cases n945 : n = 945
  · subst n945; rw [readS_945]; exact Read_945 r l t w
  by_cases n946 : n = 946
  · subst n946; rw [readS_946]; exact Read_946 r l t w
  by_cases n947 : n = 947
  · subst n947; rw [readS_947]; exact Read_947 r l t w
  by_cases n948 : n = 948
  · subst n948; rw [readS_948]; exact Read_948 r l t w
  by_cases n949 : n = 949
  · subst n949; rw [readS_949]; exact Read_949 r l t w
  by_cases n950 : n = 950
  · subst n950; rw [readS_950]; exact Read_950 r l t w
  by_cases n951 : n = 951
  · subst n951; rw [readS_951]; exact Read_951 r l t w
  by_cases n2816 : n = 2816
  · subst n2816; rw [readS_2816]; exact Read_2816 r l t w
  by_cases n2818 : n = 2818
  · subst n2818; rw [readS_2818]; exact Read_2818 r l t w
  by_cases n3072 : n = 3072
  · subst n3072; rw [readS_3072]; exact Read_3072 r l t w
  by_cases n3073 : n = 3073
  · subst n3073; rw [readS_3073]; exact Read_3073 r l t w
  by_cases n3074 : n = 3074
  · subst n3074; rw [readS_3074]; exact Read_3074 r l t w
  rw [readS_none r n l t n1 n2 n3 n256 n260 n261 n262 n320 n321 n322 n323 n324 n384 n768 n769 n770 n771 n772 n773 n774 n800 n832 n833 n834 n835 n836 n928 n944 n945 n946 n947 n948 n949 n950 n951 n2816 n2818 n3072 n3073 n3074]
  exact Read_none r n l t (beq_eq_false_iff_ne.2 n1) (beq_eq_false_iff_ne.2 n2) (beq_eq_false_iff_ne.2 n3) (beq_eq_false_iff_ne.2 n256) (beq_eq_false_iff_ne.2 n260) (beq_eq_false_iff_ne.2 n261) (beq_eq_false_iff_ne.2 n262) (beq_eq_false_iff_ne.2 n320) (beq_eq_false_iff_ne.2 n321) (beq_eq_false_iff_ne.2 n322) (beq_eq_false_iff_ne.2 n323) (beq_eq_false_iff_ne.2 n324) (beq_eq_false_iff_ne.2 n384) (beq_eq_false_iff_ne.2 n768) (beq_eq_false_iff_ne.2 n769) (beq_eq_false_iff_ne.2 n770) (beq_eq_false_iff_ne.2 n771) (beq_eq_false_iff_ne.2 n772) (beq_eq_false_iff_ne.2 n773) (beq_eq_false_iff_ne.2 n774) (beq_eq_false_iff_ne.2 n800) (beq_eq_false_iff_ne.2 n832) (beq_eq_false_iff_ne.2 n833) (beq_eq_false_iff_ne.2 n834) (beq_eq_false_iff_ne.2 n835) (beq_eq_false_iff_ne.2 n836) (beq_eq_false_iff_ne.2 n928) (beq_eq_false_iff_ne.2 n2816) (beq_eq_false_iff_ne.2 n2818) (beq_eq_false_iff_ne.2 n3072) (beq_eq_false_iff_ne.2 n3073) (beq_eq_false_iff_ne.2 n3074) (by omega) w

end Go.Proofs.Ytgkajhpmgeofkaa