/-
  The walks of the reference's SetFs, above and Write. (Printed by gen_csrr.py.)
-/
import Derived.Test.YtgkajhpmgeofkaaCsrN
namespace Go.Proofs.Ytgkajhpmgeofkaa
set_option linter.unusedVariables false
open Go.RowKit

set_option maxRecDepth 100000 in
theorem RSetFs_any (r : Regs) (w : World) : Calls Try.prog 32 #[.agg (C r)] w fun e w' => e = .returned (.agg (C { r with mstatus := settledS (r.mstatus ||| 24576#64) })) ∧ More w w' := by
  go_enter Try.func32, Try.ntmps32
  go_wp2_with (first | (go_at_call 33; refine (RSettle_any _ _).mono ?_; rintro e w' ⟨rfl, rfl⟩) | refine alloc26 rfl rfl ?_ | (refine load26 rfl _ rfl _ rfl _ _ (heap_alloc2_old _ _ _) ?_) | (refine store26 rfl _ _ rfl _ rfl _ rfl _ _ (heap_alloc2_new _ _ _) rfl ?_; rw [setRow_2]))
  (try simp only [Exit.inBlock, Exit.then])
  exact ret26 rfl _ rfl _ _ (heap_alloc2_new _ _ _) rfl ⟨rfl, ((More.refl _).alloc _).alloc _⟩

set_option maxRecDepth 100000 in
set_option maxHeartbeats 2000000 in
theorem Above_768y (r : Regs) (v : BitVec 64) (h : (U (v >>> 11 &&& 3#64) == 2) = true) (w : World) : Calls Try.prog 34 #[.agg (C r), .int .i64 768, .int .u64 (U v)] w fun e w' => e = .returned (.agg (C ({ r with mstatus := settledS (layS r.mstatus v 8282538#64) }))) ∧ More w w' := by
  go_enter Try.func34, Try.ntmps34
  go_wp2_with (first | (go_at_call 31; refine (RMix_any _ _ (8282538#64) _).mono ?_; rintro e w' ⟨rfl, rfl⟩) | (go_at_call 33; refine (RSettle_any _ _).mono ?_; rintro e w' ⟨rfl, rfl⟩) | refine alloc26 rfl rfl ?_ | (refine load26 rfl _ rfl _ rfl _ _ (heap_alloc2_old _ _ _) ?_) | (refine store26 rfl _ _ rfl _ rfl _ rfl _ _ (heap_alloc2_new _ _ _) rfl ?_; rw [setRow_2]))
  (try simp only [Exit.inBlock, Exit.then])
  exact ret26 rfl _ rfl _ _ (heap_alloc2_new _ _ _) rfl ⟨rfl, ((More.refl _).alloc _).alloc _⟩

set_option maxRecDepth 100000 in
set_option maxHeartbeats 2000000 in
theorem Above_768n (r : Regs) (v : BitVec 64) (h : (U (v >>> 11 &&& 3#64) == 2) = false) (w : World) : Calls Try.prog 34 #[.agg (C r), .int .i64 768, .int .u64 (U v)] w fun e w' => e = .returned (.agg (C ({ r with mstatus := settledS (layS r.mstatus v 8288682#64) }))) ∧ More w w' := by
  go_enter Try.func34, Try.ntmps34
  go_wp2_with (first | (go_at_call 31; refine (RMix_any _ _ (8288682#64) _).mono ?_; rintro e w' ⟨rfl, rfl⟩) | (go_at_call 33; refine (RSettle_any _ _).mono ?_; rintro e w' ⟨rfl, rfl⟩) | refine alloc26 rfl rfl ?_ | (refine load26 rfl _ rfl _ rfl _ _ (heap_alloc2_old _ _ _) ?_) | (refine store26 rfl _ _ rfl _ rfl _ rfl _ _ (heap_alloc2_new _ _ _) rfl ?_; rw [setRow_2]))
  (try simp only [Exit.inBlock, Exit.then])
  exact ret26 rfl _ rfl _ _ (heap_alloc2_new _ _ _) rfl ⟨rfl, ((More.refl _).alloc _).alloc _⟩

set_option maxRecDepth 100000 in
set_option maxHeartbeats 2000000 in
theorem Above_770 (r : Regs) (v : BitVec 64)  (w : World) : Calls Try.prog 34 #[.agg (C r), .int .i64 770, .int .u64 (U v)] w fun e w' => e = .returned (.agg (C ({ r with medeleg := v &&& 46078#64 }))) ∧ More w w' := by
  go_enter Try.func34, Try.ntmps34
  go_wp2_with (first | refine alloc26 rfl rfl ?_ | (refine load26 rfl _ rfl _ rfl _ _ (heap_alloc2_old _ _ _) ?_) | (refine store26 rfl _ _ rfl _ rfl _ rfl _ _ (heap_alloc2_new _ _ _) rfl ?_; rw [setRow_2]))
  (try simp only [Exit.inBlock, Exit.then])
  exact ret26 rfl _ rfl _ _ (heap_alloc2_new _ _ _) rfl ⟨rfl, ((More.refl _).alloc _).alloc _⟩

set_option maxRecDepth 100000 in
set_option maxHeartbeats 2000000 in
theorem Above_771 (r : Regs) (v : BitVec 64)  (w : World) : Calls Try.prog 34 #[.agg (C r), .int .i64 771, .int .u64 (U v)] w fun e w' => e = .returned (.agg (C ({ r with mideleg := v &&& 546#64 }))) ∧ More w w' := by
  go_enter Try.func34, Try.ntmps34
  go_wp2_with (first | refine alloc26 rfl rfl ?_ | (refine load26 rfl _ rfl _ rfl _ _ (heap_alloc2_old _ _ _) ?_) | (refine store26 rfl _ _ rfl _ rfl _ rfl _ _ (heap_alloc2_new _ _ _) rfl ?_; rw [setRow_2]))
  (try simp only [Exit.inBlock, Exit.then])
  exact ret26 rfl _ rfl _ _ (heap_alloc2_new _ _ _) rfl ⟨rfl, ((More.refl _).alloc _).alloc _⟩

set_option maxRecDepth 100000 in
set_option maxHeartbeats 2000000 in
theorem Above_772 (r : Regs) (v : BitVec 64)  (w : World) : Calls Try.prog 34 #[.agg (C r), .int .i64 772, .int .u64 (U v)] w fun e w' => e = .returned (.agg (C ({ r with mie := v &&& 2730#64 }))) ∧ More w w' := by
  go_enter Try.func34, Try.ntmps34
  go_wp2_with (first | refine alloc26 rfl rfl ?_ | (refine load26 rfl _ rfl _ rfl _ _ (heap_alloc2_old _ _ _) ?_) | (refine store26 rfl _ _ rfl _ rfl _ rfl _ _ (heap_alloc2_new _ _ _) rfl ?_; rw [setRow_2]))
  (try simp only [Exit.inBlock, Exit.then])
  exact ret26 rfl _ rfl _ _ (heap_alloc2_new _ _ _) rfl ⟨rfl, ((More.refl _).alloc _).alloc _⟩

set_option maxRecDepth 100000 in
set_option maxHeartbeats 2000000 in
theorem Above_773 (r : Regs) (v : BitVec 64)  (w : World) : Calls Try.prog 34 #[.agg (C r), .int .i64 773, .int .u64 (U v)] w fun e w' => e = .returned (.agg (C ({ r with mtvec := v &&& 18446744073709551613#64 }))) ∧ More w w' := by
  go_enter Try.func34, Try.ntmps34
  go_wp2_with (first | refine alloc26 rfl rfl ?_ | (refine load26 rfl _ rfl _ rfl _ _ (heap_alloc2_old _ _ _) ?_) | (refine store26 rfl _ _ rfl _ rfl _ rfl _ _ (heap_alloc2_new _ _ _) rfl ?_; rw [setRow_2]))
  (try simp only [Exit.inBlock, Exit.then])
  exact ret26 rfl _ rfl _ _ (heap_alloc2_new _ _ _) rfl ⟨rfl, ((More.refl _).alloc _).alloc _⟩

set_option maxRecDepth 100000 in
set_option maxHeartbeats 2000000 in
theorem Above_774 (r : Regs) (v : BitVec 64)  (w : World) : Calls Try.prog 34 #[.agg (C r), .int .i64 774, .int .u64 (U v)] w fun e w' => e = .returned (.agg (C ({ r with mcounteren := v &&& 7#64 }))) ∧ More w w' := by
  go_enter Try.func34, Try.ntmps34
  go_wp2_with (first | refine alloc26 rfl rfl ?_ | (refine load26 rfl _ rfl _ rfl _ _ (heap_alloc2_old _ _ _) ?_) | (refine store26 rfl _ _ rfl _ rfl _ rfl _ _ (heap_alloc2_new _ _ _) rfl ?_; rw [setRow_2]))
  (try simp only [Exit.inBlock, Exit.then])
  exact ret26 rfl _ rfl _ _ (heap_alloc2_new _ _ _) rfl ⟨rfl, ((More.refl _).alloc _).alloc _⟩

set_option maxRecDepth 100000 in
set_option maxHeartbeats 2000000 in
theorem Above_800 (r : Regs) (v : BitVec 64)  (w : World) : Calls Try.prog 34 #[.agg (C r), .int .i64 800, .int .u64 (U v)] w fun e w' => e = .returned (.agg (C ({ r with mcountinhibit := v &&& 5#64 }))) ∧ More w w' := by
  go_enter Try.func34, Try.ntmps34
  go_wp2_with (first | refine alloc26 rfl rfl ?_ | (refine load26 rfl _ rfl _ rfl _ _ (heap_alloc2_old _ _ _) ?_) | (refine store26 rfl _ _ rfl _ rfl _ rfl _ _ (heap_alloc2_new _ _ _) rfl ?_; rw [setRow_2]))
  (try simp only [Exit.inBlock, Exit.then])
  exact ret26 rfl _ rfl _ _ (heap_alloc2_new _ _ _) rfl ⟨rfl, ((More.refl _).alloc _).alloc _⟩

set_option maxRecDepth 100000 in
set_option maxHeartbeats 2000000 in
theorem Above_832 (r : Regs) (v : BitVec 64)  (w : World) : Calls Try.prog 34 #[.agg (C r), .int .i64 832, .int .u64 (U v)] w fun e w' => e = .returned (.agg (C ({ r with mscratch := v }))) ∧ More w w' := by
  go_enter Try.func34, Try.ntmps34
  go_wp2_with (first | refine alloc26 rfl rfl ?_ | (refine load26 rfl _ rfl _ rfl _ _ (heap_alloc2_old _ _ _) ?_) | (refine store26 rfl _ _ rfl _ rfl _ rfl _ _ (heap_alloc2_new _ _ _) rfl ?_; rw [setRow_2]))
  (try simp only [Exit.inBlock, Exit.then])
  exact ret26 rfl _ rfl _ _ (heap_alloc2_new _ _ _) rfl ⟨rfl, ((More.refl _).alloc _).alloc _⟩

set_option maxRecDepth 100000 in
set_option maxHeartbeats 2000000 in
theorem Above_833 (r : Regs) (v : BitVec 64)  (w : World) : Calls Try.prog 34 #[.agg (C r), .int .i64 833, .int .u64 (U v)] w fun e w' => e = .returned (.agg (C ({ r with mepc := v &&& 18446744073709551614#64 }))) ∧ More w w' := by
  go_enter Try.func34, Try.ntmps34
  go_wp2_with (first | refine alloc26 rfl rfl ?_ | (refine load26 rfl _ rfl _ rfl _ _ (heap_alloc2_old _ _ _) ?_) | (refine store26 rfl _ _ rfl _ rfl _ rfl _ _ (heap_alloc2_new _ _ _) rfl ?_; rw [setRow_2]))
  (try simp only [Exit.inBlock, Exit.then])
  exact ret26 rfl _ rfl _ _ (heap_alloc2_new _ _ _) rfl ⟨rfl, ((More.refl _).alloc _).alloc _⟩

set_option maxRecDepth 100000 in
set_option maxHeartbeats 2000000 in
theorem Above_834 (r : Regs) (v : BitVec 64)  (w : World) : Calls Try.prog 34 #[.agg (C r), .int .i64 834, .int .u64 (U v)] w fun e w' => e = .returned (.agg (C ({ r with mcause := v }))) ∧ More w w' := by
  go_enter Try.func34, Try.ntmps34
  go_wp2_with (first | refine alloc26 rfl rfl ?_ | (refine load26 rfl _ rfl _ rfl _ _ (heap_alloc2_old _ _ _) ?_) | (refine store26 rfl _ _ rfl _ rfl _ rfl _ _ (heap_alloc2_new _ _ _) rfl ?_; rw [setRow_2]))
  (try simp only [Exit.inBlock, Exit.then])
  exact ret26 rfl _ rfl _ _ (heap_alloc2_new _ _ _) rfl ⟨rfl, ((More.refl _).alloc _).alloc _⟩

set_option maxRecDepth 100000 in
set_option maxHeartbeats 2000000 in
theorem Above_835 (r : Regs) (v : BitVec 64)  (w : World) : Calls Try.prog 34 #[.agg (C r), .int .i64 835, .int .u64 (U v)] w fun e w' => e = .returned (.agg (C ({ r with mtval := v }))) ∧ More w w' := by
  go_enter Try.func34, Try.ntmps34
  go_wp2_with (first | refine alloc26 rfl rfl ?_ | (refine load26 rfl _ rfl _ rfl _ _ (heap_alloc2_old _ _ _) ?_) | (refine store26 rfl _ _ rfl _ rfl _ rfl _ _ (heap_alloc2_new _ _ _) rfl ?_; rw [setRow_2]))
  (try simp only [Exit.inBlock, Exit.then])
  exact ret26 rfl _ rfl _ _ (heap_alloc2_new _ _ _) rfl ⟨rfl, ((More.refl _).alloc _).alloc _⟩

set_option maxRecDepth 100000 in
set_option maxHeartbeats 2000000 in
theorem Above_836 (r : Regs) (v : BitVec 64)  (w : World) : Calls Try.prog 34 #[.agg (C r), .int .i64 836, .int .u64 (U v)] w fun e w' => e = .returned (.agg (C ({ r with mip := layS r.mip v 546#64 }))) ∧ More w w' := by
  go_enter Try.func34, Try.ntmps34
  go_wp2_with (first | (go_at_call 31; refine (RMix_any _ _ (546#64) _).mono ?_; rintro e w' ⟨rfl, rfl⟩) | refine alloc26 rfl rfl ?_ | (refine load26 rfl _ rfl _ rfl _ _ (heap_alloc2_old _ _ _) ?_) | (refine store26 rfl _ _ rfl _ rfl _ rfl _ _ (heap_alloc2_new _ _ _) rfl ?_; rw [setRow_2]))
  (try simp only [Exit.inBlock, Exit.then])
  exact ret26 rfl _ rfl _ _ (heap_alloc2_new _ _ _) rfl ⟨rfl, ((More.refl _).alloc _).alloc _⟩

set_option maxRecDepth 100000 in
set_option maxHeartbeats 2000000 in
theorem Above_928 (r : Regs) (v : BitVec 64)  (w : World) : Calls Try.prog 34 #[.agg (C r), .int .i64 928, .int .u64 (U v)] w fun e w' => e = .returned (.agg (C (withG r (cfgW r v)))) ∧ More w w' := by
  go_enter Try.func34, Try.ntmps34
  go_wp2_with (first | (go_at_call 37; refine (RConfig_any r v _).mono ?_; rintro e w' ⟨rfl, l, rfl⟩) | (refine storeG rfl _ _ rfl _ _ _ _ _ rfl rfl ?_) | refine alloc26 rfl rfl ?_ | (refine load26 rfl _ rfl _ rfl _ _ (heap_m1 _ _ _ _) ?_) | (refine store26 rfl _ _ rfl _ rfl _ rfl _ _ (heap_m2 _ _ _ _) rfl ?_; rw [setRow_m2]))
  (try simp only [Exit.inBlock, Exit.then])
  exact ret26 rfl _ rfl _ _ (heap_m2 _ _ _ _) rfl ⟨rfl, (((More.refl _).alloc _).alloc _).more _⟩

set_option maxRecDepth 100000 in
set_option maxHeartbeats 2000000 in
theorem Above_944 (r : Regs) (v : BitVec 64)  (w : World) : Calls Try.prog 34 #[.agg (C r), .int .i64 944, .int .u64 (U v)] w fun e w' => e = .returned (.agg (C (withA r (adrW0 r v)))) ∧ More w w' := by
  go_enter Try.func34, Try.ntmps34
  go_wp2_with (first | (go_at_call 38; refine (RAdr_0 r v _).mono ?_; rintro e w' ⟨rfl, l, rfl⟩) | (refine storeA rfl _ _ rfl _ _ _ _ _ rfl rfl ?_) | refine alloc26 rfl rfl ?_ | (refine load26 rfl _ rfl _ rfl _ _ (heap_m1 _ _ _ _) ?_) | (refine store26 rfl _ _ rfl _ rfl _ rfl _ _ (heap_m2 _ _ _ _) rfl ?_; rw [setRow_m2]))
  (try simp only [Exit.inBlock, Exit.then])
  exact ret26 rfl _ rfl _ _ (heap_m2 _ _ _ _) rfl ⟨rfl, (((More.refl _).alloc _).alloc _).more _⟩

set_option maxRecDepth 100000 in
set_option maxHeartbeats 2000000 in
theorem Above_945 (r : Regs) (v : BitVec 64)  (w : World) : Calls Try.prog 34 #[.agg (C r), .int .i64 945, .int .u64 (U v)] w fun e w' => e = .returned (.agg (C (withA r (adrW1 r v)))) ∧ More w w' := by
  go_enter Try.func34, Try.ntmps34
  go_wp2_with (first | (go_at_call 38; refine (RAdr_1 r v _).mono ?_; rintro e w' ⟨rfl, l, rfl⟩) | (refine storeA rfl _ _ rfl _ _ _ _ _ rfl rfl ?_) | refine alloc26 rfl rfl ?_ | (refine load26 rfl _ rfl _ rfl _ _ (heap_m1 _ _ _ _) ?_) | (refine store26 rfl _ _ rfl _ rfl _ rfl _ _ (heap_m2 _ _ _ _) rfl ?_; rw [setRow_m2]))
  (try simp only [Exit.inBlock, Exit.then])
  exact ret26 rfl _ rfl _ _ (heap_m2 _ _ _ _) rfl ⟨rfl, (((More.refl _).alloc _).alloc _).more _⟩

set_option maxRecDepth 100000 in
set_option maxHeartbeats 2000000 in
theorem Above_946 (r : Regs) (v : BitVec 64)  (w : World) : Calls Try.prog 34 #[.agg (C r), .int .i64 946, .int .u64 (U v)] w fun e w' => e = .returned (.agg (C (withA r (adrW2 r v)))) ∧ More w w' := by
  go_enter Try.func34, Try.ntmps34
  go_wp2_with (first | (go_at_call 38; refine (RAdr_2 r v _).mono ?_; rintro e w' ⟨rfl, l, rfl⟩) | (refine storeA rfl _ _ rfl _ _ _ _ _ rfl rfl ?_) | refine alloc26 rfl rfl ?_ | (refine load26 rfl _ rfl _ rfl _ _ (heap_m1 _ _ _ _) ?_) | (refine store26 rfl _ _ rfl _ rfl _ rfl _ _ (heap_m2 _ _ _ _) rfl ?_; rw [setRow_m2]))
  (try simp only [Exit.inBlock, Exit.then])
  exact ret26 rfl _ rfl _ _ (heap_m2 _ _ _ _) rfl ⟨rfl, (((More.refl _).alloc _).alloc _).more _⟩

set_option maxRecDepth 100000 in
set_option maxHeartbeats 2000000 in
theorem Above_947 (r : Regs) (v : BitVec 64)  (w : World) : Calls Try.prog 34 #[.agg (C r), .int .i64 947, .int .u64 (U v)] w fun e w' => e = .returned (.agg (C (withA r (adrW3 r v)))) ∧ More w w' := by
  go_enter Try.func34, Try.ntmps34
  go_wp2_with (first | (go_at_call 38; refine (RAdr_3 r v _).mono ?_; rintro e w' ⟨rfl, l, rfl⟩) | (refine storeA rfl _ _ rfl _ _ _ _ _ rfl rfl ?_) | refine alloc26 rfl rfl ?_ | (refine load26 rfl _ rfl _ rfl _ _ (heap_m1 _ _ _ _) ?_) | (refine store26 rfl _ _ rfl _ rfl _ rfl _ _ (heap_m2 _ _ _ _) rfl ?_; rw [setRow_m2]))
  (try simp only [Exit.inBlock, Exit.then])
  exact ret26 rfl _ rfl _ _ (heap_m2 _ _ _ _) rfl ⟨rfl, (((More.refl _).alloc _).alloc _).more _⟩

set_option maxRecDepth 100000 in
set_option maxHeartbeats 2000000 in
theorem Above_948 (r : Regs) (v : BitVec 64)  (w : World) : Calls Try.prog 34 #[.agg (C r), .int .i64 948, .int .u64 (U v)] w fun e w' => e = .returned (.agg (C (withA r (adrW4 r v)))) ∧ More w w' := by
  go_enter Try.func34, Try.ntmps34
  go_wp2_with (first | (go_at_call 38; refine (RAdr_4 r v _).mono ?_; rintro e w' ⟨rfl, l, rfl⟩) | (refine storeA rfl _ _ rfl _ _ _ _ _ rfl rfl ?_) | refine alloc26 rfl rfl ?_ | (refine load26 rfl _ rfl _ rfl _ _ (heap_m1 _ _ _ _) ?_) | (refine store26 rfl _ _ rfl _ rfl _ rfl _ _ (heap_m2 _ _ _ _) rfl ?_; rw [setRow_m2]))
  (try simp only [Exit.inBlock, Exit.then])
  exact ret26 rfl _ rfl _ _ (heap_m2 _ _ _ _) rfl ⟨rfl, (((More.refl _).alloc _).alloc _).more _⟩

set_option maxRecDepth 100000 in
set_option maxHeartbeats 2000000 in
theorem Above_949 (r : Regs) (v : BitVec 64)  (w : World) : Calls Try.prog 34 #[.agg (C r), .int .i64 949, .int .u64 (U v)] w fun e w' => e = .returned (.agg (C (withA r (adrW5 r v)))) ∧ More w w' := by
  go_enter Try.func34, Try.ntmps34
  go_wp2_with (first | (go_at_call 38; refine (RAdr_5 r v _).mono ?_; rintro e w' ⟨rfl, l, rfl⟩) | (refine storeA rfl _ _ rfl _ _ _ _ _ rfl rfl ?_) | refine alloc26 rfl rfl ?_ | (refine load26 rfl _ rfl _ rfl _ _ (heap_m1 _ _ _ _) ?_) | (refine store26 rfl _ _ rfl _ rfl _ rfl _ _ (heap_m2 _ _ _ _) rfl ?_; rw [setRow_m2]))
  (try simp only [Exit.inBlock, Exit.then])
  exact ret26 rfl _ rfl _ _ (heap_m2 _ _ _ _) rfl ⟨rfl, (((More.refl _).alloc _).alloc _).more _⟩

set_option maxRecDepth 100000 in
set_option maxHeartbeats 2000000 in
theorem Above_950 (r : Regs) (v : BitVec 64)  (w : World) : Calls Try.prog 34 #[.agg (C r), .int .i64 950, .int .u64 (U v)] w fun e w' => e = .returned (.agg (C (withA r (adrW6 r v)))) ∧ More w w' := by
  go_enter Try.func34, Try.ntmps34
  go_wp2_with (first | (go_at_call 38; refine (RAdr_6 r v _).mono ?_; rintro e w' ⟨rfl, l, rfl⟩) | (refine storeA rfl _ _ rfl _ _ _ _ _ rfl rfl ?_) | refine alloc26 rfl rfl ?_ | (refine load26 rfl _ rfl _ rfl _ _ (heap_m1 _ _ _ _) ?_) | (refine store26 rfl _ _ rfl _ rfl _ rfl _ _ (heap_m2 _ _ _ _) rfl ?_; rw [setRow_m2]))
  (try simp only [Exit.inBlock, Exit.then])
  exact ret26 rfl _ rfl _ _ (heap_m2 _ _ _ _) rfl ⟨rfl, (((More.refl _).alloc _).alloc _).more _⟩

set_option maxRecDepth 100000 in
set_option maxHeartbeats 2000000 in
theorem Above_951 (r : Regs) (v : BitVec 64)  (w : World) : Calls Try.prog 34 #[.agg (C r), .int .i64 951, .int .u64 (U v)] w fun e w' => e = .returned (.agg (C (withA r (adrW7 r v)))) ∧ More w w' := by
  go_enter Try.func34, Try.ntmps34
  go_wp2_with (first | (go_at_call 38; refine (RAdr_7 r v _).mono ?_; rintro e w' ⟨rfl, l, rfl⟩) | (refine storeA rfl _ _ rfl _ _ _ _ _ rfl rfl ?_) | refine alloc26 rfl rfl ?_ | (refine load26 rfl _ rfl _ rfl _ _ (heap_m1 _ _ _ _) ?_) | (refine store26 rfl _ _ rfl _ rfl _ rfl _ _ (heap_m2 _ _ _ _) rfl ?_; rw [setRow_m2]))
  (try simp only [Exit.inBlock, Exit.then])
  exact ret26 rfl _ rfl _ _ (heap_m2 _ _ _ _) rfl ⟨rfl, (((More.refl _).alloc _).alloc _).more _⟩

set_option maxRecDepth 100000 in
set_option maxHeartbeats 2000000 in
theorem Above_2816 (r : Regs) (v : BitVec 64)  (w : World) : Calls Try.prog 34 #[.agg (C r), .int .i64 2816, .int .u64 (U v)] w fun e w' => e = .returned (.agg (C ({ r with mcycle := v }))) ∧ More w w' := by
  go_enter Try.func34, Try.ntmps34
  go_wp2_with (first | refine alloc26 rfl rfl ?_ | (refine load26 rfl _ rfl _ rfl _ _ (heap_alloc2_old _ _ _) ?_) | (refine store26 rfl _ _ rfl _ rfl _ rfl _ _ (heap_alloc2_new _ _ _) rfl ?_; rw [setRow_2]))
  (try simp only [Exit.inBlock, Exit.then])
  exact ret26 rfl _ rfl _ _ (heap_alloc2_new _ _ _) rfl ⟨rfl, ((More.refl _).alloc _).alloc _⟩

set_option maxRecDepth 100000 in
set_option maxHeartbeats 2000000 in
theorem Above_2818 (r : Regs) (v : BitVec 64)  (w : World) : Calls Try.prog 34 #[.agg (C r), .int .i64 2818, .int .u64 (U v)] w fun e w' => e = .returned (.agg (C ({ r with minstret := v }))) ∧ More w w' := by
  go_enter Try.func34, Try.ntmps34
  go_wp2_with (first | refine alloc26 rfl rfl ?_ | (refine load26 rfl _ rfl _ rfl _ _ (heap_alloc2_old _ _ _) ?_) | (refine store26 rfl _ _ rfl _ rfl _ rfl _ _ (heap_alloc2_new _ _ _) rfl ?_; rw [setRow_2]))
  (try simp only [Exit.inBlock, Exit.then])
  exact ret26 rfl _ rfl _ _ (heap_alloc2_new _ _ _) rfl ⟨rfl, ((More.refl _).alloc _).alloc _⟩

set_option maxRecDepth 100000 in
set_option maxHeartbeats 4000000 in
theorem Above_none (r : Regs) (n : Int) (v : BitVec 64) (n768 : (n == 768) = false) (n770 : (n == 770) = false) (n771 : (n == 771) = false) (n772 : (n == 772) = false) (n773 : (n == 773) = false) (n774 : (n == 774) = false) (n800 : (n == 800) = false) (n832 : (n == 832) = false) (n833 : (n == 833) = false) (n834 : (n == 834) = false) (n835 : (n == 835) = false) (n836 : (n == 836) = false) (n928 : (n == 928) = false) (n2816 : (n == 2816) = false) (n2818 : (n == 2818) = false) (h : ¬ (944 ≤ n ∧ n ≤ 951)) (w : World) : Calls Try.prog 34 #[.agg (C r), .int .i64 n, .int .u64 (U v)] w fun e w' => e = .returned (.agg (C r)) ∧ More w w' := by
  by_cases h1 : 944 ≤ n
  · have h2 : ¬ n ≤ 951 := fun z => h ⟨h1, z⟩
    clear h
    go_enter Try.func34, Try.ntmps34
    go_wp2_with (first | refine alloc26 rfl rfl ?_ | (refine load26 rfl _ rfl _ rfl _ _ (heap_alloc2_old _ _ _) ?_) | (refine store26 rfl _ _ rfl _ rfl _ rfl _ _ (heap_alloc2_new _ _ _) rfl ?_; rw [setRow_2]))
    (try simp only [Exit.inBlock, Exit.then])
    exact ret26 rfl _ rfl _ _ (heap_alloc2_new _ _ _) rfl ⟨rfl, ((More.refl _).alloc _).alloc _⟩
  · clear h
    go_enter Try.func34, Try.ntmps34
    go_wp2_with (first | refine alloc26 rfl rfl ?_ | (refine load26 rfl _ rfl _ rfl _ _ (heap_alloc2_old _ _ _) ?_) | (refine store26 rfl _ _ rfl _ rfl _ rfl _ _ (heap_alloc2_new _ _ _) rfl ?_; rw [setRow_2]))
    (try simp only [Exit.inBlock, Exit.then])
    exact ret26 rfl _ rfl _ _ (heap_alloc2_new _ _ _) rfl ⟨rfl, ((More.refl _).alloc _).alloc _⟩

theorem Above_any (r : Regs) (n : Int) (v : BitVec 64) (hn : n ≠ 1 ∧ n ≠ 2 ∧ n ≠ 3 ∧ n ≠ 256 ∧ n ≠ 260 ∧ n ≠ 261 ∧ n ≠ 262 ∧ n ≠ 320 ∧ n ≠ 321 ∧ n ≠ 322 ∧ n ≠ 323 ∧ n ≠ 324 ∧ n ≠ 384) (w : World) : Calls Try.prog 34 #[.agg (C r), .int .i64 n, .int .u64 (U v)] w fun e w' => e = .returned (.agg (C (writeS r n v))) ∧ More w w' := by
  obtain ⟨n1, n2, n3, n256, n260, n261, n262, n320, n321, n322, n323, n324, n384⟩ := hn
  by_cases n768 : n = 768
  · subst n768; rw [writeS_768]
    have e : (U (v >>> 11 &&& 3#64) == 2) = (v >>> 11 &&& 3#64 == 2#64) := U_beq _ 2#64
    by_cases h : v >>> 11 &&& 3#64 = 2#64
    · rw [if_pos h]; exact Above_768y r v (by rw [e, h]; rfl) w
    · rw [if_neg h]; exact Above_768n r v (by rw [e]; simpa using h) w
  by_cases n770 : n = 770
  · subst n770; rw [writeS_770]; exact Above_770 r v w
  by_cases n771 : n = 771
  · subst n771; rw [writeS_771]; exact Above_771 r v w
  by_cases n772 : n = 772
  · subst n772; rw [writeS_772]; exact Above_772 r v w
  by_cases n773 : n = 773
  · subst n773; rw [writeS_773]; exact Above_773 r v w
  by_cases n774 : n = 774
  · subst n774; rw [writeS_774]; exact Above_774 r v w
  by_cases n800 : n = 800
  · subst n800; rw [writeS_800]; exact Above_800 r v w
  by_cases n832 : n = 832
  · subst n832; rw [writeS_832]; exact Above_832 r v w
  by_cases n833 : n = 833
  · subst n833; rw [writeS_833]; exact Above_833 r v w
  by_cases n834 : n = 834
  · subst n834; rw [writeS_834]; exact Above_834 r v w
  by_cases n835 : n = 835
  · subst n835; rw [writeS_835]; exact Above_835 r v w
  by_cases n836 : n = 836
  · subst n836; rw [writeS_836]; exact Above_836 r v w
  by_cases n928 : n = 928
  · subst n928; rw [writeS_928, ← withG_w]; exact Above_928 r v w
  by_cases n944 : n = 944
  · subst n944; rw [writeS_944, ← withA_0]; exact Above_944 r v w
  by_cases n945 : n = 945
  · subst n945; rw [writeS_945, ← withA_1]; exact Above_945 r v w
  by_cases n946 : n = 946
  · subst n946; rw [writeS_946, ← withA_2]; exact Above_946 r v w
  by_cases n947 : n = 947
  · subst n947; rw [writeS_947, ← withA_3]; exact Above_947 r v w
  by_cases n948 : n = 948
  · subst n948; rw [writeS_948, ← withA_4]; exact Above_948 r v w
  by_cases n949 : n = 949
  · subst n949; rw [writeS_949, ← withA_5]; exact Above_949 r v w
  by_cases n950 : n = 950
  · subst n950; rw [writeS_950, ← withA_6]; exact Above_950 r v w
  by_cases n951 : n = 951
  · subst n951; rw [writeS_951, ← withA_7]; exact Above_951 r v w
  by_cases n2816 : n = 2816
  · subst n2816; rw [writeS_2816]; exact Above_2816 r v w
  by_cases n2818 : n = 2818
  · subst n2818; rw [writeS_2818]; exact Above_2818 r v w
  rw [writeS_none r n v n1 n2 n3 n256 n260 n261 n262 n320 n321 n322 n323 n324 n384 n768 n770 n771 n772 n773 n774 n800 n832 n833 n834 n835 n836 n928 n944 n945 n946 n947 n948 n949 n950 n951 n2816 n2818]
  exact Above_none r n v (beq_eq_false_iff_ne.2 n768) (beq_eq_false_iff_ne.2 n770) (beq_eq_false_iff_ne.2 n771) (beq_eq_false_iff_ne.2 n772) (beq_eq_false_iff_ne.2 n773) (beq_eq_false_iff_ne.2 n774) (beq_eq_false_iff_ne.2 n800) (beq_eq_false_iff_ne.2 n832) (beq_eq_false_iff_ne.2 n833) (beq_eq_false_iff_ne.2 n834) (beq_eq_false_iff_ne.2 n835) (beq_eq_false_iff_ne.2 n836) (beq_eq_false_iff_ne.2 n928) (beq_eq_false_iff_ne.2 n2816) (beq_eq_false_iff_ne.2 n2818) (by omega) w

set_option maxRecDepth 100000 in
set_option maxHeartbeats 2000000 in
theorem RWrite_1 (r : Regs) (v : BitVec 64)  (w : World) : Calls Try.prog 19 #[.agg (C r), .int .i64 1, .int .u64 (U v)] w fun e w' => e = .returned (.agg (C ({ r with fcsr := layS r.fcsr v 31#64, mstatus := settledS (r.mstatus ||| 24576#64) }))) ∧ More w w' := by
  go_enter Try.func19, Try.ntmps19
  go_wp2_with (first | (go_at_call 31; refine (RMix_any _ _ (31#64) _).mono ?_; rintro e w' ⟨rfl, rfl⟩) | (go_at_call 32; refine (RSetFs_any _ _).mono ?_; rintro e w' ⟨rfl, l, rfl⟩) | refine alloc26 rfl rfl ?_ | (refine load26 rfl _ rfl _ rfl _ _ (heap_alloc2_old _ _ _) ?_) | (refine load26 rfl _ rfl _ rfl _ _ (heap_m1 _ _ _ _) ?_) | (refine store26 rfl _ _ rfl _ rfl _ rfl _ _ (heap_m2 _ _ _ _) rfl ?_; rw [setRow_m2]))
  (try simp only [Exit.inBlock, Exit.then])
  exact ret26 rfl _ rfl _ _ (heap_m2 _ _ _ _) rfl ⟨rfl, (((More.refl _).alloc _).alloc _).more _⟩

set_option maxRecDepth 100000 in
set_option maxHeartbeats 2000000 in
theorem RWrite_2 (r : Regs) (v : BitVec 64)  (w : World) : Calls Try.prog 19 #[.agg (C r), .int .i64 2, .int .u64 (U v)] w fun e w' => e = .returned (.agg (C ({ r with fcsr := layS r.fcsr (v <<< 5) 224#64, mstatus := settledS (r.mstatus ||| 24576#64) }))) ∧ More w w' := by
  go_enter Try.func19, Try.ntmps19
  go_wp2_with (first | (go_at_call 31; refine (RMix_any _ _ (224#64) _).mono ?_; rintro e w' ⟨rfl, rfl⟩) | (go_at_call 32; refine (RSetFs_any _ _).mono ?_; rintro e w' ⟨rfl, l, rfl⟩) | refine alloc26 rfl rfl ?_ | (refine load26 rfl _ rfl _ rfl _ _ (heap_alloc2_old _ _ _) ?_) | (refine load26 rfl _ rfl _ rfl _ _ (heap_m1 _ _ _ _) ?_) | (refine store26 rfl _ _ rfl _ rfl _ rfl _ _ (heap_m2 _ _ _ _) rfl ?_; rw [setRow_m2]))
  (try simp only [Exit.inBlock, Exit.then])
  exact ret26 rfl _ rfl _ _ (heap_m2 _ _ _ _) rfl ⟨rfl, (((More.refl _).alloc _).alloc _).more _⟩

set_option maxRecDepth 100000 in
set_option maxHeartbeats 2000000 in
theorem RWrite_3 (r : Regs) (v : BitVec 64)  (w : World) : Calls Try.prog 19 #[.agg (C r), .int .i64 3, .int .u64 (U v)] w fun e w' => e = .returned (.agg (C ({ r with fcsr := v &&& 255#64, mstatus := settledS (r.mstatus ||| 24576#64) }))) ∧ More w w' := by
  go_enter Try.func19, Try.ntmps19
  go_wp2_with (first | (go_at_call 32; refine (RSetFs_any _ _).mono ?_; rintro e w' ⟨rfl, l, rfl⟩) | refine alloc26 rfl rfl ?_ | (refine load26 rfl _ rfl _ rfl _ _ (heap_alloc2_old _ _ _) ?_) | (refine load26 rfl _ rfl _ rfl _ _ (heap_m1 _ _ _ _) ?_) | (refine store26 rfl _ _ rfl _ rfl _ rfl _ _ (heap_m2 _ _ _ _) rfl ?_; rw [setRow_m2]))
  (try simp only [Exit.inBlock, Exit.then])
  exact ret26 rfl _ rfl _ _ (heap_m2 _ _ _ _) rfl ⟨rfl, (((More.refl _).alloc _).alloc _).more _⟩

set_option maxRecDepth 100000 in
set_option maxHeartbeats 2000000 in
theorem RWrite_256 (r : Regs) (v : BitVec 64)  (w : World) : Calls Try.prog 19 #[.agg (C r), .int .i64 256, .int .u64 (U v)] w fun e w' => e = .returned (.agg (C ({ r with mstatus := settledS (layS r.mstatus v 811298#64) }))) ∧ More w w' := by
  go_enter Try.func19, Try.ntmps19
  go_wp2_with (first | (go_at_call 31; refine (RMix_any _ _ (811298#64) _).mono ?_; rintro e w' ⟨rfl, rfl⟩) | (go_at_call 33; refine (RSettle_any _ _).mono ?_; rintro e w' ⟨rfl, rfl⟩) | refine alloc26 rfl rfl ?_ | (refine load26 rfl _ rfl _ rfl _ _ (heap_alloc2_old _ _ _) ?_) | (refine store26 rfl _ _ rfl _ rfl _ rfl _ _ (heap_alloc2_new _ _ _) rfl ?_; rw [setRow_2]))
  (try simp only [Exit.inBlock, Exit.then])
  exact ret26 rfl _ rfl _ _ (heap_alloc2_new _ _ _) rfl ⟨rfl, ((More.refl _).alloc _).alloc _⟩

set_option maxRecDepth 100000 in
set_option maxHeartbeats 2000000 in
theorem RWrite_260 (r : Regs) (v : BitVec 64)  (w : World) : Calls Try.prog 19 #[.agg (C r), .int .i64 260, .int .u64 (U v)] w fun e w' => e = .returned (.agg (C ({ r with mie := layS r.mie v r.mideleg }))) ∧ More w w' := by
  go_enter Try.func19, Try.ntmps19
  go_wp2_with (first | (go_at_call 31; refine (RMix_any _ _ (r.mideleg) _).mono ?_; rintro e w' ⟨rfl, rfl⟩) | refine alloc26 rfl rfl ?_ | (refine load26 rfl _ rfl _ rfl _ _ (heap_alloc2_old _ _ _) ?_) | (refine store26 rfl _ _ rfl _ rfl _ rfl _ _ (heap_alloc2_new _ _ _) rfl ?_; rw [setRow_2]))
  (try simp only [Exit.inBlock, Exit.then])
  exact ret26 rfl _ rfl _ _ (heap_alloc2_new _ _ _) rfl ⟨rfl, ((More.refl _).alloc _).alloc _⟩

set_option maxRecDepth 100000 in
set_option maxHeartbeats 2000000 in
theorem RWrite_261 (r : Regs) (v : BitVec 64)  (w : World) : Calls Try.prog 19 #[.agg (C r), .int .i64 261, .int .u64 (U v)] w fun e w' => e = .returned (.agg (C ({ r with stvec := v &&& 18446744073709551613#64 }))) ∧ More w w' := by
  go_enter Try.func19, Try.ntmps19
  go_wp2_with (first | refine alloc26 rfl rfl ?_ | (refine load26 rfl _ rfl _ rfl _ _ (heap_alloc2_old _ _ _) ?_) | (refine store26 rfl _ _ rfl _ rfl _ rfl _ _ (heap_alloc2_new _ _ _) rfl ?_; rw [setRow_2]))
  (try simp only [Exit.inBlock, Exit.then])
  exact ret26 rfl _ rfl _ _ (heap_alloc2_new _ _ _) rfl ⟨rfl, ((More.refl _).alloc _).alloc _⟩

set_option maxRecDepth 100000 in
set_option maxHeartbeats 2000000 in
theorem RWrite_262 (r : Regs) (v : BitVec 64)  (w : World) : Calls Try.prog 19 #[.agg (C r), .int .i64 262, .int .u64 (U v)] w fun e w' => e = .returned (.agg (C ({ r with scounteren := v &&& 7#64 }))) ∧ More w w' := by
  go_enter Try.func19, Try.ntmps19
  go_wp2_with (first | refine alloc26 rfl rfl ?_ | (refine load26 rfl _ rfl _ rfl _ _ (heap_alloc2_old _ _ _) ?_) | (refine store26 rfl _ _ rfl _ rfl _ rfl _ _ (heap_alloc2_new _ _ _) rfl ?_; rw [setRow_2]))
  (try simp only [Exit.inBlock, Exit.then])
  exact ret26 rfl _ rfl _ _ (heap_alloc2_new _ _ _) rfl ⟨rfl, ((More.refl _).alloc _).alloc _⟩

set_option maxRecDepth 100000 in
set_option maxHeartbeats 2000000 in
theorem RWrite_320 (r : Regs) (v : BitVec 64)  (w : World) : Calls Try.prog 19 #[.agg (C r), .int .i64 320, .int .u64 (U v)] w fun e w' => e = .returned (.agg (C ({ r with sscratch := v }))) ∧ More w w' := by
  go_enter Try.func19, Try.ntmps19
  go_wp2_with (first | refine alloc26 rfl rfl ?_ | (refine load26 rfl _ rfl _ rfl _ _ (heap_alloc2_old _ _ _) ?_) | (refine store26 rfl _ _ rfl _ rfl _ rfl _ _ (heap_alloc2_new _ _ _) rfl ?_; rw [setRow_2]))
  (try simp only [Exit.inBlock, Exit.then])
  exact ret26 rfl _ rfl _ _ (heap_alloc2_new _ _ _) rfl ⟨rfl, ((More.refl _).alloc _).alloc _⟩

set_option maxRecDepth 100000 in
set_option maxHeartbeats 2000000 in
theorem RWrite_321 (r : Regs) (v : BitVec 64)  (w : World) : Calls Try.prog 19 #[.agg (C r), .int .i64 321, .int .u64 (U v)] w fun e w' => e = .returned (.agg (C ({ r with sepc := v &&& 18446744073709551614#64 }))) ∧ More w w' := by
  go_enter Try.func19, Try.ntmps19
  go_wp2_with (first | refine alloc26 rfl rfl ?_ | (refine load26 rfl _ rfl _ rfl _ _ (heap_alloc2_old _ _ _) ?_) | (refine store26 rfl _ _ rfl _ rfl _ rfl _ _ (heap_alloc2_new _ _ _) rfl ?_; rw [setRow_2]))
  (try simp only [Exit.inBlock, Exit.then])
  exact ret26 rfl _ rfl _ _ (heap_alloc2_new _ _ _) rfl ⟨rfl, ((More.refl _).alloc _).alloc _⟩

set_option maxRecDepth 100000 in
set_option maxHeartbeats 2000000 in
theorem RWrite_322 (r : Regs) (v : BitVec 64)  (w : World) : Calls Try.prog 19 #[.agg (C r), .int .i64 322, .int .u64 (U v)] w fun e w' => e = .returned (.agg (C ({ r with scause := v }))) ∧ More w w' := by
  go_enter Try.func19, Try.ntmps19
  go_wp2_with (first | refine alloc26 rfl rfl ?_ | (refine load26 rfl _ rfl _ rfl _ _ (heap_alloc2_old _ _ _) ?_) | (refine store26 rfl _ _ rfl _ rfl _ rfl _ _ (heap_alloc2_new _ _ _) rfl ?_; rw [setRow_2]))
  (try simp only [Exit.inBlock, Exit.then])
  exact ret26 rfl _ rfl _ _ (heap_alloc2_new _ _ _) rfl ⟨rfl, ((More.refl _).alloc _).alloc _⟩

set_option maxRecDepth 100000 in
set_option maxHeartbeats 2000000 in
theorem RWrite_323 (r : Regs) (v : BitVec 64)  (w : World) : Calls Try.prog 19 #[.agg (C r), .int .i64 323, .int .u64 (U v)] w fun e w' => e = .returned (.agg (C ({ r with stval := v }))) ∧ More w w' := by
  go_enter Try.func19, Try.ntmps19
  go_wp2_with (first | refine alloc26 rfl rfl ?_ | (refine load26 rfl _ rfl _ rfl _ _ (heap_alloc2_old _ _ _) ?_) | (refine store26 rfl _ _ rfl _ rfl _ rfl _ _ (heap_alloc2_new _ _ _) rfl ?_; rw [setRow_2]))
  (try simp only [Exit.inBlock, Exit.then])
  exact ret26 rfl _ rfl _ _ (heap_alloc2_new _ _ _) rfl ⟨rfl, ((More.refl _).alloc _).alloc _⟩

set_option maxRecDepth 100000 in
set_option maxHeartbeats 2000000 in
theorem RWrite_324 (r : Regs) (v : BitVec 64)  (w : World) : Calls Try.prog 19 #[.agg (C r), .int .i64 324, .int .u64 (U v)] w fun e w' => e = .returned (.agg (C ({ r with mip := layS r.mip v (2#64 &&& r.mideleg) }))) ∧ More w w' := by
  go_enter Try.func19, Try.ntmps19
  go_wp2_with (first | (go_at_call 31; refine (RMix_any _ _ (2#64 &&& r.mideleg) _).mono ?_; rintro e w' ⟨rfl, rfl⟩) | refine alloc26 rfl rfl ?_ | (refine load26 rfl _ rfl _ rfl _ _ (heap_alloc2_old _ _ _) ?_) | (refine store26 rfl _ _ rfl _ rfl _ rfl _ _ (heap_alloc2_new _ _ _) rfl ?_; rw [setRow_2]))
  (try simp only [Exit.inBlock, Exit.then])
  exact ret26 rfl _ rfl _ _ (heap_alloc2_new _ _ _) rfl ⟨rfl, ((More.refl _).alloc _).alloc _⟩

set_option maxRecDepth 100000 in
set_option maxHeartbeats 2000000 in
theorem RWrite_384a (r : Regs) (v : BitVec 64) (h0 : (U (v >>> 60) == 0) = true) (w : World) : Calls Try.prog 19 #[.agg (C r), .int .i64 384, .int .u64 (U v)] w fun e w' => e = .returned (.agg (C ({ r with satp := v }))) ∧ More w w' := by
  go_enter Try.func19, Try.ntmps19
  go_wp2_with (first | refine alloc26 rfl rfl ?_ | (refine load26 rfl _ rfl _ rfl _ _ (heap_alloc2_old _ _ _) ?_) | (refine store26 rfl _ _ rfl _ rfl _ rfl _ _ (heap_alloc2_new _ _ _) rfl ?_; rw [setRow_2]))
  (try simp only [Exit.inBlock, Exit.then])
  exact ret26 rfl _ rfl _ _ (heap_alloc2_new _ _ _) rfl ⟨rfl, ((More.refl _).alloc _).alloc _⟩

set_option maxRecDepth 100000 in
set_option maxHeartbeats 2000000 in
theorem RWrite_384b (r : Regs) (v : BitVec 64) (h0 : (U (v >>> 60) == 0) = false) (h8 : (U (v >>> 60) == 8) = true) (w : World) : Calls Try.prog 19 #[.agg (C r), .int .i64 384, .int .u64 (U v)] w fun e w' => e = .returned (.agg (C ({ r with satp := v }))) ∧ More w w' := by
  go_enter Try.func19, Try.ntmps19
  go_wp2_with (first | refine alloc26 rfl rfl ?_ | (refine load26 rfl _ rfl _ rfl _ _ (heap_alloc2_old _ _ _) ?_) | (refine store26 rfl _ _ rfl _ rfl _ rfl _ _ (heap_alloc2_new _ _ _) rfl ?_; rw [setRow_2]))
  (try simp only [Exit.inBlock, Exit.then])
  exact ret26 rfl _ rfl _ _ (heap_alloc2_new _ _ _) rfl ⟨rfl, ((More.refl _).alloc _).alloc _⟩

set_option maxRecDepth 100000 in
set_option maxHeartbeats 2000000 in
theorem RWrite_384c (r : Regs) (v : BitVec 64) (h0 : (U (v >>> 60) == 0) = false) (h8 : (U (v >>> 60) == 8) = false) (w : World) : Calls Try.prog 19 #[.agg (C r), .int .i64 384, .int .u64 (U v)] w fun e w' => e = .returned (.agg (C (r))) ∧ More w w' := by
  go_enter Try.func19, Try.ntmps19
  go_wp2_with (first | refine alloc26 rfl rfl ?_ | (refine load26 rfl _ rfl _ rfl _ _ (heap_alloc2_old _ _ _) ?_) | (refine store26 rfl _ _ rfl _ rfl _ rfl _ _ (heap_alloc2_new _ _ _) rfl ?_; rw [setRow_2]))
  (try simp only [Exit.inBlock, Exit.then])
  exact ret26 rfl _ rfl _ _ (heap_alloc2_new _ _ _) rfl ⟨rfl, ((More.refl _).alloc _).alloc _⟩

set_option maxRecDepth 100000 in
set_option maxHeartbeats 4000000 in
theorem RWrite_hi (r d : Regs) (n : Int) (v : BitVec 64) (n1 : (n == 1) = false) (n2 : (n == 2) = false) (n3 : (n == 3) = false) (n256 : (n == 256) = false) (n260 : (n == 260) = false) (n261 : (n == 261) = false) (n262 : (n == 262) = false) (n320 : (n == 320) = false) (n321 : (n == 321) = false) (n322 : (n == 322) = false) (n323 : (n == 323) = false) (n324 : (n == 324) = false) (n384 : (n == 384) = false) (c : Hid (∀ w, Calls Try.prog 34 #[.agg (C r), .int .i64 n, .int .u64 (U v)] w fun e w' => e = .returned (.agg (C d)) ∧ More w w')) (w : World) : Calls Try.prog 19 #[.agg (C r), .int .i64 n, .int .u64 (U v)] w fun e w' => e = .returned (.agg (C d)) ∧ More w w' := by
  go_enter Try.func19, Try.ntmps19
  go_wp2_with (first | (go_at_call 34; refine (c.out _).mono ?_; rintro e w' ⟨rfl, l, rfl⟩) | refine alloc26 rfl rfl ?_ | (refine load26 rfl _ rfl _ rfl _ _ (heap_alloc2_old _ _ _) ?_) | (refine load26 rfl _ rfl _ rfl _ _ (heap_m1 _ _ _ _) ?_) | (refine store26 rfl _ _ rfl _ rfl _ rfl _ _ (heap_m2 _ _ _ _) rfl ?_; rw [setRow_m2]))
  (try simp only [Exit.inBlock, Exit.then])
  exact ret26 rfl _ rfl _ _ (heap_m2 _ _ _ _) rfl ⟨rfl, (((More.refl _).alloc _).alloc _).more _⟩

theorem RWrite_any (r : Regs) (n : Int) (v : BitVec 64) (w : World) : Calls Try.prog 19 #[.agg (C r), .int .i64 n, .int .u64 (U v)] w fun e w' => e = .returned (.agg (C (writeS r n v))) ∧ More w w' := by
  by_cases n1 : n = 1
  · subst n1; rw [writeS_1]; exact RWrite_1 r v w
  by_cases n2 : n = 2
  · subst n2; rw [writeS_2]; exact RWrite_2 r v w
  by_cases n3 : n = 3
  · subst n3; rw [writeS_3]; exact RWrite_3 r v w
  by_cases n256 : n = 256
  · subst n256; rw [writeS_256]; exact RWrite_256 r v w
  by_cases n260 : n = 260
  · subst n260; rw [writeS_260]; exact RWrite_260 r v w
  by_cases n261 : n = 261
  · subst n261; rw [writeS_261]; exact RWrite_261 r v w
  by_cases n262 : n = 262
  · subst n262; rw [writeS_262]; exact RWrite_262 r v w
  by_cases n320 : n = 320
  · subst n320; rw [writeS_320]; exact RWrite_320 r v w
  by_cases n321 : n = 321
  · subst n321; rw [writeS_321]; exact RWrite_321 r v w
  by_cases n322 : n = 322
  · subst n322; rw [writeS_322]; exact RWrite_322 r v w
  by_cases n323 : n = 323
  · subst n323; rw [writeS_323]; exact RWrite_323 r v w
  by_cases n324 : n = 324
  · subst n324; rw [writeS_324, BitVec.and_comm r.mideleg 2#64]; exact RWrite_324 r v w
  by_cases n384 : n = 384
  · subst n384; rw [writeS_384]
    have e0 : (U (v >>> 60) == 0) = (v >>> 60 == 0#64) := U_beq _ 0#64
    have e8 : (U (v >>> 60) == 8) = (v >>> 60 == 8#64) := U_beq _ 8#64
    by_cases h0 : v >>> 60 = 0#64
    · rw [if_pos (.inl h0)]; exact RWrite_384a r v (by rw [e0, h0]; rfl) w
    · by_cases h8 : v >>> 60 = 8#64
      · rw [if_pos (.inr h8)]; exact RWrite_384b r v (by rw [e0]; simpa using h0) (by rw [e8, h8]; rfl) w
      · rw [if_neg (by rintro (h | h); exact h0 h; exact h8 h)]; exact RWrite_384c r v (by rw [e0]; simpa using h0) (by rw [e8]; simpa using h8) w
  exact RWrite_hi r _ n v (beq_eq_false_iff_ne.2 n1) (beq_eq_false_iff_ne.2 n2) (beq_eq_false_iff_ne.2 n3) (beq_eq_false_iff_ne.2 n256) (beq_eq_false_iff_ne.2 n260) (beq_eq_false_iff_ne.2 n261) (beq_eq_false_iff_ne.2 n262) (beq_eq_false_iff_ne.2 n320) (beq_eq_false_iff_ne.2 n321) (beq_eq_false_iff_ne.2 n322) (beq_eq_false_iff_ne.2 n323) (beq_eq_false_iff_ne.2 n324) (beq_eq_false_iff_ne.2 n384) (hide fun w => Above_any r n v ⟨n1, n2, n3, n256, n260, n261, n262, n320, n321, n322, n323, n324, n384⟩ w) w
end Go.Proofs.Ytgkajhpmgeofkaa
