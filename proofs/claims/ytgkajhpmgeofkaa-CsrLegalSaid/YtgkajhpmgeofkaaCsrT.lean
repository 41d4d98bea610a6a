/-
  The walk of CsrLegal.
-/
import Derived.Test.YtgkajhpmgeofkaaCsrQ
import Derived.Test.YtgkajhpmgeofkaaCsrEq
namespace Go.Proofs.Ytgkajhpmgeofkaa
set_option linter.unusedVariables false
open Go.RowKit


theorem and_off {x k n : BitVec 64} (h : x &&& k = x) (hk : k &&& n = 0#64) : x &&& n = 0#64 := by rw [← h, BitVec.and_assoc, hk]; exact BitVec.and_zero
theorem and_le_U {x k : BitVec 64} (h : x &&& k = x) : U x ≤ U k := by
  rw [U_le, BitVec.le_def, ← h, BitVec.toNat_and]
  exact Nat.and_le_right
theorem settled_A (z : BitVec 64) : settledS z &&& 64424509440#64 = 42949672960#64 := by
  have h1 : (8288682#64 : BitVec 64) &&& 64424509440#64 = 0#64 := by decide
  have h2 : (42949672960#64 : BitVec 64) &&& 64424509440#64 = 42949672960#64 := by decide
  have h3 : (9223372036854775808#64 : BitVec 64) &&& 64424509440#64 = 0#64 := by decide
  unfold settledS
  generalize 8288682#64 = M at *
  generalize 42949672960#64 = A at *
  generalize 9223372036854775808#64 = S at *
  generalize 64424509440#64 = K at *
  split
  all_goals
    apply BitVec.eq_of_getLsbD_eq; intro i hi
    have h1 := congrArg (fun t => BitVec.getLsbD t i) h1
    have h2 := congrArg (fun t => BitVec.getLsbD t i) h2
    have h3 := congrArg (fun t => BitVec.getLsbD t i) h3
    simp [hi] at h1 h2 h3 ⊢
    revert h1 h2 h3; cases z[i] <;> cases M[i] <;> cases A[i] <;> cases S[i] <;> cases K[i] <;> simp
theorem settled_N (z : BitVec 64) : settledS z &&& 9223371993896814165#64 = 0#64 := by
  have h1 : (8288682#64 : BitVec 64) &&& 9223371993896814165#64 = 0#64 := by decide
  have h2 : (42949672960#64 : BitVec 64) &&& 9223371993896814165#64 = 0#64 := by decide
  have h3 : (9223372036854775808#64 : BitVec 64) &&& 9223371993896814165#64 = 0#64 := by decide
  unfold settledS
  generalize 8288682#64 = M at *
  generalize 42949672960#64 = A at *
  generalize 9223372036854775808#64 = S at *
  generalize 9223371993896814165#64 = K at *
  split
  all_goals
    apply BitVec.eq_of_getLsbD_eq; intro i hi
    have h1 := congrArg (fun t => BitVec.getLsbD t i) h1
    have h2 := congrArg (fun t => BitVec.getLsbD t i) h2
    have h3 := congrArg (fun t => BitVec.getLsbD t i) h3
    simp [hi] at h1 h2 h3 ⊢
    revert h1 h2 h3; cases z[i] <;> cases M[i] <;> cases A[i] <;> cases S[i] <;> cases K[i] <;> simp
theorem and15 (y : BitVec 64) : (y &&& 15#64).toNat < 16 := by
  rw [BitVec.toNat_and]
  exact Nat.lt_of_le_of_lt Nat.and_le_right (by decide)
theorem field32 {x : BitVec 64} (h : x &&& 64424509440#64 = 42949672960#64) : x >>> 32 &&& 15#64 = 10#64 := by
  rw [show (64424509440#64 : BitVec 64) = 15#64 <<< 32 from rfl, shl_and x 15#64 32] at h
  have l := and15 (x >>> 32)
  revert h l
  generalize x >>> 32 &&& 15#64 = y
  intro e l
  apply BitVec.eq_of_toNat_eq
  have t := congrArg BitVec.toNat e
  simp [BitVec.toNat_shiftLeft, Nat.shiftLeft_eq] at t
  simp
  omega
theorem y63 (z : BitVec 64) : (z &&& 8288682#64 ||| 42949672960#64) >>> 63 = 0#64 := by
  rw [BitVec.ushiftRight_or_distrib, BitVec.ushiftRight_and_distrib, show (8288682#64 : BitVec 64) >>> 63 = 0#64 from rfl, show (42949672960#64 : BitVec 64) >>> 63 = 0#64 from rfl, BitVec.or_zero]
  exact BitVec.and_zero
theorem settled_dirty (z : BitVec 64) : (settledS z >>> 63 = 1#64) ↔ (settledS z >>> 13 &&& 3#64 = 3#64) := by
  unfold settledS
  split
  · rename_i h
    rw [BitVec.ushiftRight_or_distrib, y63, BitVec.ushiftRight_or_distrib, BitVec.and_comm, BitVec.and_or_distrib_left, BitVec.and_comm 3#64 ((_ : BitVec 64) >>> 13), h]
    decide
  · rename_i h
    rw [y63]
    constructor
    · intro e; exact absurd e (by decide)
    · intro e; exact absurd e h
theorem lg1 {r : Regs} (h : Legal r) : (U (r.mstatus >>> 11 &&& 3#64) == 2) = false := by
  have e : (U (r.mstatus >>> 11 &&& 3#64) == 2) = (r.mstatus >>> 11 &&& 3#64 == 2#64) := U_beq _ 2#64
  rw [e]
  simpa using fun e => h.mpp ((mpp_field _ 2#64 (by decide)).1 e)
theorem lg2 {r : Regs} (h : Legal r) : (U (r.mstatus >>> 32 &&& 15#64) != 10) = false := by
  have e : (U (r.mstatus >>> 32 &&& 15#64) != 10) = (r.mstatus >>> 32 &&& 15#64 != 10#64) := U_bne _ 10#64
  have t := settled_A r.mstatus
  rw [h.ms] at t
  rw [e, field32 t]
  rfl
theorem lg3 {r : Regs} (h : Legal r) : (U (r.mstatus >>> 63) == 1) = (U (r.mstatus >>> 13 &&& 3#64) == 3) := by
  have e : (U (r.mstatus >>> 63) == 1) = (r.mstatus >>> 63 == 1#64) := U_beq _ 1#64
  have f : (U (r.mstatus >>> 13 &&& 3#64) == 3) = (r.mstatus >>> 13 &&& 3#64 == 3#64) := U_beq _ 3#64
  have t := settled_dirty r.mstatus
  rw [h.ms] at t
  rw [e, f, Bool.eq_iff_iff, beq_iff_eq, beq_iff_eq]
  exact t
theorem ne0 {x : BitVec 64} (h : x = 0#64) : (U x != 0) = false := by rw [h]; rfl
theorem ne8 {x : BitVec 8} (h : x = 0#8) : (U1 x != 0) = false := by rw [h]; rfl
theorem lg4 {r : Regs} (h : Legal r) : (U (r.mstatus &&& 9223371993896814165#64) != 0) = false := by
  have t := settled_N r.mstatus
  rw [h.ms] at t
  exact ne0 t
theorem lg5 {r : Regs} (h : Legal r) : (U (r.medeleg >>> 11 &&& 1#64) == 1) = false := by
  rw [← h.medeleg, BitVec.ushiftRight_and_distrib, BitVec.and_assoc, show (46078#64 : BitVec 64) >>> 11 &&& 1#64 = 0#64 from rfl, show r.medeleg >>> 11 &&& 0#64 = 0#64 from BitVec.and_zero]
  rfl
theorem lg6 {a : BitVec 64} (h : a &&& 18014398509481983#64 = a) : (U (a >>> 54) != 0) = false := by
  apply ne0
  rw [← h, BitVec.ushiftRight_and_distrib, show (18014398509481983#64 : BitVec 64) >>> 54 = 0#64 from rfl]
  exact BitVec.and_zero
theorem lg7 {c : BitVec 8} (h : c &&& 3#8 ≠ 2#8) : (U1 (c &&& 3#8) == 2) = false := by
  have e : (U1 (c &&& 3#8) == 2) = (c &&& 3#8 == 2#8) := U1_beq _ 2#8
  rw [e]
  simpa using h
theorem lt_no {x : BitVec 64} {k : Int} (h : U x ≤ k) : ¬ k < U x := by omega

attribute [local irreducible] more
set_option maxRecDepth 100000 in
set_option maxHeartbeats 4000000 in
theorem CsrLegal_walk (s : Value) (k : Nat) (L : Nat → Int × BitVec 64) (w : World) (h : LaysAt w s k L) : Calls Try.prog 7 #[s] w fun e w' => e = .returned (.bool true) ∧ Below w.heap.size w w' := by
  have hleg := hide (legal_held L k)
  have hh : Hid (∀ w' , Below w.heap.size w w' → Calls Try.prog 20 #[s] w' fun e w'' => e = .returned (.agg (C (heldS L k))) ∧ Below w'.heap.size w' w'') := hide fun w' b => held_any s k L w' (h.below b)
  generalize heldS L k = r at *
  clear h
  go_enter Try.func7, Try.ntmps7
  go_wp2_with fail
  go_at_call 11
  refine (awake_any _).mono ?_
  rintro e w' ⟨rfl, l, rfl⟩
  go_wp2_with fail
  go_at_call 20
  refine (hh.out _ (below_more _ _)).mono ?_
  rintro e w1 ⟨rfl, hb1⟩
  have hB0 : Below w.heap.size w w1 := (below_more l w).trans (hb1.mono (below_more l w).size)
  have hB1 : Below w.heap.size w (w1.alloc (.cells (C r) 26)) := hB0.alloc hB0.size _
  have hc : (w1.alloc (.cells (C r) 26)).heap[w1.heap.size]? = some (.cells (C r) 26 (0, 0)) := hA rfl
  have cA : ∀ k, (w1.alloc (.cells (C r) 26)).cell? ⟨w1.heap.size, k, none⟩ = (C r)[k]? := fun k => cell_at k hc
  clear hb1 hB0 hh
  have g0 := lg1 hleg.out
  have g1 := lg2 hleg.out
  have g2 := lg3 hleg.out
  have g3 := lg4 hleg.out
  have g4 := ne0 (and_off hleg.out.mtvec (show _ &&& 2#64 = 0#64 by decide))
  have g5 := ne0 (and_off hleg.out.stvec (show _ &&& 2#64 = 0#64 by decide))
  have g6 := ne0 (and_off hleg.out.mepc (show _ &&& 1#64 = 0#64 by decide))
  have g7 := ne0 (and_off hleg.out.sepc (show _ &&& 1#64 = 0#64 by decide))
  have g8 := lt_no (and_le_U (k := 255#64) hleg.out.fcsr)
  have g9 := lt_no (and_le_U (k := 7#64) hleg.out.mcounteren)
  have g10 := lt_no (and_le_U (k := 7#64) hleg.out.scounteren)
  have g11 := ne0 (and_off hleg.out.mie (show _ &&& 18446744073709548885#64 = 0#64 by decide))
  have g12 := ne0 (and_off hleg.out.mip (show _ &&& 18446744073709551069#64 = 0#64 by decide))
  have g13 := ne0 (and_off hleg.out.mideleg (show _ &&& 18446744073709551069#64 = 0#64 by decide))
  have g14 := lg5 hleg.out
  have n255 : U 255#64 = 255 := by kernel_rfl
  have n7 : U 7#64 = 7 := by kernel_rfl
  rw [n255] at g8
  rw [n7] at g9 g10
  clear n255 n7
  go_wp2_with (first
    | refine alloc26 rfl rfl ?_
    | (refine store26 rfl _ _ rfl _ rfl _ rfl _ _ (hA rfl) rfl ?_; rw [setRow_new _ _ _ _ _ rfl]; generalize w1.alloc (.cells (C r) 26) = wr at *))
  clear g0 g1 g2 g3 g4 g5 g6 g7 g8 g9 g10 g11 g12 g13 g14
  have p0 := ne8 hleg.out.c0.1
  have q0 := lg7 hleg.out.c0.2
  have e0 := lg6 hleg.out.a0
  have p1 := ne8 hleg.out.c1.1
  have q1 := lg7 hleg.out.c1.2
  have e1 := lg6 hleg.out.a1
  have p2 := ne8 hleg.out.c2.1
  have q2 := lg7 hleg.out.c2.2
  have e2 := lg6 hleg.out.a2
  have p3 := ne8 hleg.out.c3.1
  have q3 := lg7 hleg.out.c3.2
  have e3 := lg6 hleg.out.a3
  have p4 := ne8 hleg.out.c4.1
  have q4 := lg7 hleg.out.c4.2
  have e4 := lg6 hleg.out.a4
  have p5 := ne8 hleg.out.c5.1
  have q5 := lg7 hleg.out.c5.2
  have e5 := lg6 hleg.out.a5
  have p6 := ne8 hleg.out.c6.1
  have q6 := lg7 hleg.out.c6.2
  have e6 := lg6 hleg.out.a6
  have p7 := ne8 hleg.out.c7.1
  have q7 := lg7 hleg.out.c7.2
  have e7 := lg6 hleg.out.a7
  have SAT := hide hleg.out.satp
  have HB := hide hB1
  have CA := hide cA
  clear hleg hB1 hc
  go_loop [99] (fun iv => ∃ j : Nat, j ≤ 8 ∧ iv = .int .i64 j) (fun iv => 8 - (intOf iv).toNat)
  case atStart => exact ⟨0, by omega, rfl⟩
  case round =>
    obtain ⟨j, hj, rfl⟩ := hrel
    obtain rfl | rfl | rfl | rfl | rfl | rfl | rfl | rfl | rfl : j = 0 ∨ j = 1 ∨ j = 2 ∨ j = 3 ∨ j = 4 ∨ j = 5 ∨ j = 6 ∨ j = 7 ∨ j = 8 := by omega
    · go_wp2_with fail
      go_round
      case rel => exact ⟨1, by omega, by go_num⟩
      case measure => simp [intOf]
    · go_wp2_with fail
      go_round
      case rel => exact ⟨2, by omega, by go_num⟩
      case measure => simp [intOf]
    · go_wp2_with fail
      go_round
      case rel => exact ⟨3, by omega, by go_num⟩
      case measure => simp [intOf]
    · go_wp2_with fail
      go_round
      case rel => exact ⟨4, by omega, by go_num⟩
      case measure => simp [intOf]
    · go_wp2_with fail
      go_round
      case rel => exact ⟨5, by omega, by go_num⟩
      case measure => simp [intOf]
    · go_wp2_with fail
      go_round
      case rel => exact ⟨6, by omega, by go_num⟩
      case measure => simp [intOf]
    · go_wp2_with fail
      go_round
      case rel => exact ⟨7, by omega, by go_num⟩
      case measure => simp [intOf]
    · go_wp2_with fail
      go_round
      case rel => exact ⟨8, by omega, by go_num⟩
      case measure => simp [intOf]
    · rcases SAT.out with h | h
      · have s1 : (U (r.satp >>> 60) == 0) = true := by rw [h]; rfl
        clear h
        go_wp2_with fail
        go_ret
        exact ⟨rfl, HB.out⟩
      · have s1 : (U (r.satp >>> 60) == 0) = false := by rw [h]; rfl
        have s2 : (U (r.satp >>> 60) == 8) = true := by rw [h]; rfl
        clear h
        go_wp2_with fail
        go_ret
        exact ⟨rfl, HB.out⟩
end Go.Proofs.Ytgkajhpmgeofkaa
