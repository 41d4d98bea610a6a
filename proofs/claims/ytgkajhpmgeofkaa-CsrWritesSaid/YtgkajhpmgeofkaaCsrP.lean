/-
  The plain laws on what reads and writes of the registers come to. Nothing of the program's code stands here. (Printed by gen_csrp.py.)
-/
import Derived.Test.YtgkajhpmgeofkaaCsrSpec
namespace Go.Proofs.Ytgkajhpmgeofkaa
set_option linter.unusedVariables false

theorem shl_and (x c : BitVec 64) (k : Nat) : x &&& c <<< k = (x >>> k &&& c) <<< k := by
  apply BitVec.eq_of_getLsbD_eq
  intro i hi
  simp only [BitVec.getLsbD_and, BitVec.getLsbD_shiftLeft, BitVec.getLsbD_ushiftRight, hi, decide_true, Bool.true_and]
  by_cases h : i < k
  · simp [h]
  · have e : k + (i - k) = i := by omega
    simp [h, e]
theorem three_lt (y : BitVec 64) : (y &&& 3#64).toNat < 2 ^ 2 := by
  rw [BitVec.toNat_and]
  have : y.toNat &&& 3 = y.toNat % 4 := Nat.and_two_pow_sub_one_eq_mod y.toNat 2
  show y.toNat &&& 3 < 4
  omega
theorem lay_out {a v m k : BitVec 64} (h : m &&& k = 0#64) : layS a v m &&& k = a &&& k := by
  apply BitVec.eq_of_getLsbD_eq; intro i hi
  have h := congrArg (fun t => BitVec.getLsbD t i) h
  simp [layS, hi] at h ⊢
  revert h; cases a[i] <;> cases v[i] <;> cases m[i] <;> cases k[i] <;> simp
theorem lay_in {a v m k : BitVec 64} (h : k &&& m = k) : layS a v m &&& k = v &&& k := by
  apply BitVec.eq_of_getLsbD_eq; intro i hi
  have h := congrArg (fun t => BitVec.getLsbD t i) h
  simp [layS, hi] at h ⊢
  revert h; cases a[i] <;> cases v[i] <;> cases m[i] <;> cases k[i] <;> simp
theorem lay_own {a m k : BitVec 64} (h : m &&& k = m) : layS a (a &&& k) m = a := by
  apply BitVec.eq_of_getLsbD_eq; intro i hi
  have h := congrArg (fun t => BitVec.getLsbD t i) h
  simp [layS, hi] at h ⊢
  revert h; cases a[i] <;> cases m[i] <;> cases k[i] <;> simp
theorem lay_same (a m : BitVec 64) : layS a a m = a := by
  apply BitVec.eq_of_getLsbD_eq; intro i hi
  simp [layS, hi]
  cases a[i] <;> cases m[i] <;> simp
theorem lay_legal {a v m k : BitVec 64} (h : a &&& k = a) (hm : m &&& k = m) : layS a v m &&& k = layS a v m := by
  apply BitVec.eq_of_getLsbD_eq; intro i hi
  have h := congrArg (fun t => BitVec.getLsbD t i) h
  have hm := congrArg (fun t => BitVec.getLsbD t i) hm
  simp [layS, hi] at h hm ⊢
  revert h hm; cases a[i] <;> cases v[i] <;> cases m[i] <;> cases k[i] <;> simp
theorem and_legal (v k : BitVec 64) : v &&& k &&& k = v &&& k := by rw [BitVec.and_assoc, BitVec.and_self]
theorem sub_and {a b k : BitVec 64} (h : b &&& k = b) : (a &&& b) &&& k = a &&& b := by rw [BitVec.and_assoc, h]

/-- What settledS makes, but for the bit that hangs on the field. -/
theorem settled_and {z k : BitVec 64} (h : k &&& 8288682#64 = k) (h2 : k &&& 42949672960#64 = 0#64) (h3 : k &&& 9223372036854775808#64 = 0#64) : settledS z &&& k = z &&& k := by
  unfold settledS
  generalize 8288682#64 = M at *
  generalize 42949672960#64 = A at *
  generalize 9223372036854775808#64 = S at *
  split
  all_goals
    apply BitVec.eq_of_getLsbD_eq; intro i hi
    have h := congrArg (fun t => BitVec.getLsbD t i) h
    have h2 := congrArg (fun t => BitVec.getLsbD t i) h2
    have h3 := congrArg (fun t => BitVec.getLsbD t i) h3
    simp [hi] at h h2 h3 ⊢
    revert h h2 h3; cases z[i] <;> cases M[i] <;> cases A[i] <;> cases S[i] <;> cases k[i] <;> simp
theorem settled_core (z : BitVec 64) : settledS z &&& 8288682#64 ||| 42949672960#64 = z &&& 8288682#64 ||| 42949672960#64 := by
  have h : (8288682#64 : BitVec 64) &&& 42949672960#64 = 0#64 := by decide
  have h2 : (8288682#64 : BitVec 64) &&& 9223372036854775808#64 = 0#64 := by decide
  unfold settledS
  generalize 8288682#64 = M at *
  generalize 42949672960#64 = A at *
  generalize 9223372036854775808#64 = S at *
  split
  all_goals
    apply BitVec.eq_of_getLsbD_eq; intro i hi
    have h := congrArg (fun t => BitVec.getLsbD t i) h
    have h2 := congrArg (fun t => BitVec.getLsbD t i) h2
    simp [hi] at h h2 ⊢
    revert h h2; cases z[i] <;> cases M[i] <;> cases A[i] <;> cases S[i] <;> simp
theorem settled_settled (z : BitVec 64) : settledS (settledS z) = settledS z := by
  have h := settled_core z
  generalize hy : settledS z = y at h ⊢
  unfold settledS
  rw [h, ← hy]
  rfl
theorem settled_congr {x y : BitVec 64} (h : x &&& 8288682#64 = y &&& 8288682#64) : settledS x = settledS y := by unfold settledS; rw [h]
theorem mpp_field (x : BitVec 64) (c : BitVec 64) (hc : c < 4#64) : (x >>> 11 &&& 3#64 = c) ↔ x &&& 6144#64 = c <<< 11 := by
  have h := shl_and x 3#64 11
  rw [show (6144#64 : BitVec 64) = 3#64 <<< 11 from rfl, h]
  constructor
  · intro e; rw [e]
  · intro e
    have l := three_lt (x >>> 11)
    revert e l
    generalize x >>> 11 &&& 3#64 = y
    intro e l
    apply BitVec.eq_of_toNat_eq
    have t := congrArg BitVec.toNat e
    simp [BitVec.toNat_shiftLeft, Nat.shiftLeft_eq, BitVec.lt_def] at t l hc
    omega

/-- What the registers hold behind any writes. -/
structure Legal (r : Regs) : Prop where
  ms : settledS r.mstatus = r.mstatus
  mpp : r.mstatus &&& 6144#64 ≠ 4096#64
  mtvec : r.mtvec &&& 18446744073709551613#64 = r.mtvec
  stvec : r.stvec &&& 18446744073709551613#64 = r.stvec
  mepc : r.mepc &&& 18446744073709551614#64 = r.mepc
  sepc : r.sepc &&& 18446744073709551614#64 = r.sepc
  fcsr : r.fcsr &&& 255#64 = r.fcsr
  mcounteren : r.mcounteren &&& 7#64 = r.mcounteren
  scounteren : r.scounteren &&& 7#64 = r.scounteren
  mcountinhibit : r.mcountinhibit &&& 5#64 = r.mcountinhibit
  mie : r.mie &&& 2730#64 = r.mie
  mip : r.mip &&& 546#64 = r.mip
  mideleg : r.mideleg &&& 546#64 = r.mideleg
  medeleg : r.medeleg &&& 46078#64 = r.medeleg
  satp : r.satp >>> 60 = 0#64 ∨ r.satp >>> 60 = 8#64
  c0 : r.c0 &&& 96#8 = 0#8 ∧ r.c0 &&& 3#8 ≠ 2#8
  c1 : r.c1 &&& 96#8 = 0#8 ∧ r.c1 &&& 3#8 ≠ 2#8
  c2 : r.c2 &&& 96#8 = 0#8 ∧ r.c2 &&& 3#8 ≠ 2#8
  c3 : r.c3 &&& 96#8 = 0#8 ∧ r.c3 &&& 3#8 ≠ 2#8
  c4 : r.c4 &&& 96#8 = 0#8 ∧ r.c4 &&& 3#8 ≠ 2#8
  c5 : r.c5 &&& 96#8 = 0#8 ∧ r.c5 &&& 3#8 ≠ 2#8
  c6 : r.c6 &&& 96#8 = 0#8 ∧ r.c6 &&& 3#8 ≠ 2#8
  c7 : r.c7 &&& 96#8 = 0#8 ∧ r.c7 &&& 3#8 ≠ 2#8
  a0 : r.a0 &&& 18014398509481983#64 = r.a0
  a1 : r.a1 &&& 18014398509481983#64 = r.a1
  a2 : r.a2 &&& 18014398509481983#64 = r.a2
  a3 : r.a3 &&& 18014398509481983#64 = r.a3
  a4 : r.a4 &&& 18014398509481983#64 = r.a4
  a5 : r.a5 &&& 18014398509481983#64 = r.a5
  a6 : r.a6 &&& 18014398509481983#64 = r.a6
  a7 : r.a7 &&& 18014398509481983#64 = r.a7

theorem cfg1_legal : ∀ c next : BitVec 8, c &&& 96#8 = 0#8 ∧ c &&& 3#8 ≠ 2#8 → cfg1 c next &&& 96#8 = 0#8 ∧ cfg1 c next &&& 3#8 ≠ 2#8 := by
  intro c next h
  unfold cfg1
  split
  · rename_i g
    revert g
    exact (by decide +kernel : ∀ c next : BitVec 8, c &&& 128#8 = 0#8 ∧ next &&& 3#8 ≠ 2#8 → (next &&& 159#8) &&& 96#8 = 0#8 ∧ (next &&& 159#8) &&& 3#8 ≠ 2#8) c next
  · exact h
theorem cfg1_own : ∀ c : BitVec 8, c &&& 96#8 = 0#8 ∧ c &&& 3#8 ≠ 2#8 → cfg1 c c = c := by decide +kernel
theorem set_fs_mpp (z : BitVec 64) : (z ||| 24576#64) &&& 6144#64 = z &&& 6144#64 := by
  have h : (24576#64 : BitVec 64) &&& 6144#64 = 0#64 := by decide
  rw [BitVec.and_comm, BitVec.and_or_distrib_left, BitVec.and_comm 6144#64 24576#64, h, BitVec.or_zero, BitVec.and_comm]
theorem settled_mpp (z : BitVec 64) : settledS z &&& 6144#64 = z &&& 6144#64 := settled_and (by decide) (by decide) (by decide)
theorem legal_zero : Legal ⟨42949672960#64, 0#64, 0#64, 0#64, 0#64, 0#64, 0#64, 0#64, 0#64, 0#64, 0#64, 0#64, 0#64, 0#64, 0#64, 0#64, 0#64, 0#64, 0#64, 0#64, 0#64, 0#64, 0#8, 0#8, 0#8, 0#8, 0#8, 0#8, 0#8, 0#8, 0#64, 0#64, 0#64, 0#64, 0#64, 0#64, 0#64, 0#64⟩ := by
  constructor <;> first | decide +kernel | (left; decide +kernel)

theorem legal_write {r : Regs} (h : Legal r) (n : Int) (v : BitVec 64) : Legal (writeS r n v) := by
  by_cases n1 : n = 1
  · subst n1
    rw [writeS_1]
    exact { h with fcsr := lay_legal h.fcsr (by decide), ms := settled_settled _, mpp := by rw [settled_mpp, set_fs_mpp]; exact h.mpp }
  by_cases n2 : n = 2
  · subst n2
    rw [writeS_2]
    exact { h with fcsr := lay_legal h.fcsr (by decide), ms := settled_settled _, mpp := by rw [settled_mpp, set_fs_mpp]; exact h.mpp }
  by_cases n3 : n = 3
  · subst n3
    rw [writeS_3]
    exact { h with fcsr := and_legal _ _, ms := settled_settled _, mpp := by rw [settled_mpp, set_fs_mpp]; exact h.mpp }
  by_cases n256 : n = 256
  · subst n256
    rw [writeS_256]
    exact { h with ms := settled_settled _, mpp := by rw [settled_mpp, lay_out (by decide)]; exact h.mpp }
  by_cases n260 : n = 260
  · subst n260
    rw [writeS_260]
    exact { h with mie := lay_legal h.mie (by have e := h.mideleg; rw [← e, BitVec.and_assoc]; rfl) }
  by_cases n261 : n = 261
  · subst n261
    rw [writeS_261]
    exact { h with stvec := and_legal _ _ }
  by_cases n262 : n = 262
  · subst n262
    rw [writeS_262]
    exact { h with scounteren := and_legal _ _ }
  by_cases n320 : n = 320
  · subst n320
    rw [writeS_320]
    exact { h with }
  by_cases n321 : n = 321
  · subst n321
    rw [writeS_321]
    exact { h with sepc := and_legal _ _ }
  by_cases n322 : n = 322
  · subst n322
    rw [writeS_322]
    exact { h with }
  by_cases n323 : n = 323
  · subst n323
    rw [writeS_323]
    exact { h with }
  by_cases n324 : n = 324
  · subst n324
    rw [writeS_324]
    exact { h with mip := lay_legal h.mip (by rw [BitVec.and_assoc]; rfl) }
  by_cases n384 : n = 384
  · subst n384
    rw [writeS_384]
    split
    · rename_i g; exact { h with satp := g }
    · exact h
  by_cases n768 : n = 768
  · subst n768
    rw [writeS_768]
    refine { h with ms := settled_settled _, mpp := ?_ }
    show settledS _ &&& 6144#64 ≠ 4096#64
    rw [settled_mpp]
    split
    · rw [lay_out (by decide)]; exact h.mpp
    · rename_i g
      rw [lay_in (by decide)]
      intro e
      exact g ((mpp_field v 2#64 (by decide)).2 e)
  by_cases n770 : n = 770
  · subst n770
    rw [writeS_770]
    exact { h with medeleg := and_legal _ _ }
  by_cases n771 : n = 771
  · subst n771
    rw [writeS_771]
    exact { h with mideleg := and_legal _ _ }
  by_cases n772 : n = 772
  · subst n772
    rw [writeS_772]
    exact { h with mie := and_legal _ _ }
  by_cases n773 : n = 773
  · subst n773
    rw [writeS_773]
    exact { h with mtvec := and_legal _ _ }
  by_cases n774 : n = 774
  · subst n774
    rw [writeS_774]
    exact { h with mcounteren := and_legal _ _ }
  by_cases n800 : n = 800
  · subst n800
    rw [writeS_800]
    exact { h with mcountinhibit := and_legal _ _ }
  by_cases n832 : n = 832
  · subst n832
    rw [writeS_832]
    exact { h with }
  by_cases n833 : n = 833
  · subst n833
    rw [writeS_833]
    exact { h with mepc := and_legal _ _ }
  by_cases n834 : n = 834
  · subst n834
    rw [writeS_834]
    exact { h with }
  by_cases n835 : n = 835
  · subst n835
    rw [writeS_835]
    exact { h with }
  by_cases n836 : n = 836
  · subst n836
    rw [writeS_836]
    exact { h with mip := lay_legal h.mip (by decide) }
  by_cases n928 : n = 928
  · subst n928
    rw [writeS_928]
    exact { h with c0 := cfg1_legal _ _ h.c0, c1 := cfg1_legal _ _ h.c1, c2 := cfg1_legal _ _ h.c2, c3 := cfg1_legal _ _ h.c3, c4 := cfg1_legal _ _ h.c4, c5 := cfg1_legal _ _ h.c5, c6 := cfg1_legal _ _ h.c6, c7 := cfg1_legal _ _ h.c7 }
  by_cases n944 : n = 944
  · subst n944
    rw [writeS_944]
    unfold adrW0
    split
    · exact h
    · exact { h with a0 := and_legal _ _ }
  by_cases n945 : n = 945
  · subst n945
    rw [writeS_945]
    unfold adrW1
    split
    · exact h
    · exact { h with a1 := and_legal _ _ }
  by_cases n946 : n = 946
  · subst n946
    rw [writeS_946]
    unfold adrW2
    split
    · exact h
    · exact { h with a2 := and_legal _ _ }
  by_cases n947 : n = 947
  · subst n947
    rw [writeS_947]
    unfold adrW3
    split
    · exact h
    · exact { h with a3 := and_legal _ _ }
  by_cases n948 : n = 948
  · subst n948
    rw [writeS_948]
    unfold adrW4
    split
    · exact h
    · exact { h with a4 := and_legal _ _ }
  by_cases n949 : n = 949
  · subst n949
    rw [writeS_949]
    unfold adrW5
    split
    · exact h
    · exact { h with a5 := and_legal _ _ }
  by_cases n950 : n = 950
  · subst n950
    rw [writeS_950]
    unfold adrW6
    split
    · exact h
    · exact { h with a6 := and_legal _ _ }
  by_cases n951 : n = 951
  · subst n951
    rw [writeS_951]
    unfold adrW7
    split
    · exact h
    · exact { h with a7 := and_legal _ _ }
  by_cases n2816 : n = 2816
  · subst n2816
    rw [writeS_2816]
    exact { h with }
  by_cases n2818 : n = 2818
  · subst n2818
    rw [writeS_2818]
    exact { h with }
  rw [writeS_none r n v n1 n2 n3 n256 n260 n261 n262 n320 n321 n322 n323 n324 n384 n768 n770 n771 n772 n773 n774 n800 n832 n833 n834 n835 n836 n928 n944 n945 n946 n947 n948 n949 n950 n951 n2816 n2818]; exact h

theorem f5_7 (f : BitVec 64) : (f >>> 5 &&& 7#64) <<< 5 = f &&& 224#64 := by rw [← shl_and, show (7#64 <<< 5 : BitVec 64) = 224#64 from rfl]
theorem sat_same (r : Regs) : (if r.satp >>> 60 = 0#64 ∨ r.satp >>> 60 = 8#64 then { r with satp := r.satp } else r) = r := by split <;> rfl
theorem lay_line (m v : BitVec 64) : layS m (m ||| 0#64 &&& 2696#64) v = m := by rw [BitVec.zero_and, BitVec.or_zero, lay_same]
theorem lay_line2 (m d : BitVec 64) : layS m ((m ||| 0#64 &&& 2696#64) &&& d) (d &&& 2#64) = m := by rw [BitVec.zero_and, BitVec.or_zero, lay_own (by rw [BitVec.and_comm d 2#64, BitVec.and_assoc, BitVec.and_self])]

set_option maxHeartbeats 1000000 in
theorem cfgU_0 (r : Regs) : BitVec.setWidth 8 (cfgU r 8) = r.c0 := by
  unfold cfgU
  apply BitVec.eq_of_getLsbD_eq
  intro i hi
  have h : i = 0 ∨ i = 1 ∨ i = 2 ∨ i = 3 ∨ i = 4 ∨ i = 5 ∨ i = 6 ∨ i = 7 := by omega
  rcases h with rfl | rfl | rfl | rfl | rfl | rfl | rfl | rfl <;> simp
set_option maxHeartbeats 1000000 in
theorem cfgU_1 (r : Regs) : BitVec.setWidth 8 (cfgU r 8 >>> 8) = r.c1 := by
  unfold cfgU
  apply BitVec.eq_of_getLsbD_eq
  intro i hi
  have h : i = 0 ∨ i = 1 ∨ i = 2 ∨ i = 3 ∨ i = 4 ∨ i = 5 ∨ i = 6 ∨ i = 7 := by omega
  rcases h with rfl | rfl | rfl | rfl | rfl | rfl | rfl | rfl <;> simp
set_option maxHeartbeats 1000000 in
theorem cfgU_2 (r : Regs) : BitVec.setWidth 8 (cfgU r 8 >>> 16) = r.c2 := by
  unfold cfgU
  apply BitVec.eq_of_getLsbD_eq
  intro i hi
  have h : i = 0 ∨ i = 1 ∨ i = 2 ∨ i = 3 ∨ i = 4 ∨ i = 5 ∨ i = 6 ∨ i = 7 := by omega
  rcases h with rfl | rfl | rfl | rfl | rfl | rfl | rfl | rfl <;> simp
set_option maxHeartbeats 1000000 in
theorem cfgU_3 (r : Regs) : BitVec.setWidth 8 (cfgU r 8 >>> 24) = r.c3 := by
  unfold cfgU
  apply BitVec.eq_of_getLsbD_eq
  intro i hi
  have h : i = 0 ∨ i = 1 ∨ i = 2 ∨ i = 3 ∨ i = 4 ∨ i = 5 ∨ i = 6 ∨ i = 7 := by omega
  rcases h with rfl | rfl | rfl | rfl | rfl | rfl | rfl | rfl <;> simp
set_option maxHeartbeats 1000000 in
theorem cfgU_4 (r : Regs) : BitVec.setWidth 8 (cfgU r 8 >>> 32) = r.c4 := by
  unfold cfgU
  apply BitVec.eq_of_getLsbD_eq
  intro i hi
  have h : i = 0 ∨ i = 1 ∨ i = 2 ∨ i = 3 ∨ i = 4 ∨ i = 5 ∨ i = 6 ∨ i = 7 := by omega
  rcases h with rfl | rfl | rfl | rfl | rfl | rfl | rfl | rfl <;> simp
set_option maxHeartbeats 1000000 in
theorem cfgU_5 (r : Regs) : BitVec.setWidth 8 (cfgU r 8 >>> 40) = r.c5 := by
  unfold cfgU
  apply BitVec.eq_of_getLsbD_eq
  intro i hi
  have h : i = 0 ∨ i = 1 ∨ i = 2 ∨ i = 3 ∨ i = 4 ∨ i = 5 ∨ i = 6 ∨ i = 7 := by omega
  rcases h with rfl | rfl | rfl | rfl | rfl | rfl | rfl | rfl <;> simp
set_option maxHeartbeats 1000000 in
theorem cfgU_6 (r : Regs) : BitVec.setWidth 8 (cfgU r 8 >>> 48) = r.c6 := by
  unfold cfgU
  apply BitVec.eq_of_getLsbD_eq
  intro i hi
  have h : i = 0 ∨ i = 1 ∨ i = 2 ∨ i = 3 ∨ i = 4 ∨ i = 5 ∨ i = 6 ∨ i = 7 := by omega
  rcases h with rfl | rfl | rfl | rfl | rfl | rfl | rfl | rfl <;> simp
set_option maxHeartbeats 1000000 in
theorem cfgU_7 (r : Regs) : BitVec.setWidth 8 (cfgU r 8 >>> 56) = r.c7 := by
  unfold cfgU
  apply BitVec.eq_of_getLsbD_eq
  intro i hi
  have h : i = 0 ∨ i = 1 ∨ i = 2 ∨ i = 3 ∨ i = 4 ∨ i = 5 ∨ i = 6 ∨ i = 7 := by omega
  rcases h with rfl | rfl | rfl | rfl | rfl | rfl | rfl | rfl <;> simp

theorem settles_f {r : Regs} (h : Legal r) (n : Int) (hn : n = 1 ∨ n = 2 ∨ n = 3) : { writeS r n (readS r n 0#64 0#64) with mstatus := r.mstatus } = r := by
  rcases hn with rfl | rfl | rfl
  · rw [readS_1, writeS_1, lay_own (by decide)]
  · rw [readS_2, writeS_2, f5_7, lay_own (by decide)]
  · rw [readS_3, writeS_3, h.fcsr]

theorem settles {r : Regs} (h : Legal r) (n : Int) (h1 : n ≠ 1) (h2 : n ≠ 2) (h3 : n ≠ 3) : writeS r n (readS r n 0#64 0#64) = r := by
  by_cases n256 : n = 256
  · subst n256
    rw [readS_256, writeS_256]
    rw [lay_own (by decide), h.ms]
  by_cases n260 : n = 260
  · subst n260
    rw [readS_260, writeS_260]
    rw [lay_own (by rw [BitVec.and_self])]
  by_cases n261 : n = 261
  · subst n261
    rw [readS_261, writeS_261]
    rw [h.stvec]
  by_cases n262 : n = 262
  · subst n262
    rw [readS_262, writeS_262]
    rw [h.scounteren]
  by_cases n320 : n = 320
  · subst n320
    rw [readS_320, writeS_320]
  by_cases n321 : n = 321
  · subst n321
    rw [readS_321, writeS_321]
    rw [h.sepc]
  by_cases n322 : n = 322
  · subst n322
    rw [readS_322, writeS_322]
  by_cases n323 : n = 323
  · subst n323
    rw [readS_323, writeS_323]
  by_cases n324 : n = 324
  · subst n324
    rw [readS_324, writeS_324]
    rw [lay_line2]
  by_cases n384 : n = 384
  · subst n384
    rw [readS_384, writeS_384]
    exact sat_same r
  by_cases n768 : n = 768
  · subst n768
    rw [readS_768, writeS_768]
    rw [lay_same, h.ms]
  by_cases n770 : n = 770
  · subst n770
    rw [readS_770, writeS_770]
    rw [h.medeleg]
  by_cases n771 : n = 771
  · subst n771
    rw [readS_771, writeS_771]
    rw [h.mideleg]
  by_cases n772 : n = 772
  · subst n772
    rw [readS_772, writeS_772]
    rw [h.mie]
  by_cases n773 : n = 773
  · subst n773
    rw [readS_773, writeS_773]
    rw [h.mtvec]
  by_cases n774 : n = 774
  · subst n774
    rw [readS_774, writeS_774]
    rw [h.mcounteren]
  by_cases n800 : n = 800
  · subst n800
    rw [readS_800, writeS_800]
    rw [h.mcountinhibit]
  by_cases n832 : n = 832
  · subst n832
    rw [readS_832, writeS_832]
  by_cases n833 : n = 833
  · subst n833
    rw [readS_833, writeS_833]
    rw [h.mepc]
  by_cases n834 : n = 834
  · subst n834
    rw [readS_834, writeS_834]
  by_cases n835 : n = 835
  · subst n835
    rw [readS_835, writeS_835]
  by_cases n836 : n = 836
  · subst n836
    rw [readS_836, writeS_836]
    rw [lay_line]
  by_cases n928 : n = 928
  · subst n928
    rw [readS_928, writeS_928]
    unfold cfgW; rw [cfgU_0, cfgU_1, cfgU_2, cfgU_3, cfgU_4, cfgU_5, cfgU_6, cfgU_7, cfg1_own _ h.c0, cfg1_own _ h.c1, cfg1_own _ h.c2, cfg1_own _ h.c3, cfg1_own _ h.c4, cfg1_own _ h.c5, cfg1_own _ h.c6, cfg1_own _ h.c7]
  by_cases n944 : n = 944
  · subst n944
    rw [readS_944, writeS_944]
    unfold adrW0; split
    · rfl
    · rw [h.a0]
  by_cases n945 : n = 945
  · subst n945
    rw [readS_945, writeS_945]
    unfold adrW1; split
    · rfl
    · rw [h.a1]
  by_cases n946 : n = 946
  · subst n946
    rw [readS_946, writeS_946]
    unfold adrW2; split
    · rfl
    · rw [h.a2]
  by_cases n947 : n = 947
  · subst n947
    rw [readS_947, writeS_947]
    unfold adrW3; split
    · rfl
    · rw [h.a3]
  by_cases n948 : n = 948
  · subst n948
    rw [readS_948, writeS_948]
    unfold adrW4; split
    · rfl
    · rw [h.a4]
  by_cases n949 : n = 949
  · subst n949
    rw [readS_949, writeS_949]
    unfold adrW5; split
    · rfl
    · rw [h.a5]
  by_cases n950 : n = 950
  · subst n950
    rw [readS_950, writeS_950]
    unfold adrW6; split
    · rfl
    · rw [h.a6]
  by_cases n951 : n = 951
  · subst n951
    rw [readS_951, writeS_951]
    unfold adrW7; split
    · rfl
    · rw [h.a7]
  by_cases n2816 : n = 2816
  · subst n2816
    rw [readS_2816, writeS_2816]
  by_cases n2818 : n = 2818
  · subst n2818
    rw [readS_2818, writeS_2818]
  rw [writeS_none r n _ h1 h2 h3 n256 n260 n261 n262 n320 n321 n322 n323 n324 n384 n768 n770 n771 n772 n773 n774 n800 n832 n833 n834 n835 n836 n928 n944 n945 n946 n947 n948 n949 n950 n951 n2816 n2818]

theorem frame_mstatus (r : Regs) (x l t : BitVec 64) (o : Int) (h256 : o ≠ 256) (h768 : o ≠ 768) : readS { r with mstatus := x } o l t = readS r o l t := by
  unfold readS
  simp only [if_neg h256, if_neg h768]
  rfl
theorem frame_mtvec (r : Regs) (x l t : BitVec 64) (o : Int) (h773 : o ≠ 773) : readS { r with mtvec := x } o l t = readS r o l t := by
  unfold readS
  simp only [if_neg h773]
  rfl
theorem frame_medeleg (r : Regs) (x l t : BitVec 64) (o : Int) (h770 : o ≠ 770) : readS { r with medeleg := x } o l t = readS r o l t := by
  unfold readS
  simp only [if_neg h770]
  rfl
theorem frame_mideleg (r : Regs) (x l t : BitVec 64) (o : Int) (h260 : o ≠ 260) (h324 : o ≠ 324) (h771 : o ≠ 771) : readS { r with mideleg := x } o l t = readS r o l t := by
  unfold readS
  simp only [if_neg h260, if_neg h324, if_neg h771]
  rfl
theorem frame_mie (r : Regs) (x l t : BitVec 64) (o : Int) (h260 : o ≠ 260) (h772 : o ≠ 772) : readS { r with mie := x } o l t = readS r o l t := by
  unfold readS
  simp only [if_neg h260, if_neg h772]
  rfl
theorem frame_mip (r : Regs) (x l t : BitVec 64) (o : Int) (h324 : o ≠ 324) (h836 : o ≠ 836) : readS { r with mip := x } o l t = readS r o l t := by
  unfold readS
  simp only [if_neg h324, if_neg h836]
  rfl
theorem frame_mepc (r : Regs) (x l t : BitVec 64) (o : Int) (h833 : o ≠ 833) : readS { r with mepc := x } o l t = readS r o l t := by
  unfold readS
  simp only [if_neg h833]
  rfl
theorem frame_mcause (r : Regs) (x l t : BitVec 64) (o : Int) (h834 : o ≠ 834) : readS { r with mcause := x } o l t = readS r o l t := by
  unfold readS
  simp only [if_neg h834]
  rfl
theorem frame_mtval (r : Regs) (x l t : BitVec 64) (o : Int) (h835 : o ≠ 835) : readS { r with mtval := x } o l t = readS r o l t := by
  unfold readS
  simp only [if_neg h835]
  rfl
theorem frame_mscratch (r : Regs) (x l t : BitVec 64) (o : Int) (h832 : o ≠ 832) : readS { r with mscratch := x } o l t = readS r o l t := by
  unfold readS
  simp only [if_neg h832]
  rfl
theorem frame_mcounteren (r : Regs) (x l t : BitVec 64) (o : Int) (h774 : o ≠ 774) : readS { r with mcounteren := x } o l t = readS r o l t := by
  unfold readS
  simp only [if_neg h774]
  rfl
theorem frame_mcountinhibit (r : Regs) (x l t : BitVec 64) (o : Int) (h800 : o ≠ 800) : readS { r with mcountinhibit := x } o l t = readS r o l t := by
  unfold readS
  simp only [if_neg h800]
  rfl
theorem frame_mcycle (r : Regs) (x l t : BitVec 64) (o : Int) (h2816 : o ≠ 2816) (h3072 : o ≠ 3072) : readS { r with mcycle := x } o l t = readS r o l t := by
  unfold readS
  simp only [if_neg h2816, if_neg h3072]
  rfl
theorem frame_minstret (r : Regs) (x l t : BitVec 64) (o : Int) (h2818 : o ≠ 2818) (h3074 : o ≠ 3074) : readS { r with minstret := x } o l t = readS r o l t := by
  unfold readS
  simp only [if_neg h2818, if_neg h3074]
  rfl
theorem frame_stvec (r : Regs) (x l t : BitVec 64) (o : Int) (h261 : o ≠ 261) : readS { r with stvec := x } o l t = readS r o l t := by
  unfold readS
  simp only [if_neg h261]
  rfl
theorem frame_sepc (r : Regs) (x l t : BitVec 64) (o : Int) (h321 : o ≠ 321) : readS { r with sepc := x } o l t = readS r o l t := by
  unfold readS
  simp only [if_neg h321]
  rfl
theorem frame_scause (r : Regs) (x l t : BitVec 64) (o : Int) (h322 : o ≠ 322) : readS { r with scause := x } o l t = readS r o l t := by
  unfold readS
  simp only [if_neg h322]
  rfl
theorem frame_stval (r : Regs) (x l t : BitVec 64) (o : Int) (h323 : o ≠ 323) : readS { r with stval := x } o l t = readS r o l t := by
  unfold readS
  simp only [if_neg h323]
  rfl
theorem frame_sscratch (r : Regs) (x l t : BitVec 64) (o : Int) (h320 : o ≠ 320) : readS { r with sscratch := x } o l t = readS r o l t := by
  unfold readS
  simp only [if_neg h320]
  rfl
theorem frame_scounteren (r : Regs) (x l t : BitVec 64) (o : Int) (h262 : o ≠ 262) : readS { r with scounteren := x } o l t = readS r o l t := by
  unfold readS
  simp only [if_neg h262]
  rfl
theorem frame_satp (r : Regs) (x l t : BitVec 64) (o : Int) (h384 : o ≠ 384) : readS { r with satp := x } o l t = readS r o l t := by
  unfold readS
  simp only [if_neg h384]
  rfl
theorem frame_fcsr (r : Regs) (x l t : BitVec 64) (o : Int) (h1 : o ≠ 1) (h2 : o ≠ 2) (h3 : o ≠ 3) : readS { r with fcsr := x } o l t = readS r o l t := by
  unfold readS
  simp only [if_neg h1, if_neg h2, if_neg h3]
  rfl
theorem frame_a0 (r : Regs) (x l t : BitVec 64) (o : Int) (h944 : o ≠ 944) : readS { r with a0 := x } o l t = readS r o l t := by
  unfold readS
  simp only [if_neg h944]
  rfl
theorem frame_a1 (r : Regs) (x l t : BitVec 64) (o : Int) (h945 : o ≠ 945) : readS { r with a1 := x } o l t = readS r o l t := by
  unfold readS
  simp only [if_neg h945]
  rfl
theorem frame_a2 (r : Regs) (x l t : BitVec 64) (o : Int) (h946 : o ≠ 946) : readS { r with a2 := x } o l t = readS r o l t := by
  unfold readS
  simp only [if_neg h946]
  rfl
theorem frame_a3 (r : Regs) (x l t : BitVec 64) (o : Int) (h947 : o ≠ 947) : readS { r with a3 := x } o l t = readS r o l t := by
  unfold readS
  simp only [if_neg h947]
  rfl
theorem frame_a4 (r : Regs) (x l t : BitVec 64) (o : Int) (h948 : o ≠ 948) : readS { r with a4 := x } o l t = readS r o l t := by
  unfold readS
  simp only [if_neg h948]
  rfl
theorem frame_a5 (r : Regs) (x l t : BitVec 64) (o : Int) (h949 : o ≠ 949) : readS { r with a5 := x } o l t = readS r o l t := by
  unfold readS
  simp only [if_neg h949]
  rfl
theorem frame_a6 (r : Regs) (x l t : BitVec 64) (o : Int) (h950 : o ≠ 950) : readS { r with a6 := x } o l t = readS r o l t := by
  unfold readS
  simp only [if_neg h950]
  rfl
theorem frame_a7 (r : Regs) (x l t : BitVec 64) (o : Int) (h951 : o ≠ 951) : readS { r with a7 := x } o l t = readS r o l t := by
  unfold readS
  simp only [if_neg h951]
  rfl
theorem frame_c (r s : Regs) (l t : BitVec 64) (o : Int) (h : o ≠ 928) : readS (withG r s) o l t = readS r o l t := by
  unfold readS
  simp only [if_neg h]
  rfl

def shareS (n : Int) : Int := if n = 256 then 768 else if n = 260 then 772 else if n = 324 then 836 else if n = 2 then 1 else if n = 3 then 1 else if n = 3072 then 2816 else if n = 3074 then 2818 else n
def apartS (n o : Int) : Prop := shareS n ≠ shareS o ∧ ¬ (928 ≤ n ∧ n < 960 ∧ 928 ≤ o ∧ o < 960) ∧ ¬ (1 ≤ n ∧ n ≤ 3 ∧ shareS o = 768) ∧ ¬ (n = 771 ∧ (shareS o = 772 ∨ shareS o = 836))
instance (n o : Int) : Decidable (apartS n o) := inferInstanceAs (Decidable (_ ∧ _))
theorem one_other (r : Regs) (n o : Int) (v l t : BitVec 64) (h : apartS n o) : readS (writeS r n v) o l t = readS r o l t := by
  by_cases n1 : n = 1
  · subst n1
    rw [writeS_1]
    exact (frame_mstatus { r with fcsr := _ } _ l t o (by intro e; subst e; revert h; decide) (by intro e; subst e; revert h; decide)).trans (frame_fcsr r _ l t o (by intro e; subst e; revert h; decide) (by intro e; subst e; revert h; decide) (by intro e; subst e; revert h; decide))
  by_cases n2 : n = 2
  · subst n2
    rw [writeS_2]
    exact (frame_mstatus { r with fcsr := _ } _ l t o (by intro e; subst e; revert h; decide) (by intro e; subst e; revert h; decide)).trans (frame_fcsr r _ l t o (by intro e; subst e; revert h; decide) (by intro e; subst e; revert h; decide) (by intro e; subst e; revert h; decide))
  by_cases n3 : n = 3
  · subst n3
    rw [writeS_3]
    exact (frame_mstatus { r with fcsr := _ } _ l t o (by intro e; subst e; revert h; decide) (by intro e; subst e; revert h; decide)).trans (frame_fcsr r _ l t o (by intro e; subst e; revert h; decide) (by intro e; subst e; revert h; decide) (by intro e; subst e; revert h; decide))
  by_cases n256 : n = 256
  · subst n256
    rw [writeS_256]
    exact frame_mstatus r _ l t o (by intro e; subst e; revert h; decide) (by intro e; subst e; revert h; decide)
  by_cases n260 : n = 260
  · subst n260
    rw [writeS_260]
    exact frame_mie r _ l t o (by intro e; subst e; revert h; decide) (by intro e; subst e; revert h; decide)
  by_cases n261 : n = 261
  · subst n261
    rw [writeS_261]
    exact frame_stvec r _ l t o (by intro e; subst e; revert h; decide)
  by_cases n262 : n = 262
  · subst n262
    rw [writeS_262]
    exact frame_scounteren r _ l t o (by intro e; subst e; revert h; decide)
  by_cases n320 : n = 320
  · subst n320
    rw [writeS_320]
    exact frame_sscratch r _ l t o (by intro e; subst e; revert h; decide)
  by_cases n321 : n = 321
  · subst n321
    rw [writeS_321]
    exact frame_sepc r _ l t o (by intro e; subst e; revert h; decide)
  by_cases n322 : n = 322
  · subst n322
    rw [writeS_322]
    exact frame_scause r _ l t o (by intro e; subst e; revert h; decide)
  by_cases n323 : n = 323
  · subst n323
    rw [writeS_323]
    exact frame_stval r _ l t o (by intro e; subst e; revert h; decide)
  by_cases n324 : n = 324
  · subst n324
    rw [writeS_324]
    exact frame_mip r _ l t o (by intro e; subst e; revert h; decide) (by intro e; subst e; revert h; decide)
  by_cases n384 : n = 384
  · subst n384
    rw [writeS_384]
    split
    · exact frame_satp r _ l t o (by intro e; subst e; revert h; decide)
    · rfl
  by_cases n768 : n = 768
  · subst n768
    rw [writeS_768]
    exact frame_mstatus r _ l t o (by intro e; subst e; revert h; decide) (by intro e; subst e; revert h; decide)
  by_cases n770 : n = 770
  · subst n770
    rw [writeS_770]
    exact frame_medeleg r _ l t o (by intro e; subst e; revert h; decide)
  by_cases n771 : n = 771
  · subst n771
    rw [writeS_771]
    exact frame_mideleg r _ l t o (by intro e; subst e; revert h; decide) (by intro e; subst e; revert h; decide) (by intro e; subst e; revert h; decide)
  by_cases n772 : n = 772
  · subst n772
    rw [writeS_772]
    exact frame_mie r _ l t o (by intro e; subst e; revert h; decide) (by intro e; subst e; revert h; decide)
  by_cases n773 : n = 773
  · subst n773
    rw [writeS_773]
    exact frame_mtvec r _ l t o (by intro e; subst e; revert h; decide)
  by_cases n774 : n = 774
  · subst n774
    rw [writeS_774]
    exact frame_mcounteren r _ l t o (by intro e; subst e; revert h; decide)
  by_cases n800 : n = 800
  · subst n800
    rw [writeS_800]
    exact frame_mcountinhibit r _ l t o (by intro e; subst e; revert h; decide)
  by_cases n832 : n = 832
  · subst n832
    rw [writeS_832]
    exact frame_mscratch r _ l t o (by intro e; subst e; revert h; decide)
  by_cases n833 : n = 833
  · subst n833
    rw [writeS_833]
    exact frame_mepc r _ l t o (by intro e; subst e; revert h; decide)
  by_cases n834 : n = 834
  · subst n834
    rw [writeS_834]
    exact frame_mcause r _ l t o (by intro e; subst e; revert h; decide)
  by_cases n835 : n = 835
  · subst n835
    rw [writeS_835]
    exact frame_mtval r _ l t o (by intro e; subst e; revert h; decide)
  by_cases n836 : n = 836
  · subst n836
    rw [writeS_836]
    exact frame_mip r _ l t o (by intro e; subst e; revert h; decide) (by intro e; subst e; revert h; decide)
  by_cases n928 : n = 928
  · subst n928
    rw [writeS_928]
    exact frame_c r (cfgW r v) l t o (by intro e; subst e; revert h; decide)
  by_cases n944 : n = 944
  · subst n944
    rw [writeS_944]
    unfold adrW0
    split
    · rfl
    · exact frame_a0 r _ l t o (by intro e; subst e; revert h; decide)
  by_cases n945 : n = 945
  · subst n945
    rw [writeS_945]
    unfold adrW1
    split
    · rfl
    · exact frame_a1 r _ l t o (by intro e; subst e; revert h; decide)
  by_cases n946 : n = 946
  · subst n946
    rw [writeS_946]
    unfold adrW2
    split
    · rfl
    · exact frame_a2 r _ l t o (by intro e; subst e; revert h; decide)
  by_cases n947 : n = 947
  · subst n947
    rw [writeS_947]
    unfold adrW3
    split
    · rfl
    · exact frame_a3 r _ l t o (by intro e; subst e; revert h; decide)
  by_cases n948 : n = 948
  · subst n948
    rw [writeS_948]
    unfold adrW4
    split
    · rfl
    · exact frame_a4 r _ l t o (by intro e; subst e; revert h; decide)
  by_cases n949 : n = 949
  · subst n949
    rw [writeS_949]
    unfold adrW5
    split
    · rfl
    · exact frame_a5 r _ l t o (by intro e; subst e; revert h; decide)
  by_cases n950 : n = 950
  · subst n950
    rw [writeS_950]
    unfold adrW6
    split
    · rfl
    · exact frame_a6 r _ l t o (by intro e; subst e; revert h; decide)
  by_cases n951 : n = 951
  · subst n951
    rw [writeS_951]
    unfold adrW7
    split
    · rfl
    · exact frame_a7 r _ l t o (by intro e; subst e; revert h; decide)
  by_cases n2816 : n = 2816
  · subst n2816
    rw [writeS_2816]
    exact frame_mcycle r _ l t o (by intro e; subst e; revert h; decide) (by intro e; subst e; revert h; decide)
  by_cases n2818 : n = 2818
  · subst n2818
    rw [writeS_2818]
    exact frame_minstret r _ l t o (by intro e; subst e; revert h; decide) (by intro e; subst e; revert h; decide)
  rw [writeS_none r n v n1 n2 n3 n256 n260 n261 n262 n320 n321 n322 n323 n324 n384 n768 n770 n771 n772 n773 n774 n800 n832 n833 n834 n835 n836 n928 n944 n945 n946 n947 n948 n949 n950 n951 n2816 n2818]

theorem not_and_self (x k : BitVec 64) : (x &&& k) &&& ~~~x = 0#64 := by
  apply BitVec.eq_of_getLsbD_eq; intro i hi
  simp [hi]
  intro a b; exact a
theorem show_hidden {m : BitVec 64} (h : settledS m = m) (v : BitVec 64) : settledS (layS m v 811298#64) &&& 9223372036853964509#64 = m &&& 9223372036853964509#64 := by
  have e : ∀ z : BitVec 64, settledS z &&& 9223372036853964509#64 = (z &&& 8288682#64 ||| 42949672960#64) &&& 9223372036853964509#64 := by
    intro z
    have hS : (9223372036854775808#64 : BitVec 64) &&& 9223372036853964509#64 = 0#64 := by decide
    unfold settledS
    split
    · rw [BitVec.and_comm, BitVec.and_or_distrib_left, BitVec.and_comm 9223372036853964509#64 9223372036854775808#64, hS, BitVec.or_zero, BitVec.and_comm]
    · rfl
  have c : ∀ z k : BitVec 64, (z &&& 8288682#64 ||| 42949672960#64) &&& k = (z &&& (8288682#64 &&& k)) ||| (42949672960#64 &&& k) := by
    intro z k
    rw [BitVec.and_comm, BitVec.and_or_distrib_left, BitVec.and_comm k (z &&& 8288682#64), BitVec.and_assoc, BitVec.and_comm k 42949672960#64]
  rw [e, c, lay_out (by decide), ← c, ← e, h]
theorem show_sie (m v d : BitVec 64) : layS m v d &&& ~~~d = m &&& ~~~d := lay_out (by rw [BitVec.and_not_self]; rfl)
theorem and_two (d : BitVec 64) : d &&& 2#64 &&& 18446744073709551613#64 = 0#64 := by
  have e : (2#64 &&& 18446744073709551613#64 : BitVec 64) = 0#64 := by decide
  rw [BitVec.and_assoc, e]; exact BitVec.and_zero
theorem show_sip (m v d : BitVec 64) : layS m v (d &&& 2#64) &&& 18446744073709551613#64 = m &&& 18446744073709551613#64 := lay_out (and_two d)
theorem show_read (m v : BitVec 64) : (settledS (layS m v 811298#64) &&& 9223372045445521698#64) &&& 811298#64 = v &&& 811298#64 := by
  rw [BitVec.and_assoc, show (9223372045445521698#64 &&& 811298#64 : BitVec 64) = 811298#64 from rfl, settled_and (by decide) (by decide) (by decide), lay_in (by decide)]
theorem show_read2 (m v d : BitVec 64) : layS m v d &&& d = v &&& d := lay_in (by rw [BitVec.and_self])

end Go.Proofs.Ytgkajhpmgeofkaa
