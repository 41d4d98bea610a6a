/-
  The document's memory in the heap: Has, Read, Write, Lay.
-/
import Derived.Test.YtnbifbllemcjfaaRamRA
namespace Go.Proofs.Ytnbifbllemcjfaa
set_option linter.unusedVariables false
open Go.RowKit Go.Maps

theorem RHas_lit (w : World) (v : Value) (a : BitVec 64) (n : Int) (hn : n = 1 ∨ n = 2 ∨ n = 4 ∨ n = 8) :
    Calls Try.prog 17 #[v, .int .u64 (U a), .int .i64 n] w fun e w' => e = .returned (.bool (hasS a n)) ∧ w' = w := by
  have hs := @hasS_iff a n
  by_cases hlo : 2147483648 ≤ U a
  · have h1 : decide (2147483648 ≤ U a) = true := decide_eq_true hlo
    by_cases hhi : U a < 2148532224
    · have h2 : decide (U a < 2148532224) = true := decide_eq_true hhi
      have key : ∀ k : BitVec 64, k.toNat ≤ 8 → (k.toNat : Int) = n → hasS a n = decide (U (a + k) ≤ 2148532224) := fun k hk hkn => by
        have e : (a + k).toNat = a.toNat + k.toNat := by rw [BitVec.toNat_add]; unfold U at hhi; omega
        rw [Bool.eq_iff_iff, hs, decide_eq_true_eq]
        unfold U at hlo hhi ⊢
        rw [e]
        omega
      replace hs := hide hs
      rcases hn with rfl | rfl | rfl | rfl
      · rw [key 1#64 (by decide) rfl]
        clear key
        go_enter Try.func17, Try.ntmps17
        go_wp2_with fail
        go_ret
        exact ⟨rfl, rfl⟩
      · rw [key 2#64 (by decide) rfl]
        clear key
        go_enter Try.func17, Try.ntmps17
        go_wp2_with fail
        go_ret
        exact ⟨rfl, rfl⟩
      · rw [key 4#64 (by decide) rfl]
        clear key
        go_enter Try.func17, Try.ntmps17
        go_wp2_with fail
        go_ret
        exact ⟨rfl, rfl⟩
      · rw [key 8#64 (by decide) rfl]
        clear key
        go_enter Try.func17, Try.ntmps17
        go_wp2_with fail
        go_ret
        exact ⟨rfl, rfl⟩
    · have h2 : decide (U a < 2148532224) = false := decide_eq_false hhi
      have hf : hasS a n = false := by
        cases e : hasS a n
        · rfl
        · have := hs.1 e; unfold U at hhi; omega
      rw [hf]
      clear hs hf
      rcases hn with rfl | rfl | rfl | rfl
      all_goals
        go_enter Try.func17, Try.ntmps17
        go_wp2_with fail
        go_ret
        exact ⟨rfl, rfl⟩
  · have h1 : decide (2147483648 ≤ U a) = false := decide_eq_false hlo
    have hf : hasS a n = false := by
      cases e : hasS a n
      · rfl
      · have := hs.1 e; unfold U at hlo; omega
    rw [hf]
    clear hs hf
    rcases hn with rfl | rfl | rfl | rfl
    all_goals
      go_enter Try.func17, Try.ntmps17
      go_wp2_with fail
      go_ret
      exact ⟨rfl, rfl⟩
set_option maxRecDepth 20000 in
theorem RHas_other (w : World) (v : Value) (a : BitVec 64) (n : Int) (h1 : ¬ n = 1) (h2 : ¬ n = 2) (h4 : ¬ n = 4) (h8 : ¬ n = 8) :
    Calls Try.prog 17 #[v, .int .u64 (U a), .int .i64 n] w fun e w' => e = .returned (.bool (hasS a n)) ∧ w' = w := by
  have h0 : hasS a n = false := by unfold hasS okS; simp [h1, h2, h4, h8]
  rw [h0]
  have a1 : (n == 1) = false := by simpa using h1
  have b1 : decide (n = 1) = false := decide_eq_false h1
  have c1 : (n != 1) = true := by simpa using h1
  have d1 : (n = 1) = False := eq_false h1
  have a2 : (n == 2) = false := by simpa using h2
  have b2 : decide (n = 2) = false := decide_eq_false h2
  have c2 : (n != 2) = true := by simpa using h2
  have d2 : (n = 2) = False := eq_false h2
  have a4 : (n == 4) = false := by simpa using h4
  have b4 : decide (n = 4) = false := decide_eq_false h4
  have c4 : (n != 4) = true := by simpa using h4
  have d4 : (n = 4) = False := eq_false h4
  have a8 : (n == 8) = false := by simpa using h8
  have b8 : decide (n = 8) = false := decide_eq_false h8
  have c8 : (n != 8) = true := by simpa using h8
  have d8 : (n = 8) = False := eq_false h8
  clear h0 h1 h2 h4 h8
  go_enter Try.func17, Try.ntmps17
  go_wp2_with fail
  go_ret
  exact ⟨rfl, rfl⟩
theorem RHas_any (w : World) (v : Value) (a : BitVec 64) (n : Int) :
    Calls Try.prog 17 #[v, .int .u64 (U a), .int .i64 n] w fun e w' => e = .returned (.bool (hasS a n)) ∧ w' = w := by
  by_cases h1 : n = 1
  · exact RHas_lit w v a n (.inl h1)
  by_cases h2 : n = 2
  · exact RHas_lit w v a n (.inr (.inl h2))
  by_cases h4 : n = 4
  · exact RHas_lit w v a n (.inr (.inr (.inl h4)))
  by_cases h8 : n = 8
  · exact RHas_lit w v a n (.inr (.inr (.inr h8)))
  exact RHas_other w v a n h1 h2 h4 h8

/-! A number as the sum of its bytes. -/
def rdG (M : Nat → BitVec 8) (A : Nat) : Nat → BitVec 64
  | 0 => 0#64
  | k + 1 => rdG M A k + (M (A + k)).setWidth 64 <<< (8 * k)
def sumB (M : Nat → BitVec 8) : Nat → Nat → Nat
  | _, 0 => 0
  | A, k + 1 => (M A).toNat + 256 * sumB M (A + 1) k
theorem sumB_lt (M : Nat → BitVec 8) : ∀ k A, sumB M A k < 256 ^ k
  | 0, _ => by simp [sumB]
  | k + 1, A => by
    have h1 := sumB_lt M k (A + 1)
    have h2 := (M A).isLt
    rw [sumB, Nat.pow_succ]
    omega
theorem sumB_snoc (M : Nat → BitVec 8) : ∀ k A, sumB M A (k + 1) = sumB M A k + (M (A + k)).toNat * 256 ^ k
  | 0, A => by simp [sumB]
  | k + 1, A => by
    rw [sumB, sumB_snoc M k (A + 1), sumB]
    have e : A + 1 + k = A + (k + 1) := by omega
    rw [e, Nat.pow_succ]
    have : (M (A + (k + 1))).toNat * (256 ^ k * 256) = 256 * ((M (A + (k + 1))).toNat * 256 ^ k) := by
      rw [← Nat.mul_assoc, Nat.mul_comm]
    omega
theorem rdF_nat (M : Nat → BitVec 8) (A : Nat) : ∀ k i, k ≤ 8 → (rdF M A i k).toNat = sumB M (A + i) k
  | 0, _, _ => rfl
  | k + 1, i, hk => by
    have ih := rdF_nat M A k (i + 1) (by omega)
    have hb := sumB_lt M k (A + (i + 1))
    have hp : 256 ^ k ≤ 256 ^ 7 := Nat.pow_le_pow_right (by omega) (by omega)
    show ((rdF M A (i + 1) k) <<< 8 ||| (M (A + i)).setWidth 64).toNat = _
    have hm := (M (A + i)).isLt
    have e1 : ((rdF M A (i + 1) k) <<< 8).toNat = (rdF M A (i + 1) k).toNat <<< 8 := by
      rw [BitVec.toNat_shiftLeft, Nat.shiftLeft_eq, Nat.mod_eq_of_lt]
      rw [ih]
      omega
    have e2 : ((M (A + i)).setWidth 64).toNat = (M (A + i)).toNat := by
      rw [BitVec.toNat_setWidth, Nat.mod_eq_of_lt]
      omega
    rw [BitVec.toNat_or, e1, e2, ← Nat.shiftLeft_add_eq_or_of_lt (by omega), Nat.shiftLeft_eq, ih, sumB]
    have e : A + i + 1 = A + (i + 1) := by omega
    rw [e]
    omega
theorem rdG_nat (M : Nat → BitVec 8) (A : Nat) : ∀ k, k ≤ 8 → (rdG M A k).toNat = sumB M A k
  | 0, _ => rfl
  | k + 1, hk => by
    have ih := rdG_nat M A k (by omega)
    have hb := sumB_lt M (k + 1) A
    have hp : 256 ^ (k + 1) ≤ 256 ^ 8 := Nat.pow_le_pow_right (by omega) hk
    have hs := sumB_snoc M k A
    have hm := (M (A + k)).isLt
    have e0 : (2 : Nat) ^ (8 * k) = 256 ^ k := by rw [Nat.pow_mul]
    have e2 : ((M (A + k)).setWidth 64).toNat = (M (A + k)).toNat := by
      rw [BitVec.toNat_setWidth, Nat.mod_eq_of_lt]
      omega
    have e1 : ((M (A + k)).setWidth 64 <<< (8 * k)).toNat = (M (A + k)).toNat * 256 ^ k := by
      rw [BitVec.toNat_shiftLeft, Nat.shiftLeft_eq, e2, e0, Nat.mod_eq_of_lt]
      omega
    show (rdG M A k + (M (A + k)).setWidth 64 <<< (8 * k)).toNat = _
    rw [BitVec.toNat_add, e1, ih, hs, Nat.mod_eq_of_lt]
    omega
theorem rdG_eq (M : Nat → BitVec 8) (A k : Nat) (hk : k ≤ 8) : rdG M A k = rdF M A 0 k := BitVec.eq_of_toNat_eq (by rw [rdG_nat M A k hk, rdF_nat M A k 0 hk, Nat.add_zero])
theorem rdG_succ (M : Nat → BitVec 8) (A k : Nat) : rdG M A (k + 1) = rdG M A k + (M (A + k)).setWidth 64 <<< (8 * k) := rfl

set_option maxRecDepth 20000 in
theorem RRead_any (w : World) (g : GR) (M : Nat → BitVec 8) (h : HeldR w g M) (a : BitVec 64) (n : Int) :
    Calls Try.prog 15 #[.pointer (some ⟨g.q, 0, none⟩), .int .u64 (U a), .int .i64 n] w fun e w' => e = .returned (.tuple #[.int .u64 (U (rdN M a n)), .bool (hasS a n)]) ∧ w' = w := by
  have hH := RHas_any w (.pointer (some ⟨g.q, 0, none⟩)) a n
  cases hh : hasS a n
  · rw [hh] at hH
    have hrd : rdN M a n = 0#64 := by unfold rdN; rw [hh]; rfl
    rw [hrd]
    clear hrd hh h
    go_enter Try.func15, Try.ntmps15
    go_wp2_with fail
    go_at_call 17
    refine hH.mono ?_
    rintro e w' ⟨rfl, rfl⟩
    go_wp2_with fail
    go_ret2
    exact ⟨rfl, rfl⟩
  · rw [hh] at hH
    obtain ⟨N, rfl, hN1, hN8, hlo, hhi⟩ := has_nat hh
    have hrd : rdN M a N = rdG M a.toNat N := by unfold rdN; rw [hh, rdG_eq _ _ _ hN8]; rfl
    rw [hrd]
    clear hrd hh
    go_enter Try.func15, Try.ntmps15
    go_wp2_with fail
    go_at_call 17
    refine hH.mono ?_
    rintro e w' ⟨rfl, rfl⟩
    have h1N : 1 ≤ (N : Int) := by omega
    have h8N : (N : Int) ≤ 8 := by omega
    go_wp2_with fail
    go_loopw [9, 10] (fun vv iv wr => ∃ j : Nat, j ≤ N ∧ vv = .int .u64 (U (rdG M a.toNat j)) ∧ iv = .int .i64 j ∧ wr = w') (fun _ iv _ => N - (intOf iv).toNat)
    case atStart => exact ⟨0, Nat.zero_le _, rfl, rfl, rfl⟩
    case round =>
      obtain ⟨j, hj, rfl, rfl, rfl⟩ := hrel
      by_cases hlt : j < N
      · have hadd : (a + BitVec.ofNat 64 j).toNat = a.toNat + j := add_nat (by omega)
        have hB := Byte_any wr g M h (a + BitVec.ofNat 64 j) (by unfold InP; omega)
        rw [hadd] at hB
        have hj0 : 0 ≤ (j : Int) := by omega
        have hj9 : (j : Int) < N := by omega
        have hmul : (8 : Int) * (j : Int) = ((8 * j : Nat) : Int) := by omega
        have hm8 : ((8 * j : Nat) : Int) < 64 := by omega
        have hms : N - (j + 1) < N - j := by omega
        replace hms : N - ((j : Int) + 1).toNat < N - (j : Int).toNat := hms
        have hw := rdG_succ M a.toNat j
        have hwH := hide hw
        clear hw hadd
        replace h := hide h
        generalize 8 * j = j8 at *
        go_wp2_with fail
        go_at_call 28
        refine hB.mono ?_
        rintro e w2 ⟨rfl, rfl⟩
        go_wp2_with fail
        go_roundw
        case rel => exact ⟨j + 1, hlt, by rw [hwH.out], by simp, trivial⟩
        case measure => exact hms
      · obtain rfl : j = N := by omega
        have hirr : ¬ (j : Int) < (j : Int) := Int.lt_irrefl _
        go_wp2_with fail
        go_ret2
        exact ⟨rfl, rfl⟩
theorem ownR_trans {g : GR} {bl1 bl2 : Nat → Value} {n1 n2 : Nat} (h1 : ∀ b, (GR.mk g.q g.p bl1).own b → g.own b ∨ n1 ≤ b) (h2 : ∀ b, (GR.mk g.q g.p bl2).own b → (GR.mk g.q g.p bl1).own b ∨ n2 ≤ b) (h : n1 ≤ n2) : ∀ b, (GR.mk g.q g.p bl2).own b → g.own b ∨ n1 ≤ b := fun b hb => by
  rcases h2 b hb with h3 | h3
  · exact h1 b h3
  · exact .inr (Nat.le_trans h h3)
theorem Kept.ownR {g : GR} {bl' : Nat → Value} {w w1 w2 : World} (h1 : Kept g.own w w1) (ho : ∀ b, (GR.mk g.q g.p bl').own b → g.own b ∨ w.heap.size ≤ b) (h2 : Kept (GR.mk g.q g.p bl').own w1 w2) : Kept g.own w w2 :=
  h1.start (h2.mono ho)
set_option maxRecDepth 20000 in
theorem RWrite_any (w : World) (g : GR) (M : Nat → BitVec 8) (h : HeldR w g M) (a : BitVec 64) (n : Int) (v : BitVec 64) :
    Calls Try.prog 13 #[.pointer (some ⟨g.q, 0, none⟩), .int .u64 (U a), .int .i64 n, .int .u64 (U v)] w fun e w' => e = .returned (.bool (hasS a n)) ∧ ∃ tab', HeldR w' ⟨g.q, g.p, tab'⟩ (wrN M a n v) ∧ Kept g.own w w' ∧ ∀ b, (GR.mk g.q g.p tab').own b → g.own b ∨ w.heap.size ≤ b := by
  have hH := RHas_any w (.pointer (some ⟨g.q, 0, none⟩)) a n
  cases hh : hasS a n
  · rw [hh] at hH
    have hwr : wrN M a n v = M := by unfold wrN; rw [hh]; rfl
    rw [hwr]
    clear hwr hh
    replace h := hide h
    go_enter Try.func13, Try.ntmps13
    go_wp2_with fail
    go_at_call 17
    refine hH.mono ?_
    rintro e w' ⟨rfl, rfl⟩
    go_wp2_with fail
    go_ret
    exact ⟨rfl, g.tab, h.out, Kept.refl _ _, fun b hb => .inl hb⟩
  · rw [hh] at hH
    obtain ⟨N, rfl, hN1, hN8, hlo, hhi⟩ := has_nat hh
    have hwr : wrN M a N v = wrF M a.toNat v N := by unfold wrN; rw [hh]; rfl
    rw [hwr]
    clear hwr hh
    go_enter Try.func13, Try.ntmps13
    go_wp2_with fail
    go_at_call 17
    refine hH.mono ?_
    rintro e w' ⟨rfl, rfl⟩
    have h1N : 1 ≤ (N : Int) := by omega
    have h8N : (N : Int) ≤ 8 := by omega
    go_wp2_with fail
    go_loopw [10] (fun iv wr => ∃ (j : Nat) (tab' : Nat → Value), j ≤ N ∧ iv = .int .i64 j ∧ HeldR wr ⟨g.q, g.p, tab'⟩ (wrF M a.toNat v j) ∧ Kept g.own w' wr ∧ ∀ b, (GR.mk g.q g.p tab').own b → g.own b ∨ w'.heap.size ≤ b) (fun iv _ => N - (intOf iv).toNat)
    case atStart => exact ⟨0, g.tab, Nat.zero_le _, rfl, h, Kept.refl _ _, fun b hb => .inl hb⟩
    case round =>
      obtain ⟨j, tab', hjN, rfl, hj, hk, ho⟩ := hrel
      by_cases hlt : j < N
      · have hadd : (a + BitVec.ofNat 64 j).toNat = a.toNat + j := add_nat (by omega)
        have hP := RPut_any wr ⟨g.q, g.p, tab'⟩ _ hj (a + BitVec.ofNat 64 j) (by unfold InP; omega) ((v >>> (8 * j)).setWidth 8)
        rw [hadd] at hP
        have hj0 : (j : Int) < N := by omega
        have hj8 : (j : Int) < 8 := by omega
        have hjp : 0 ≤ (j : Int) := by omega
        have hmul : (8 : Int) * (j : Int) = ((8 * j : Nat) : Int) := by omega
        have hm8 : ((8 * j : Nat) : Int) < 64 := by omega
        replace h := hide h
        replace hj := hide hj
        clear hadd
        have hw := wrF_succ M a.toNat v j
        rw [← hw] at hP
        clear hw
        generalize 8 * j = j8 at *
        go_wp2_with fail
        go_at_call 26
        refine hP.mono ?_
        rintro e w2 ⟨rfl, tab2, h2, k2, o2⟩
        have hk2 : Kept g.own w' w2 := hk.ownR ho k2
        have ho2 := ownR_trans ho o2 hk.size
        clear hk ho hP k2 o2 h
        have hms : N - (j + 1) < N - j := by omega
        go_wp2_with fail
        go_roundw
        case rel => exact ⟨j + 1, tab2, hlt, by simp, h2, hk2, ho2⟩
        case measure => 
          show N - ((j : Int) + 1).toNat < N - (j : Int).toNat
          exact hms
      · obtain rfl : j = N := by omega
        have hirr : ¬ (j : Int) < (j : Int) := Int.lt_irrefl _
        go_wp2_with fail
        go_ret
        exact ⟨rfl, tab', hj, hk, ho⟩
set_option maxRecDepth 20000 in
theorem RLay_any (w : World) (g : GR) (M : Nat → BitVec 8) (h : HeldR w g M) (v : Value) (n : Nat) (f : Nat → BitVec 8) (hv : Bys w v n f) (hap : 0 < n → ∀ b, v.ownBlock = some b → ¬ g.own b) :
    Calls Try.prog 11 #[.pointer (some ⟨g.q, 0, none⟩), v] w fun e w' => e = .returned (.bool (decide (n ≤ 1048576))) ∧ ∃ tab', HeldR w' ⟨g.q, g.p, tab'⟩ (layN M f n) ∧ Kept g.own w w' ∧ ∀ b, (GR.mk g.q g.p tab').own b → g.own b ∨ w.heap.size ≤ b := by
  obtain ⟨z, c, rfl, hnc, hcm, hr⟩ := hv
  by_cases hn : n ≤ 1048576
  · have hl : layN M f n = layF M f n := by unfold layN; rw [if_pos hn]
    rw [hl, decide_eq_true hn]
    clear hl
    have hn1 : (n : Int) ≤ 1048576 := by omega
    go_enter Try.func11, Try.ntmps11
    go_wp2_with fail
    go_loopw [5] (fun iv wr => ∃ (j : Nat) (tab' : Nat → Value), j ≤ n ∧ iv = .int .i64 j ∧ HeldR wr ⟨g.q, g.p, tab'⟩ (layF M f j) ∧ Kept g.own w wr ∧ ∀ b, (GR.mk g.q g.p tab').own b → g.own b ∨ w.heap.size ≤ b) (fun iv _ => n - (intOf iv).toNat)
    case atStart => exact ⟨0, g.tab, Nat.zero_le _, rfl, h, Kept.refl _ _, fun b hb => .inl hb⟩
    case round =>
      obtain ⟨j, tab', hjN, rfl, hj, hk, ho⟩ := hrel
      by_cases hlt : j < n
      · obtain ⟨rb, rfl, hb, hcl⟩ := hr (by omega)
        have hc1 : wr.cell? (rb.add j) = some (.int .u8 (U1 (f j))) := by
          rw [← hcl j hlt]
          unfold World.cell?
          rw [addr_block, hk.block rb.block hb (hap (by omega) _ rfl)]
        have hadd : (2147483648#64 + BitVec.ofNat 64 j).toNat = 2147483648 + j := by
          rw [add_nat (by simp; omega)]; rfl
        have hP := RPut_any wr ⟨g.q, g.p, tab'⟩ _ hj (2147483648#64 + BitVec.ofNat 64 j) (by unfold InP; omega) (f j)
        rw [hadd, ← layF_succ] at hP
        have hj0 : (j : Int) < n := by omega
        have hjp : 0 ≤ (j : Int) := by omega
        replace h := hide h
        replace hj := hide hj
        replace hap := hide hap
        clear hadd hcl hr
        go_wp2_with fail
        go_at_call 26
        refine hP.mono ?_
        rintro e w2 ⟨rfl, tab2, h2, k2, o2⟩
        have hk2 : Kept g.own w w2 := hk.ownR ho k2
        have ho2 := ownR_trans ho o2 hk.size
        clear hk ho hP k2 o2 h
        have hms : n - (j + 1) < n - j := by omega
        go_wp2_with fail
        go_roundw
        case rel => exact ⟨j + 1, tab2, hlt, by simp, h2, hk2, ho2⟩
        case measure => 
          show n - ((j : Int) + 1).toNat < n - (j : Int).toNat
          exact hms
      · obtain rfl : j = n := by omega
        have hirr : ¬ (j : Int) < (j : Int) := Int.lt_irrefl _
        go_wp2_with fail
        go_ret
        exact ⟨rfl, tab', hj, hk, ho⟩
  · have hl : layN M f n = M := by unfold layN; rw [if_neg hn]
    rw [hl, decide_eq_false hn]
    have hn1 : (1048576 : Int) < n := by omega
    replace h := hide h
    go_enter Try.func11, Try.ntmps11
    go_wp2_with fail
    go_ret
    exact ⟨rfl, g.tab, h.out, Kept.refl _ _, fun b hb => .inl hb⟩
end Go.Proofs.Ytnbifbllemcjfaa
