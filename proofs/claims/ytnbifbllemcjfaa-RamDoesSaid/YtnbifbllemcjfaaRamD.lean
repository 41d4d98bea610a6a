/-
  The memory in the heap: Has, Read, Write.
-/
import Derived.Test.YtnbifbllemcjfaaRamC
namespace Go.Proofs.Ytnbifbllemcjfaa
set_option linter.unusedVariables false
open Go.RowKit Go.Maps

def okS (n : Int) : Bool := n == 1 || n == 2 || n == 4 || n == 8
def hasS (a : BitVec 64) (n : Int) : Bool := okS n && decide (2147483648 ≤ U a) && decide (U a + n ≤ 2148532224)
theorem Has_lit (w : World) (v : Value) (a : BitVec 64) (n : Int) (hn : n = 1 ∨ n = 2 ∨ n = 4 ∨ n = 8) :
    Calls Try.prog 16 #[v, .int .u64 (U a), .int .i64 n] w fun e w' => e = .returned (.bool (hasS a n)) ∧ w' = w := by
  have h0 := U_lo a
  have h1 : U (2147483648#64) = 2147483648 := by decide
  have e1 : U (2148532223#64) = 2148532223 := by decide
  have e2 : U (2148532222#64) = 2148532222 := by decide
  have e4 : U (2148532220#64) = 2148532220 := by decide
  have e8 : U (2148532216#64) = 2148532216 := by decide
  by_cases hlo : 2147483648 ≤ U a
  · have hlo2 : (U a < 2147483648) = False := by simp; omega
    rcases hn with rfl | rfl | rfl | rfl
    all_goals
      go_enter Try.func16, Try.ntmps16
      go_wp2_with fail
      go_ret
      refine ⟨congrArg (fun b => Ending.returned (.bool b)) ?_, rfl⟩
      show decide _ = _
      unfold hasS okS
      rw [decide_eq_true hlo]
      simp only [BEq.rfl, Bool.true_or, Bool.or_true, Bool.true_and]
      exact decide_eq_decide.2 (by omega)
  · have hf : ∀ n, hasS a n = false := fun n => by unfold hasS; rw [decide_eq_false hlo, Bool.and_false, Bool.false_and]
    rcases hn with rfl | rfl | rfl | rfl
    all_goals
      go_enter Try.func16, Try.ntmps16
      go_wp2_with fail
      go_ret
      exact ⟨rfl, rfl⟩
theorem Has_other (w : World) (v : Value) (a : BitVec 64) (n : Int) (h1 : ¬ n = 1) (h2 : ¬ n = 2) (h4 : ¬ n = 4) (h8 : ¬ n = 8) :
    Calls Try.prog 16 #[v, .int .u64 (U a), .int .i64 n] w fun e w' => e = .returned (.bool (hasS a n)) ∧ w' = w := by
  have h0 : hasS a n = false := by unfold hasS okS; simp [h1, h2, h4, h8]
  rw [h0]
  go_enter Try.func16, Try.ntmps16
  go_wp2_with fail
  go_ret
  exact ⟨rfl, rfl⟩
theorem Has_any (w : World) (v : Value) (a : BitVec 64) (n : Int) :
    Calls Try.prog 16 #[v, .int .u64 (U a), .int .i64 n] w fun e w' => e = .returned (.bool (hasS a n)) ∧ w' = w := by
  by_cases h1 : n = 1
  · exact Has_lit w v a n (.inl h1)
  by_cases h2 : n = 2
  · exact Has_lit w v a n (.inr (.inl h2))
  by_cases h4 : n = 4
  · exact Has_lit w v a n (.inr (.inr (.inl h4)))
  by_cases h8 : n = 8
  · exact Has_lit w v a n (.inr (.inr (.inr h8)))
  exact Has_other w v a n h1 h2 h4 h8

/-- k bytes from the i-th on, as a number. -/
def rdF (M : Nat → BitVec 8) (A : Nat) : Nat → Nat → BitVec 64
  | _, 0 => 0#64
  | i, k + 1 => (rdF M A (i + 1) k) <<< 8 ||| (M (A + i)).setWidth 64
def rdN (M : Nat → BitVec 8) (a : BitVec 64) (n : Int) : BitVec 64 := if hasS a n then rdF M a.toNat 0 n.toNat else 0#64
/-- The first k bytes of a number written. -/
def wrF (M : Nat → BitVec 8) (A : Nat) (v : BitVec 64) : Nat → Nat → BitVec 8
  | 0 => M
  | k + 1 => updB (wrF M A v k) (A + k) ((v >>> (8 * k)).setWidth 8)
def wrN (M : Nat → BitVec 8) (a : BitVec 64) (n : Int) (v : BitVec 64) : Nat → BitVec 8 := if hasS a n then wrF M a.toNat v n.toNat else M
theorem has_nat {a : BitVec 64} {n : Int} (h : hasS a n = true) : ∃ N : Nat, n = N ∧ 1 ≤ N ∧ N ≤ 8 ∧ 2147483648 ≤ a.toNat ∧ a.toNat + N ≤ 2148532224 := by
  unfold hasS okS U at h
  simp only [Bool.and_eq_true, Bool.or_eq_true, beq_iff_eq, decide_eq_true_eq] at h
  exact ⟨n.toNat, by omega, by omega, by omega, by omega, by omega⟩
theorem add_nat {a : BitVec 64} {j : Nat} (h : a.toNat + j < 18446744073709551616) : (a + BitVec.ofNat 64 j).toNat = a.toNat + j := by
  rw [BitVec.toNat_add, BitVec.toNat_ofNat]
  omega
theorem Read_any (w : World) (g : G) (M : Nat → BitVec 8) (h : Held w g M) (a : BitVec 64) (n : Int) :
    Calls Try.prog 14 #[.pointer (some ⟨g.q, 0, none⟩), .int .u64 (U a), .int .i64 n] w fun e w' => e = .returned (.tuple #[.int .u64 (U (rdN M a n)), .bool (hasS a n)]) ∧ w' = w := by
  have hH := Has_any w (.pointer (some ⟨g.q, 0, none⟩)) a n
  cases hh : hasS a n
  · rw [hh] at hH
    have hrd : rdN M a n = 0#64 := by unfold rdN; rw [hh]; rfl
    rw [hrd]
    clear hrd hh h
    go_enter Try.func14, Try.ntmps14
    go_wp2_with fail
    go_at_call 16
    refine hH.mono ?_
    rintro e w' ⟨rfl, rfl⟩
    go_wp2_with fail
    go_ret2
    exact ⟨rfl, rfl⟩
  · rw [hh] at hH
    obtain ⟨N, rfl, hN1, hN8, hlo, hhi⟩ := has_nat hh
    have hrd : rdN M a N = rdF M a.toNat 0 N := by unfold rdN; rw [hh]; rfl
    rw [hrd]
    clear hrd hh
    go_enter Try.func14, Try.ntmps14
    go_wp2_with fail
    go_at_call 16
    refine hH.mono ?_
    rintro e w' ⟨rfl, rfl⟩
    have h1N : 1 ≤ (N : Int) := by omega
    have h8N : (N : Int) ≤ 8 := by omega
    go_wp2_with fail
    go_loopw [8, 9] (fun vv iv wr => ∃ j m : Nat, j + m = N ∧ vv = .int .u64 (U (rdF M a.toNat j m)) ∧ iv = .int .i64 ((j : Int) - 1) ∧ wr = w') (fun _ iv _ => (intOf iv + 1).toNat)
    case atStart => exact ⟨N, 0, rfl, rfl, rfl, rfl⟩
    case round =>
      obtain ⟨j, m, hjm, rfl, rfl, rfl⟩ := hrel
      cases j with
      | zero =>
        have h0 : rdF M a.toNat 0 m = rdF M a.toNat 0 N := by congr 1; omega
        rw [h0]
        go_wp2_with fail
        go_ret2
        exact ⟨rfl, rfl⟩
      | succ j =>
        have hj : (((j + 1 : Nat) : Int) - 1) = (j : Int) := by omega
        rw [hj]
        have hadd : (a + BitVec.ofNat 64 j).toNat = a.toNat + j := add_nat (by omega)
        have hG := get_any wr g M h (a + BitVec.ofNat 64 j)
        rw [hadd] at hG
        have hj0 : 0 ≤ (j : Int) := by omega
        have hj8 : (j : Int) < 8 := by omega
        replace h := hide h
        clear hj hadd
        go_wp2_with fail
        go_at_call 27
        refine hG.mono ?_
        rintro e w2 ⟨rfl, rfl⟩
        go_wp2_with fail
        go_roundw
        case rel => exact ⟨j, m + 1, by omega, rfl, rfl, trivial⟩
        case measure =>
          show ((j : Int) - 1 + 1).toNat < ((j : Int) + 1).toNat
          omega
theorem wrF_succ (M : Nat → BitVec 8) (A : Nat) (v : BitVec 64) (k : Nat) : wrF M A v (k + 1) = updB (wrF M A v k) (A + k) ((v >>> (8 * k)).setWidth 8) := rfl
theorem own_trans {g : G} {bl1 bl2 : Nat → Option Nat} {n1 n2 : Nat} (h1 : ∀ b, (G.mk g.q g.m bl1).own b → g.own b ∨ n1 ≤ b) (h2 : ∀ b, (G.mk g.q g.m bl2).own b → (G.mk g.q g.m bl1).own b ∨ n2 ≤ b) (h : n1 ≤ n2) : ∀ b, (G.mk g.q g.m bl2).own b → g.own b ∨ n1 ≤ b := fun b hb => by
  rcases h2 b hb with h3 | h3
  · exact h1 b h3
  · exact .inr (Nat.le_trans h h3)
theorem Kept.own {g : G} {bl' : Nat → Option Nat} {w w1 w2 : World} (h1 : Kept g.own w w1) (ho : ∀ b, (G.mk g.q g.m bl').own b → g.own b ∨ w.heap.size ≤ b) (h2 : Kept (G.mk g.q g.m bl').own w1 w2) : Kept g.own w w2 :=
  h1.start (h2.mono ho)
theorem Write_any (w : World) (g : G) (M : Nat → BitVec 8) (h : Held w g M) (a : BitVec 64) (n : Int) (v : BitVec 64) :
    Calls Try.prog 12 #[.pointer (some ⟨g.q, 0, none⟩), .int .u64 (U a), .int .i64 n, .int .u64 (U v)] w fun e w' => e = .returned (.bool (hasS a n)) ∧ ∃ bl', Held w' ⟨g.q, g.m, bl'⟩ (wrN M a n v) ∧ Kept g.own w w' ∧ ∀ b, (G.mk g.q g.m bl').own b → g.own b ∨ w.heap.size ≤ b := by
  have hH := Has_any w (.pointer (some ⟨g.q, 0, none⟩)) a n
  cases hh : hasS a n
  · rw [hh] at hH
    have hwr : wrN M a n v = M := by unfold wrN; rw [hh]; rfl
    rw [hwr]
    clear hwr hh
    replace h := hide h
    go_enter Try.func12, Try.ntmps12
    go_wp2_with fail
    go_at_call 16
    refine hH.mono ?_
    rintro e w' ⟨rfl, rfl⟩
    go_wp2_with fail
    go_ret
    exact ⟨rfl, g.bl, h.out, Kept.refl _ _, fun b hb => .inl hb⟩
  · rw [hh] at hH
    obtain ⟨N, rfl, hN1, hN8, hlo, hhi⟩ := has_nat hh
    have hwr : wrN M a N v = wrF M a.toNat v N := by unfold wrN; rw [hh]; rfl
    rw [hwr]
    clear hwr hh
    go_enter Try.func12, Try.ntmps12
    go_wp2_with fail
    go_at_call 16
    refine hH.mono ?_
    rintro e w' ⟨rfl, rfl⟩
    have h1N : 1 ≤ (N : Int) := by omega
    have h8N : (N : Int) ≤ 8 := by omega
    go_wp2_with fail
    go_loopw [16] (fun iv wr => ∃ (j : Nat) (bl' : Nat → Option Nat), j ≤ N ∧ iv = .int .i64 j ∧ Held wr ⟨g.q, g.m, bl'⟩ (wrF M a.toNat v j) ∧ Kept g.own w' wr ∧ ∀ b, (G.mk g.q g.m bl').own b → g.own b ∨ w'.heap.size ≤ b) (fun iv _ => N - (intOf iv).toNat)
    case atStart => exact ⟨0, g.bl, Nat.zero_le _, rfl, h, Kept.refl _ _, fun b hb => .inl hb⟩
    case round =>
      obtain ⟨j, bl', hjN, rfl, hj, hk, ho⟩ := hrel
      by_cases hlt : j < N
      · have hadd : (a + BitVec.ofNat 64 j).toNat = a.toNat + j := add_nat (by omega)
        have hP := put_any wr ⟨g.q, g.m, bl'⟩ _ hj (a + BitVec.ofNat 64 j) (by unfold InP; omega) ((v >>> (8 * j)).setWidth 8)
        rw [hadd] at hP
        have hj0 : (j : Int) < N := by omega
        have hj8 : (j : Int) < 8 := by omega
        have hjp : 0 ≤ (j : Int) := by omega
        have hmul : (8 : Int) * (j : Int) = ((8 * j : Nat) : Int) := by omega
        have hm8 : ((8 * j : Nat) : Int) < 64 := by omega
        replace h := hide h
        replace hj := hide hj
        clear hadd
        have hw := wrF_succ M a.toNat v j
        rw [← hw] at hP
        clear hw
        generalize 8 * j = j8 at *
        go_wp2_with fail
        go_at_call 25
        refine hP.mono ?_
        rintro e w2 ⟨rfl, bl2, h2, k2, o2⟩
        have hk2 : Kept g.own w' w2 := hk.own ho k2
        have ho2 := own_trans ho o2 hk.size
        clear hk ho hP k2 o2 h
        have hms : N - (j + 1) < N - j := by omega
        go_wp2_with fail
        go_roundw
        case rel => exact ⟨j + 1, bl2, hlt, by simp, h2, hk2, ho2⟩
        case measure => 
          show N - ((j : Int) + 1).toNat < N - (j : Int).toNat
          exact hms
      · obtain rfl : j = N := by omega
        go_wp2_with fail
        go_ret
        exact ⟨rfl, bl', hj, hk, ho⟩
end Go.Proofs.Ytnbifbllemcjfaa
