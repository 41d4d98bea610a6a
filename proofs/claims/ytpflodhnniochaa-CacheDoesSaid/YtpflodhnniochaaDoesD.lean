/-
  The reference's cache: Has, Under.
-/
import Derived.Test.YtpflodhnniochaaDoesC
namespace Go.Proofs.Ytpflodhnniochaa
set_option linter.unusedVariables false
open Go.RowKit Go.Maps

set_option maxRecDepth 100000 in
set_option maxHeartbeats 4000000 in
theorem HasR_any (w : World) (g : R) (s : St) (x : BitVec 64) (h : HeldR w g s) (hc : Co s) :
    Calls Try.prog 17 #[.pointer (some ⟨g.c, 0, none⟩), .int .u64 (U x)] w fun e w' =>
      e = .returned (.tuple #[.bool (hasS s (x / 64#64)).1, .bool (hasS s (x / 64#64)).2]) ∧ Still w w' := by
  have hw8 := hc.ok.ways.2
  go_enter Try.func17, Try.ntmps17
  go_wp2_with fail
  go_at_call 27
  refine (Set_any w g s _ h hc.ok).mono ?_
  rintro e w1 ⟨rfl, k1⟩
  have h1 := h.still k1
  have hi := set_lt hc.ok (x / 64#64)
  have hrow := h1.r _ hi
  have hfy := hide (fun (n : Nat) (hn : s.wh (x / 64#64) = some n) => find_yes hc hn)
  have hfn := hide (fun (hn : s.wh (x / 64#64) = none) => find_no hc hn)
  generalize ((x / 64#64) % s.m).toNat = i at hi hrow hfy hfn ⊢
  clear h
  unfold aR
  go_wp2_with fail
  go_at_call 28
  refine (Find_any w1 _ _ _ _ _ (x / 64#64) hrow hw8).mono ?_
  rintro e w' ⟨rfl, rfl⟩
  cases hwh : s.wh (x / 64#64) with
  | some n =>
    obtain ⟨j, hj, rfl, hf⟩ := hfy.out n hwh
    rw [hf]
    have hb : 0 ≤ (j : Int) := by omega
    have hb2 : (j : Int) < (s.ways : Int) := by omega
    have d2 : w1.cell? ⟨g.row i, j * 4 + 2, none⟩ = some (.bool (s.pl (i * s.ways + j)).written) := hrow.cell j 2 hj (by decide)
    have hans := hide (has_wh hwh)
    clear hfy hfn hrow hf hwh
    unfold optV
    go_wp2
    go_quiet (fail)
    go_wp2
    go_ret2
    rw [hans.out]
    exact ⟨rfl, k1.drewN _⟩
  | none =>
    rw [hfn.out hwh]
    have hans := hide (has_no hwh)
    clear hfy hfn hrow hwh
    unfold optV
    go_wp2
    go_quiet (fail)
    go_wp2
    go_ret2
    rw [hans.out]
    exact ⟨rfl, k1.drewN _⟩
theorem UnderR_any (w : World) (g : R) (s : St) (h : HeldR w g s) (hok : Ok s) :
    Calls Try.prog 19 #[.pointer (some ⟨g.c, 0, none⟩)] w fun e w' => e = .returned (.int .i64 (underS s s.ns : Nat)) ∧ w = w' := by
  have c1 := h.cf.c1
  have hn8 := hok.ns.2
  go_enter Try.func19, Try.ntmps19
  go_wp2
  go_loop [3, 4] (fun nv iv => ∃ k : Nat, k ≤ s.ns ∧ iv = .int .i64 k ∧ nv = .int .i64 (underS s k : Nat)) (fun _ iv => s.ns - (intOf iv).toNat)
  case atStart => exact ⟨0, Nat.zero_le _, rfl, rfl⟩
  case round =>
    obtain ⟨k, hk, rfl, rfl⟩ := hrel
    by_cases hlt : k < s.ns
    · have hms := meas_succ2 hlt
      have hk1 : k + 1 ≤ s.ns := hlt
      have e1 := h.s.cell k 1 hlt (by decide)
      simp only [slV] at e1
      have hb : 0 ≤ (k : Int) := by omega
      have hb2 : ((k : Nat) : Int) < (s.ns : Nat) := by omega
      have hu := under_le s k
      have hu2 : ((underS s k : Nat) : Int) ≤ 8 := by omega
      cases i1 : (s.sl k).is <;> rw [i1] at e1
      all_goals
        go_wp2
        go_round
        case rel => exact ⟨k + 1, hk1, by simp, by simp [underS, i1]⟩
        case measure => exact hms
    · obtain rfl : k = s.ns := by omega
      go_wp2
      go_ret
      exact ⟨rfl, rfl⟩
end Go.Proofs.Ytpflodhnniochaa
