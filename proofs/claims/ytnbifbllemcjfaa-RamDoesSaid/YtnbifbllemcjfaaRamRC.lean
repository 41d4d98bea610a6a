/-
  The document's memory in the heap: zeros, Pages.
-/
import Derived.Test.YtnbifbllemcjfaaRamRB
namespace Go.Proofs.Ytnbifbllemcjfaa
set_option linter.unusedVariables false
open Go.RowKit Go.Maps

theorem all_stop {n k : Nat} {F : Nat → BitVec 8} (hk : k < n) (h : F k ≠ 0#8) : ((List.range n).all fun i => F i == 0#8) = false := by
  cases e : (List.range n).all fun i => F i == 0#8
  · rfl
  · rw [List.all_eq_true] at e
    have := e k (List.mem_range.2 hk)
    simp at this
    exact absurd this h
theorem all_done {n : Nat} {F : Nat → BitVec 8} (h : ∀ i, i < n → F i = 0#8) : ((List.range n).all fun i => F i == 0#8) = true := by
  rw [List.all_eq_true]
  intro i hi
  simp [h i (List.mem_range.1 hi)]
set_option maxRecDepth 20000 in
theorem zeros_row (w : World) (b n c : Nat) (F : Nat → BitVec 8) (hn : n ≤ 4096) (hc : ∀ i, i < n → w.cell? ⟨b, i, none⟩ = some (.int .u8 (U1 (F i)))) :
    Calls Try.prog 31 #[.slice (some ⟨b, 0, none⟩) n c] w fun e w' => e = .returned (.bool ((List.range n).all fun i => F i == 0#8)) ∧ Still w w' := by
  have hn1 : (n : Int) ≤ 4096 := by omega
  go_enter Try.func31, Try.ntmps31
  go_wp2_with fail
  go_loopw [3] (fun iv wr => ∃ j : Nat, j ≤ n ∧ iv = .int .i64 j ∧ (∀ i, i < j → F i = 0#8) ∧ wr = w) (fun iv _ => n - (intOf iv).toNat)
  case atStart => exact ⟨0, Nat.zero_le _, rfl, fun i hi => absurd hi (Nat.not_lt_zero _), rfl⟩
  case round =>
    obtain ⟨j, hj, rfl, hz, rfl⟩ := hrel
    by_cases hlt : j < n
    · have hcj := hc j hlt
      have hj0 : 0 ≤ (j : Int) := by omega
      have hj1 : (j : Int) < (n : Int) := by omega
      have hms := meas_k hlt
      replace hc := hide hc
      replace hz := hide hz
      by_cases hF : F j = 0#8
      · have hu : U1 (F j) = 0 := by rw [hF]; rfl
        rw [hu] at hcj
        replace hF := hide hF
        clear hu
        go_wp2_with fail
        go_roundw
        case rel => exact ⟨j + 1, hlt, by simp, fun i hi => by
          rcases Nat.lt_succ_iff_lt_or_eq.1 hi with h | rfl
          · exact hz.out i h
          · exact hF.out, trivial⟩
        case measure => exact hms
      · have hu : (U1 (F j) == 0) = false := by
          have : ¬ U1 (F j) = 0 := fun e => hF (U1_inj.1 (e.trans (by rfl)))
          simpa using this
        have hst := all_stop hlt hF
        replace hF := hide hF
        generalize U1 (F j) = u at *
        go_wp2_with fail
        go_ret
        exact ⟨by rw [hst]; rfl, Kept.refl _ _⟩
    · obtain rfl : j = n := by omega
      have hirr : ¬ (j : Int) < (j : Int) := Int.lt_irrefl _
      have hdn := all_done hz
      replace hc := hide hc
      go_wp2_with fail
      go_ret
      exact ⟨rfl, Kept.refl _ _⟩
theorem zeros_empty (w : World) (z : Option Addr) (c : Nat) :
    Calls Try.prog 31 #[.slice z 0 c] w fun e w' => e = .returned (.bool true) ∧ Still w w' := by
  go_enter Try.func31, Try.ntmps31
  go_wp2_with fail
  go_loopw [3] (fun iv wr => iv = .int .i64 0 ∧ wr = w) (fun iv _ => 0)
  case atStart => exact ⟨rfl, rfl⟩
  case round =>
    obtain ⟨rfl, rfl⟩ := hrel
    go_wp2_with fail
    go_ret
    exact ⟨rfl, Kept.refl _ _⟩
theorem pageZ_all (M : Nat → BitVec 8) (n : Nat) : pageZ M n = (List.range 4096).all fun i => M (n * 4096 + i) == 0#8 := by
  rw [Bool.eq_iff_iff, pageZ_iff, List.all_eq_true]
  exact ⟨fun h i hi => by rw [h i (List.mem_range.1 hi)]; rfl, fun h i hi => by simpa using h i (List.mem_range.2 hi)⟩
theorem zeros_pg (w : World) (M : Nat → BitVec 8) (k : Nat) (v : Value) (h : PgR w M k v) :
    Calls Try.prog 31 #[v] w fun e w' => e = .returned (.bool (pageZ M (524288 + k))) ∧ Still w w' := by
  rcases h with ⟨z, c, rfl, hz⟩ | ⟨b, c, rfl, hr⟩
  · rw [pageZ_iff.2 hz]
    exact zeros_empty w z c
  · rw [pageZ_all]
    exact zeros_row w b 4096 c (fun i => M ((524288 + k) * 4096 + i)) (Nat.le_refl _) fun i hi => hr.cell hi
/-- The pages below k. -/
def upTo (M : Nat → BitVec 8) (k : Nat) : List Int := (((List.range k).map (· + 524288)).filter fun n => !pageZ M n).map fun n => ((n * 4096 : Nat) : Int)
theorem upTo_0 (M : Nat → BitVec 8) : upTo M 0 = [] := rfl
theorem upTo_all (M : Nat → BitVec 8) : upTo M 256 = pagesI M := by unfold upTo pagesI pagesL; exact congrArg _ rfl
theorem upTo_succ (M : Nat → BitVec 8) (k : Nat) : upTo M (k + 1) = upTo M k ++ (if pageZ M (524288 + k) then [] else [(((524288 + k) * 4096 : Nat) : Int)]) := by
  unfold upTo
  rw [List.range_succ, List.map_append, List.filter_append, List.map_append]
  refine congrArg _ ?_
  have e : k + 524288 = 524288 + k := by omega
  simp only [List.map_cons, List.map_nil, e, List.filter_cons, List.filter_nil]
  cases pageZ M (524288 + k) <;> rfl
theorem upTo_len (M : Nat → BitVec 8) (k : Nat) : (upTo M k).length ≤ k := by
  unfold upTo
  rw [List.length_map]
  exact Nat.le_trans (List.length_filter_le _ _) (by simp)
set_option maxRecDepth 20000 in
theorem RPages_any (w : World) (g : GR) (M : Nat → BitVec 8) (h : HeldR w g M) :
    Calls Try.prog 19 #[.pointer (some ⟨g.q, 0, none⟩)] w fun e w' => ∃ v, e = .returned v ∧ NRow w' w.heap.size v (pagesI M) ∧ Still w w' := by
  obtain ⟨i0, hi, hz0, hz1, hz2⟩ := info_parts infoW
  go_enter Try.func19, Try.ntmps19
  go_wp2_with fail
  have hrow0 : NRow (w.alloc (.cells #[] 30)) w.heap.size (.slice (some ⟨w.heap.size, 0, none⟩) 0 0) (upTo M 0) := World.ownsRow_made w #[] 0 (Nat.le_refl _) (Nat.zero_le _) rfl
  have k0 : Still w (w.alloc (.cells #[] 30)) := (Kept.refl _ _).alloc _
  generalize w.alloc (.cells #[] 30) = w0 at *
  go_loopw [3, 4] (fun ov iv wr => ∃ k : Nat, k ≤ 256 ∧ iv = .int .i64 k ∧ NRow wr w.heap.size ov (upTo M k) ∧ Still w wr) (fun _ iv _ => 256 - (intOf iv).toNat)
  case atStart => exact ⟨0, Nat.zero_le _, rfl, hrow0, k0⟩
  case round =>
    clear hrow0 k0
    obtain ⟨k, hk, rfl, hrow, hst⟩ := hrel
    by_cases hlt : k < 256
    · have hw := h.still hst
      have q0 := hw.p0
      have pk := hw.p.cell hlt
      have hpg := hw.pg k hlt
      have hk0 : 0 ≤ (k : Int) := by omega
      have hk1 : (k : Int) < 256 := by omega
      have hms := meas_k hlt
      have hsc := upTo_succ M k
      have hZ := zeros_pg wr M k _ hpg
      have hln := upTo_len M k
      replace hsc := hide hsc
      obtain ⟨z4, c4, rfl, hc4, hm4, -⟩ := hrow.nums
      clear hw
      generalize g.tab k = tv at *
      go_wp2_with fail
      go_at_call 31
      refine hZ.mono ?_
      rintro e w2 ⟨rfl, k2⟩
      have hst2 := hst.trans k2
      have hrow2 := hrow.still k2
      clear hrow hpg hZ pk q0 k2 hst
      cases hz : pageZ M (524288 + k)
      · have hmul : (4096 : Int) * (k : Int) = ((4096 * k : Nat) : Int) := by omega
        have hval : U (2147483648#64 + BitVec.ofNat 64 (4096 * k)) = (((524288 + k) * 4096 : Nat) : Int) := by
          unfold U
          have e1 : (2147483648#64).toNat = 2147483648 := by decide
          have e2 : (BitVec.ofNat 64 (4096 * k)).toNat = 4096 * k := by rw [BitVec.toNat_ofNat]; omega
          rw [BitVec.toNat_add, e1, e2]
          omega
        have q1 : (upTo M k).length + 1 ≤ maxLen := by rw [maxLen_is]; omega
        have q2 : ((upTo M k).length + 1) * 8 ≤ 140737488355328 := by omega
        have q3 : w.heap.size ≤ w2.heap.size + 1 := by have := hst2.size; omega
        rw [hz] at hsc
        replace hval := hide hval
        have hkk : ((4096 * k : Nat) : Int) < 9223372036854775808 := by omega
        generalize 4096 * k = kk at *
        go_wp2_with (at_builtin; refine wpList_append_own_at _ rfl _ _ 37 rfl w.heap.size 30 i0 (.int .u64 0) 1 8 Try.underlying37 hi hz0 hz1 hz2 rfl (by decide) _ _ _ rfl (World.ownsRow.alloc hrow2 _) ⟨w2.heap.size, 0, none⟩ 1 1 [.int .u64 (U (2147483648#64 + BitVec.ofNat 64 kk))] rfl rfl (cell_one_new _ _ _) (fun u hu => by simp at hu; subst hu; rfl) q1 q2 (by rw [World.size_alloc]; exact q3) ?_; intro v' w3 hown' hg3 hnil' hloc; go_frame)
        have hst3 : Still w w3 := (hst2.alloc _).grown hg3 (fun p hp => .inr (hrow2.lt p hp).1)
        have hrow3 : NRow w3 w.heap.size v' (upTo M (k + 1)) := by
          rw [hsc.out]
          show NRow w3 w.heap.size v' (upTo M k ++ [(((524288 + k) * 4096 : Nat) : Int)])
          unfold NRow
          rw [List.length_append, List.length_singleton, List.map_append]
          rw [hval.out] at hown'
          exact hown'
        go_roundw
        case rel => exact ⟨k + 1, hlt, by simp, hrow3, hst3⟩
        case measure => exact hms
      · rw [hz] at hsc
        go_wp2_with fail
        go_roundw
        case rel => exact ⟨k + 1, hlt, by simp, by rw [hsc.out]; simpa using hrow2, hst2⟩
        case measure => exact hms
    · obtain rfl : k = 256 := by omega
      rw [upTo_all] at hrow
      have q0 := (h.still hst).p0
      have hirr : ¬ ((256 : Nat) : Int) < 256 := by omega
      obtain ⟨z4, c4, rfl, hc4, hm4, -⟩ := hrow.nums
      go_wp2_with fail
      go_ret
      exact ⟨_, rfl, hrow, hst⟩
end Go.Proofs.Ytnbifbllemcjfaa
