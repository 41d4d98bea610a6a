/-
  pdqsort and slices.Sort at uint64: what is sorted is a sorted permutation of what it was.
-/
import Derived.Test.YtpflodhnniochaaSortG
import Derived.Deep.Cut
import Derived.Sort.LotD3
namespace Go.Proofs.Ytpflodhnniochaa
set_option linter.unusedVariables false
open Go.RowKit Go.Sort
/-- Whatever sorts [x, y) of k sorts [a, e) of d. -/
def Gives (a e : Nat) (d : Array Int) (x y : Nat) (k : Array Int) : Prop := ∀ R, PermIn x y k R → SortedIn ltInt x y R → PermIn a e d R ∧ SortedIn ltInt a e R
theorem Gives.perm {a e x y : Nat} {d k k' : Array Int} (h : Gives a e d x y k) (p : PermIn x y k k') : Gives a e d x y k' := fun R h1 h2 => h R (permIn_trans _ _ _ _ _ p h1) h2
/-- The state of a call: its row permuted between x and y since the round's start, all else as it was. -/
def Mid (w w' : World) (b x y : Nat) (k k' : Array Int) : Prop := PermIn x y k k' ∧ RowI w' b k' ∧ Kept (fun i => i = b) w w'
theorem Mid.then {w w' w'' : World} {b x y : Nat} {k k' k'' : Array Int} (h : Mid w w' b x y k k') (p : PermIn x y k' k'') (r : RowI w'' b k'') (q : Kept (fun i => i = b) w' w'') : Mid w w'' b x y k k'' :=
  ⟨permIn_trans _ _ _ _ _ h.1 p, r, h.2.2.trans q⟩
theorem Mid.size {w w' : World} {b x y : Nat} {k k' : Array Int} (h : Mid w w' b x y k k') : k'.size = k.size := h.1.1
theorem Mid.same {w w' w'' : World} {b x y : Nat} {k k' : Array Int} (h : Mid w w' b x y k k') (r : RowI w'' b k') (q : Still w' w'') : Mid w w'' b x y k k' := ⟨h.1, r, h.2.2.still q⟩
theorem eighth (x y p q : Nat) (h1 : q ≤ p) (h2 : y ≤ x) : True := trivial

set_option maxHeartbeats 6400000 in
set_option maxRecDepth 1000000 in
theorem Pdq_any : ∀ (N : Nat) (w : World) (b c a e lim0 : Nat) (d : Array Int), RowI w b d → a ≤ e → e ≤ d.size → d.size < 1000000 → lim0 < 1000 → Go.Sort.Below ltInt a e d → e - a < N →
    Calls Try.prog 35 #[.slice (some ⟨b, 0, none⟩) d.size c, .int .i64 a, .int .i64 e, .int .i64 lim0] w fun r w' => r = .returned (.tuple #[]) ∧ ∃ d', PermIn a e d d' ∧ SortedIn ltInt a e d' ∧ Turns w w' b d' := by
  intro N
  induction N with
  | zero => intro _ _ _ _ _ _ _ _ _ _ _ _ _ h; exact absurd h (Nat.not_lt_zero _)
  | succ N ih =>
    intro w b c a e lim0 d h hae hed hsz hl0 hB hN
    obtain ⟨n, hn⟩ : ∃ n, n = d.size := ⟨_, rfl⟩
    rw [← hn] at hed hsz ⊢
    replace hn := hide hn
    have hG0 : Gives a e d a e d := fun R h1 h2 => ⟨h1, h2⟩
    replace hG0 := hide hG0
    replace hB := hide hB
    replace ih := hide ih
    go_enter Try.func35, Try.ntmps35
    go_wp2_with fail
    go_loopw [1, 2, 3, 8, 9] (fun v1 v2 v3 v8 v9 wr => ∃ (x y lim : Nat) (wb wp : Bool) (k : Array Int), v1 = .int .i64 x ∧ v2 = .int .i64 y ∧ v3 = .int .i64 lim ∧ v8 = .bool wb ∧ v9 = .bool wp ∧
      x ≤ y ∧ y ≤ n ∧ y - x ≤ e - a ∧ lim ≤ lim0 ∧ k.size = n ∧ Hid (Go.Sort.Below ltInt x y k) ∧ RowI wr b k ∧ Hid (Gives a e d x y k) ∧ Kept (fun i => i = b) w wr) (fun v1 v2 _ _ _ _ => (intOf v2 - intOf v1).toNat)
    case atStart => exact ⟨a, e, lim0, true, true, d, rfl, rfl, rfl, rfl, rfl, hae, by omega, Nat.le_refl _, Nat.le_refl _, hn.out.symm, hB, h, hG0, Kept.refl _ _⟩
    case round =>
      clear h hG0 hB
      obtain ⟨x, y, lim, wb, wp, k, rfl, rfl, rfl, rfl, rfl, hxy, hyn, hle, hlim, hsk, hB, hr, hG, hK⟩ := hrel
      generalize wr = w0 at *
      have hx5 : (x : Int) < 1000000 := by omega
      have hy5 : (y : Int) < 1000000 := by omega
      by_cases h12 : y - x ≤ 12
      · have h12z : (y : Int) - (x : Int) ≤ 12 := by omega
        have hc := Ins_any w0 b c x y k hr hxy (by omega) (by omega)
        rw [hsk] at hc
        have hS := insertionSort_holds swo_ltInt k x y hxy (by omega)
        replace hS := hide hS
        go_wp2_with (go_at_call 37; refine hc.mono ?_; rintro r w1 ⟨rfl, hr1, hK1⟩)
        (try simp only [Exit.inBlock, Exit.then]); refine bodyPost_ret (results_none rfl _ _ _) rfl ?_
        obtain ⟨g1, g2⟩ := hG.out _ hS.out.1 hS.out.2
        exact ⟨rfl, _, g1, g2, hr1, hK.trans hK1⟩
      · have h12z : ¬ ((y : Int) - (x : Int) ≤ 12) := by omega
        by_cases hl : lim = 0
        · have hlz : (lim : Int) = 0 := by omega
          have hc := Heap_any w0 b c x y k hr (by omega) (by omega) (by omega)
          rw [hsk] at hc
          have hS := heapSort_holds swo_ltInt k x y hxy (by omega)
          replace hS := hide hS
          go_wp2_with (go_at_call 38; refine hc.mono ?_; rintro r w1 ⟨rfl, hr1, hK1⟩)
          (try simp only [Exit.inBlock, Exit.then]); refine bodyPost_ret (results_none rfl _ _ _) rfl ?_
          obtain ⟨g1, g2⟩ := hG.out _ hS.out.1 hS.out.2
          exact ⟨rfl, _, g1, g2, hr1, hK.trans hK1⟩
        · have hlz : ((lim : Int) == 0) = false := by simp; omega
          have h12d : decide ((y : Int) - (x : Int) ≤ 12) = false := by simp; omega
          have hM0 : Mid w0 w0 b x y k k := ⟨permIn_refl _ _ _, hr, Kept.refl _ _⟩
          -- 'if !wasBalanced': the ways meet
          go_upto_if 35 with fail
          go_cut [3] from 19 (fun s3 wc => ∃ (l1 : Nat) (k1 : Array Int), s3 = .int .i64 l1 ∧ l1 ≤ lim ∧ Mid w0 wc b x y k k1)
          case first =>
            cases wb
            · have hc := Break_any w0 b c x y k hr (by omega) (by omega) (by omega)
              rw [hsk] at hc
              simp only [Bool.not_false]
              go_wp2_with (go_at_call 39; refine hc.mono ?_; rintro r w1 ⟨rfl, k1, hP1, hr1, hK1⟩)
              go_meet
              case rel => exact ⟨lim - 1, k1, by congr 1; omega, by omega, hM0.then hP1 hr1 hK1⟩
            · simp only [Bool.not_true]
              go_wp2_with fail
              go_meet
              case rel => exact ⟨lim, k, rfl, Nat.le_refl _, hM0⟩
          case rest =>
            obtain ⟨l1, k1, rfl, hl1, hM1⟩ := hcut
            clear hM0
            have hs1 : k1.size = n := hM1.size.trans hsk
            have hc := Pivot_any wc b c x y k1 hM1.2.1 (by omega) (by omega) (by omega)
            rw [hs1] at hc
            go_upto_if 50 with (go_at_call 40; refine hc.mono ?_; rintro r w2 ⟨⟨p, hint, rfl, hp1, hp2⟩, hr2, hK2⟩)
            have hM2 := hM1.same hr2 hK2
            clear hc hr2 hK2
            -- 'if hint == decreasingHint': the ways meet
            go_cut [11, 12] from 19 (fun s11 s12 wc => ∃ (p hint : Nat) (k2 : Array Int), s11 = .int .i64 p ∧ s12 = .int .i64 hint ∧ x ≤ p ∧ p < y ∧ Mid w0 wc b x y k k2)
            case first =>
              by_cases hh : (hint : Int) = 2
              · have hc := Rev_any w2 b c x y k1 hM2.2.1 (by omega) (by omega) (by omega)
                rw [hs1] at hc
                have hh2 : ((hint : Int) == 2) = true := by simp; omega
                simp only [hh2]
                go_wp2_with (go_at_call 41; refine hc.mono ?_; rintro r w3 ⟨rfl, k2, hP2, hr3, hK3⟩)
                go_meet
                case rel => exact ⟨y - 1 - (p - x), 1, k2, by congr 1; omega, rfl, by omega, by omega, hM2.then hP2 hr3 hK3⟩
              · have hh2 : ((hint : Int) == 2) = false := by simp; omega
                simp only [hh2]
                go_wp2_with fail
                go_meet
                case rel => exact ⟨p, hint, k1, rfl, rfl, hp1, hp2, hM2⟩
            case rest =>
              clear hM1 hM2 hs1 hp1 hp2
              obtain ⟨p, hint, k2, rfl, rfl, hp1, hp2, hM2⟩ := hcut
              have hs2 : k2.size = n := hM2.size.trans hsk
              go_upto_region 15 with fail
              go_cut [12, 68] from 19 (fun s12 s68 wx => ∃ z : Bool, s68 = .bool z ∧ wx = wc)
              case first =>
                by_cases hh : (hint : Int) = 1
                · cases wb <;> cases wp <;> (go_wp2_with fail; go_meet; exact ⟨_, rfl, rfl⟩)
                · cases wb <;> cases wp <;> (go_wp2_with fail; go_meet; exact ⟨_, rfl, rfl⟩)
              case rest =>
                obtain ⟨z, rfl, rfl⟩ := hcut
                go_upto_if 68 with fail
                go_cut [] from 19 (fun wx => ∃ k3, Mid w0 wx b x y k k3)
                case first =>
                  cases z
                  · go_wp2_with fail
                    go_meet
                    case rel => exact ⟨k2, hM2⟩
                  · have hc := Pins_any wc b c x y k2 hM2.2.1 (by omega) (by omega) (by omega)
                    rw [hs2] at hc
                    obtain ⟨q1, q2⟩ := partialInsertionSort_holds swo_ltInt k2 x y (by omega) (by omega) (hB.out.perm (by omega) hM2.1)
                    cases hpi : (partialInsertionSort ltInt k2 x y).2
                    · rw [hpi] at hc
                      clear q2
                      go_wp2_with (go_at_call 42; refine hc.mono ?_; rintro r w4 ⟨rfl, hr4, hK4⟩)
                      go_meet
                      case rel => exact ⟨_, hM2.then q1 hr4 hK4⟩
                    · rw [hpi] at hc
                      replace q2 := hide (q2 hpi)
                      go_wp2_with (go_at_call 42; refine hc.mono ?_; rintro r w4 ⟨rfl, hr4, hK4⟩)
                      (try simp only [Exit.inBlock, Exit.then]); refine bodyPost_ret (results_none rfl _ _ _) rfl ?_
                      have hM4 := hM2.then q1 hr4 hK4
                      obtain ⟨g1, g2⟩ := hG.out _ hM4.1 q2.out
                      exact ⟨rfl, _, g1, g2, hr4, hK.trans hM4.2.2⟩
                case rest =>
                  clear hM2 hs2
                  obtain ⟨k3, hM3⟩ := hcut
                  have hs3 : k3.size = n := hM3.size.trans hsk
                  have hr3 := hM3.2.1
                  have hp5 : (p : Int) < (n : Int) := by omega
                  have hp6 : 0 ≤ (p : Int) := by omega
                  have yp : ∀ m, (wc.drewN m).cell? ⟨b, p, none⟩ = some (.int .u64 (el k3 p)) := fun m => hr3.cell (by omega)
                  go_upto_region 17 with fail
                  go_cut [87] from 19 (fun s87 wx => ∃ z : Bool, s87 = .bool z ∧ (z = true → 0 < x ∧ ltInt k3[x - 1]! k3[p]! = false) ∧ Mid w0 wx b x y k k3)
                  case first =>
                    rcases Nat.eq_zero_or_pos x with hx0 | hx0
                    · have hx0z : decide ((0 : Int) < (x : Int)) = false := decide_eq_false (by omega)
                      go_quiet ((go_at_call 43; exact Calls.quiet_of_same (Less_any _ _ _)))
                      go_wp2_with fail
                      go_meet
                      case rel => exact ⟨false, by simp, (fun e => Bool.noConfusion e), hM3.same (hr3.on (still_drewN wc nq)) (still_drewN wc nq)⟩
                    · obtain ⟨q, hq⟩ : ∃ q, x = q + 1 := ⟨x - 1, by omega⟩
                      have hxm : (x : Int) - 1 = (q : Int) := by omega
                      have yq : ∀ m, (wc.drewN m).cell? ⟨b, q, none⟩ = some (.int .u64 (el k3 q)) := fun m => hr3.cell (by omega)
                      have hq5 : (q : Int) < (n : Int) := by omega
                      have hq6 : 0 ≤ (q : Int) := by omega
                      have hx0z : decide ((0 : Int) < (x : Int)) = true := decide_eq_true (by omega)
                      replace hq := hide hq
                      go_quiet ((go_at_call 43; exact Calls.quiet_of_same (Less_any _ _ _)))
                      go_wp2_with fail
                      go_meet
                      case rel =>
                      refine ⟨!ltInt (el k3 q) (el k3 p), rfl, fun e => ⟨hx0, ?_⟩, hM3.same (hr3.on (still_drewN wc nq)) (still_drewN wc nq)⟩
                      rw [show x - 1 = q by have hq := hq.out; omega]
                      have e2 : ltInt (el k3 q) (el k3 p) = false := by simpa using e
                      exact e2
                  case rest =>
                    clear yp hr3 hM3
                    obtain ⟨z, rfl, hz, hM3⟩ := hcut
                    cases z
                    · -- the partition
                      obtain ⟨mid, ap, k4, hx⟩ : ∃ mid ap k4, partition ltInt k3 x y p = (mid, ap, k4) := ⟨(partition ltInt k3 x y p).1, (partition ltInt k3 x y p).2.1, (partition ltInt k3 x y p).2.2, rfl⟩
                      have hG3 := hG.out.perm hM3.1
                      obtain ⟨-, -, pm, -, -⟩ := partition_holds ltInt swo_ltInt k3 x y p hp1 hp2 (by omega)
                      rw [hx] at pm
                      obtain ⟨r1, r2, r3, r4, r5, r6, r7⟩ := round_part swo_ltInt (partition_holds ltInt) hp1 hp2 (show y ≤ k3.size by omega) (hB.out.perm (by omega) hM3.1) hx
                      have hc := Part_any wc b c x y p k3 hM3.2.1 hp1 hp2 (by omega) (by omega)
                      rw [hs3, hx] at hc
                      replace hx := hide hx
                      replace pm := hide pm
                      replace r6 := hide r6
                      replace r7 := hide r7
                      replace hG3 := hide hG3
                      have hs4 : k4.size = n := r3.trans hs3
                      replace r4 := hide r4
                      replace r5 := hide r5
                      clear hz
                      go_upto_if 113 with (go_at_call 45; refine hc.mono ?_; rintro r w7 ⟨rfl, hr7, hK7⟩)
                      have hK8 := hK.trans (hM3.2.2.trans hK7)
                      clear hc
                      by_cases h4 : mid - x < y - mid
                      · have h4z : (mid : Int) - (x : Int) < (y : Int) - (mid : Int) := by omega
                        have hih := ih.out w7 b c x mid l1 k4 hr7 r1 (by omega) (by omega) (by omega) r4.out (by omega)
                        rw [hs4] at hih
                        simp only [decide_eq_true h4z]
                        go_wp2_with (go_at_call 35; refine hih.mono ?_; rintro r w8 ⟨rfl, k5, p5, s5, hr8, hK9⟩)
                        go_roundw
                        case rel =>
                          obtain ⟨b5, g5⟩ := r6.out k5 p5 s5
                          exact ⟨mid + 1, y, l1, _, ap, k5, by simp, rfl, rfl, rfl, rfl, by omega, by omega, by omega, by omega, p5.1.trans hs4, hide b5, hr8, hide (fun R q1 q2 => (fun u => hG3.out R u.1 u.2) (g5 R q1 q2)), hK8.trans hK9⟩
                        case measure => simp [intOf]; omega
                      · have h4z : ¬ ((mid : Int) - (x : Int) < (y : Int) - (mid : Int)) := by omega
                        have hih := ih.out w7 b c (mid + 1) y l1 k4 hr7 (by omega) (by omega) (by omega) (by omega) r5.out (by omega)
                        rw [hs4] at hih
                        have hm1 : ((mid + 1 : Nat) : Int) = (mid : Int) + 1 := by omega
                        rw [hm1] at hih
                        clear hm1
                        simp only [decide_eq_false h4z]
                        go_wp2_with (go_at_call 35; refine hih.mono ?_; rintro r w8 ⟨rfl, k5, p5, s5, hr8, hK9⟩)
                        go_roundw
                        case rel =>
                          obtain ⟨b5, g5⟩ := r7.out k5 p5 s5
                          exact ⟨x, mid, l1, _, ap, k5, rfl, rfl, rfl, rfl, rfl, by omega, by omega, by omega, by omega, p5.1.trans hs4, hide b5, hr8, hide (fun R q1 q2 => (fun u => hG3.out R u.1 u.2) (g5 R q1 q2)), hK8.trans hK9⟩
                        case measure => simp [intOf]; omega
                    · -- the partition by equals
                      obtain ⟨hx0, hnl⟩ := hz rfl
                      obtain ⟨mid, k4, hx⟩ : ∃ mid k4, partitionEqual ltInt k3 x y p = (mid, k4) := ⟨(partitionEqual ltInt k3 x y p).1, (partitionEqual ltInt k3 x y p).2, rfl⟩
                      have hG3 := hG.out.perm hM3.1
                      obtain ⟨r1, r2, r3, r4, r5⟩ := round_eq swo_ltInt (partitionEqual_holds ltInt) hx0 hp1 hp2 (show y ≤ k3.size by omega) (hB.out.perm (by omega) hM3.1) hnl hx
                      have hc := PartEq_any wc b c x y p k3 hM3.2.1 hp1 hp2 (by omega) (by omega)
                      rw [hs3, hx] at hc
                      replace hx := hide hx
                      replace r4 := hide r4
                      replace r5 := hide r5
                      replace hG3 := hide hG3
                      have hs4 : k4.size = n := r3.trans hs3
                      clear hz hnl
                      go_wp2_with (go_at_call 44; refine hc.mono ?_; rintro r w7 ⟨rfl, hr7, hK7⟩)
                      go_roundw
                      case rel => exact ⟨mid, y, l1, wb, wp, k4, rfl, rfl, rfl, rfl, rfl, r2, by omega, by omega, by omega, hs4, r4, hr7, hide (fun R q1 q2 => (fun u => hG3.out R u.1 u.2) (r5.out R q1 q2)), hK.trans (hM3.2.2.trans hK7)⟩
                      case measure => simp [intOf]; omega
end Go.Proofs.Ytpflodhnniochaa
