/-
  The partition by equals. This text is printed by gen_sortd.py.
-/
import Derived.Test.YtpflodhnniochaaSortC
namespace Go.Proofs.Ytpflodhnniochaa
set_option linter.unusedVariables false
open Go.RowKit Go.Sort
theorem peq_break (a i j : Nat) (dk : Array Int) {i2 j2 : Nat} (hi2 : i2 = scanUp (fun x => !ltInt (el dk a) x) dk j i) (hj2 : j2 = scanDown (fun x => ltInt (el dk a) x) dk i2 j) (h : j2 < i2) : partEqLoop ltInt a i j dk = (i2, dk) := by
  subst hi2; subst hj2
  unfold el at *
  rw [partEqLoop_eq, if_pos h]
theorem peq_go (a i j : Nat) (dk : Array Int) {i2 j2 : Nat} (hi2 : i2 = scanUp (fun x => !ltInt (el dk a) x) dk j i) (hj2 : j2 = scanDown (fun x => ltInt (el dk a) x) dk i2 j) (h : ¬ i2 > j2) : partEqLoop ltInt a i j dk = partEqLoop ltInt a (i2 + 1) (j2 - 1) (swp dk i2 j2) := by
  subst hi2; subst hj2
  unfold el at *
  rw [partEqLoop_eq, if_neg h]
set_option maxRecDepth 20000 in
set_option maxHeartbeats 8000000 in
theorem PartEq_any (w : World) (b c a e pv : Nat) (d : Array Int) (h : RowI w b d) (hap : a ≤ pv) (hpe : pv < e) (hed : e ≤ d.size) (hsz : d.size < 1000000) :
    Calls Try.prog 44 #[.slice (some ⟨b, 0, none⟩) d.size c, .int .i64 a, .int .i64 e, .int .i64 pv] w fun r w' => r = .returned (.int .i64 (partitionEqual ltInt d a e pv).1) ∧ Turns w w' b (partitionEqual ltInt d a e pv).2 := by
  have y0 := h.cell (i := a) (by omega)
  have y1 := h.cell (i := pv) (by omega)
  have z0 := h.frozen a
  have z1 := h.frozen pv
  have y2 := (h.set (i := a) (by omega) (el d pv)).cell (i := pv) (by simp; omega)
  have z2 := (h.set (i := a) (by omega) (el d pv)).frozen pv
  have hd1 : (a : Int) < (d.size : Int) := by omega
  have hd2 : (pv : Int) < (d.size : Int) := by omega
  have hd3 : 0 ≤ (a : Int) := by omega
  have hd4 : 0 ≤ (pv : Int) := by omega
  have hd5 : (d.size : Int) < 1000000 := by omega
  have hd6 : (e : Int) < 1000000 := by omega
  obtain ⟨hr0, hK0⟩ := swp_drew h (Kept.refl _ _) (i := a) (j := pv) (by omega) (by omega)
  obtain ⟨dk, hdk⟩ : ∃ dk, dk = swp d a pv := ⟨_, rfl⟩
  have hsk : dk.size = d.size := by rw [hdk]; exact size_swp _ _ _
  obtain ⟨i, hi⟩ : ∃ i, i = a + 1 := ⟨_, rfl⟩
  obtain ⟨j, hj⟩ : ∃ j, j = e - 1 := ⟨_, rfl⟩
  have haj : a < i := by omega
  have hij : i ≤ j + 1 := by omega
  have hje : j < e := by omega
  obtain ⟨PL, hPL⟩ : ∃ PL, partEqLoop ltInt a i j dk = PL := ⟨_, rfl⟩
  have hret : PL = partitionEqual ltInt d a e pv := by rw [← hPL, hi, hj, hdk]; rfl
  replace hPL := hide hPL
  replace hret := hide hret
  have hi0 : (a : Int) + 1 = (i : Int) := by omega
  have hj0 : (e : Int) - 1 = (j : Int) := by omega
  rw [← hdk] at hr0
  replace hr0 := hide hr0
  replace hK0 := hide hK0
  replace hsk := hide hsk
  replace hdk := hide hdk
  replace hi := hide hi
  replace hj := hide hj
  go_enter Try.func44, Try.ntmps44
  go_wp2_with fail
  go_region
  generalize ((w.setCell ⟨b, a, none⟩ (.int .u64 (el d pv))).setCell ⟨b, pv, none⟩ (.int .u64 (el d a))).drew = w0 at *
  clear y0 y1 z0 z1 y2 z2
  replace hr0 := hr0.out
  replace hK0 := hK0.out
  go_wp2_with fail
  go_loopw [9, 10] (fun vi vj w9 => ∃ (i j : Nat) (dk : Array Int), vi = .int .i64 i ∧ vj = .int .i64 j ∧ a < i ∧ i ≤ j + 1 ∧ j < e ∧ dk.size = d.size ∧ RowI w9 b dk ∧ partEqLoop ltInt a i j dk = PL ∧ Kept (fun x => x = b) w w9) (fun vi vj _ => (intOf vj + 1 - intOf vi).toNat)
  case atStart => exact ⟨i, j, dk, rfl, rfl, haj, hij, hje, hsk.out, hr0, hPL.out, hK0⟩
  case round =>
    clear hsk hi hj hdk hPL hij hje haj hr0 hK0 hi0 hj0
    obtain ⟨i, j, dk, rfl, rfl, haj, hij, hje, hsk, hr0, hPL, hK0⟩ := hrel
    generalize wr = w0 at *
    replace hsk := hide hsk
    replace hPL := hide hPL
    go_wp2_with fail
    go_loopw [9] (fun vi w9 => ∃ (i1 : Nat), vi = .int .i64 i1 ∧ i ≤ i1 ∧ i1 ≤ j + 1 ∧ RowI w9 b dk ∧ scanUp (fun x => !ltInt (el dk a) x) dk j i1 = scanUp (fun x => !ltInt (el dk a) x) dk j i ∧ Kept (fun x => x = b) w w9) (fun vi _ => j + 1 - (intOf vi).toNat)
    case atStart => exact ⟨i, rfl, Nat.le_refl _, hij, hr0, rfl, hK0⟩
    case round =>
      clear hr0 hK0
      obtain ⟨i1, rfl, hi1, hi2, hr0, hU, hK0⟩ := hrel
      generalize wr = w0 at *
      replace hU := hide hU
      by_cases hle : i1 ≤ j
      · have hg : decide ((i1 : Int) ≤ (j : Int)) = true := decide_eq_true (by omega)
        have y1 : ∀ n, (w0.drewN n).cell? ⟨b, i1, none⟩ = some (.int .u64 (el dk i1)) := fun n => hr0.cell (by have := hsk.out; omega)
        have ya : ∀ n, (w0.drewN n).cell? ⟨b, a, none⟩ = some (.int .u64 (el dk a)) := fun n => hr0.cell (by have := hsk.out; omega)
        have hb1 : (i1 : Int) < (d.size : Int) := by omega
        have hb2 : 0 ≤ (i1 : Int) := by omega
        cases hl : ltInt (el dk a) (el dk i1)
        · go_wp2_with fail
          go_quiet ((go_at_call 43; exact Calls.quiet_of_same (Less_any _ _ _)))
          go_wp2_with fail
          go_roundw
          case rel => exact ⟨i1 + 1, by simp, by omega, by omega, hr0.on (still_drewN w0 nq), (up_go (fun x => !ltInt (el dk a) x) dk j i1 hle (by simpa using hl)).symm.trans hU.out, hK0.still (still_drewN w0 nq)⟩
          case measure => simp [intOf]; omega
        · have hst : i1 = scanUp (fun x => !ltInt (el dk a) x) dk j i := by rw [← hU.out, up_stop (fun x => !ltInt (el dk a) x) dk j i1 (.inr (by simpa using hl))]
          replace hst := hide hst
          go_wp2_with fail
          go_quiet ((go_at_call 43; exact Calls.quiet_of_same (Less_any _ _ _)))
          go_wp2_with fail
          have hr1 := hr0.on (still_drewN w0 nq)
          have hK1 := hK0.still (still_drewN w0 nq)
          clear hr0 hK0 y1 ya hb1 hb2 hg
          generalize w0.drewN nq = w1 at *
          go_loopw [10] (fun vj w9 => ∃ (j1 : Nat), vj = .int .i64 j1 ∧ j1 ≤ j ∧ i1 ≤ j1 + 1 ∧ RowI w9 b dk ∧ scanDown (fun x => ltInt (el dk a) x) dk i1 j1 = scanDown (fun x => ltInt (el dk a) x) dk i1 j ∧ Kept (fun x => x = b) w w9) (fun vj _ => (intOf vj).toNat)
          case atStart => exact ⟨j, rfl, Nat.le_refl _, by omega, hr1, rfl, hK1⟩
          case round =>
            clear hr1 hK1
            obtain ⟨j1, rfl, hj1, hj2, hr2, hD, hK2⟩ := hrel
            generalize wr = w2 at *
            replace hD := hide hD
            by_cases hle2 : i1 ≤ j1
            · obtain ⟨kj, hkj⟩ : ∃ k, j1 = k + 1 := ⟨j1 - 1, by omega⟩
              have hjm : (j1 : Int) - 1 = (kj : Int) := by omega
              have hkm : kj < j1 := by omega
              have hg2 : decide ((i1 : Int) ≤ (j1 : Int)) = true := decide_eq_true (by omega)
              have y1 : ∀ n, (w2.drewN n).cell? ⟨b, j1, none⟩ = some (.int .u64 (el dk j1)) := fun n => hr2.cell (by have := hsk.out; omega)
              have ya : ∀ n, (w2.drewN n).cell? ⟨b, a, none⟩ = some (.int .u64 (el dk a)) := fun n => hr2.cell (by have := hsk.out; omega)
              have hb1 : (j1 : Int) < (d.size : Int) := by omega
              have hb2 : 0 ≤ (kj : Int) := by omega
              cases hl2 : ltInt (el dk a) (el dk j1)
              · have hsd : j1 = scanDown (fun x => ltInt (el dk a) x) dk i1 j := by rw [← hD.out, down_stop (fun x => ltInt (el dk a) x) dk i1 j1 kj hkj (.inr (by simpa using hl2))]
                replace hsd := hide hsd
                have hd8 : (i1 : Int) ≤ (j1 : Int) := by omega
                have hlt2 : i1 < j1 := by
                  rcases Nat.lt_or_ge i1 (j1) with h' | h'
                  · exact h'
                  · have e' : i1 = j1 := by omega
                    rw [e', hl2] at hl
                    cases hl
                have hin : i1 < dk.size ∧ j1 < dk.size := by have := hsk.out; omega
                have hne : i1 ≠ j1 := by omega
                have yi : ∀ n, (w2.drewN n).cell? ⟨b, i1, none⟩ = some (.int .u64 (el dk i1)) := fun n => hr2.cell hin.1
                have zi : ∀ n, (w2.drewN n).frozen? ⟨b, i1, none⟩ = false := fun n => hr2.frozen _
                have zj : ∀ n, (w2.drewN n).frozen? ⟨b, j1, none⟩ = false := fun n => hr2.frozen _
                have hsk2 : (swp dk i1 j1).size = d.size := by rw [size_swp]; exact hsk.out
                have hd11 : (i1 : Int) < (d.size : Int) := by omega
                have hd12 : 0 ≤ (i1 : Int) := by omega
                replace hsk2 := hide hsk2
                have hPL2 := peq_go a i j dk hst.out hsd.out (by omega)
                rw [show j1 - 1 = kj by omega] at hPL2
                replace hPL2 := hide hPL2
                have hk1 : kj + 1 = j1 := hkj.symm
                replace hk1 := hide hk1
                replace hkj := hide hkj
                go_wp2_with fail
                go_quiet ((go_at_call 43; exact Calls.quiet_of_same (Less_any _ _ _)))
                have hd8b : ¬ (j1 : Int) < (i1 : Int) := by omega
                go_wp2_with fail
                go_region
                obtain ⟨T1, T2⟩ := swp_world hr2 hK2 hin.1 hin.2 (nq + 1)
                generalize (((w2.drewN (nq + 1)).setCell ⟨b, i1, none⟩ (.int .u64 (el dk j1))).setCell ⟨b, j1, none⟩ (.int .u64 (el dk i1))) = w8 at *
                clear y1 ya hb1 hb2 hg2 yi zi zj hr2 hK2
                replace T1 := hide T1
                replace T2 := hide T2
                go_wp2_with fail
                go_roundw
                case rel => exact ⟨i1 + 1, kj, _, by simp, by simp, by omega, by omega, by omega, hsk2.out, T1.out, hPL2.out.symm.trans hPL.out, T2.out⟩
                case measure => simp [intOf]; omega
              · replace hkj := hide hkj
                go_wp2_with fail
                go_quiet ((go_at_call 43; exact Calls.quiet_of_same (Less_any _ _ _)))
                go_wp2_with fail
                go_roundw
                case rel => exact ⟨kj, by simp, by omega, by omega, hr2.on (still_drewN w2 nq), (down_go (fun x => ltInt (el dk a) x) dk i1 j1 kj hkj.out hle2 (by simpa using hl2)).symm.trans hD.out, hK2.still (still_drewN w2 nq)⟩
                case measure => simp [intOf]; omega
            · have hg2 : decide ((i1 : Int) ≤ (j1 : Int)) = false := decide_eq_false (by omega)
              have hd8 : (j1 : Int) < (i1 : Int) := by omega
              have hsd : j1 = scanDown (fun x => ltInt (el dk a) x) dk i1 j := by rw [← hD.out, down_end (fun x => ltInt (el dk a) x) dk i1 j1 (by omega)]
              replace hsd := hide hsd
              go_wp2_with fail
              go_quiet (fail)
              go_wp2_with fail
              have hr3 := hr2.on (still_drewN w2 nq)
              have hK3 := hK2.still (still_drewN w2 nq)
              clear hr2 hK2 hg2
              generalize w2.drewN nq = w3 at *
              have hfin := hPL.out
              rw [peq_break a i j dk hst.out hsd.out (by omega)] at hfin
              replace hfin := hide hfin
              go_wp2_with fail
              go_ret
              rw [← hret.out, ← hfin.out]
              exact ⟨rfl, hr3, hK3⟩
      · have hg : decide ((i1 : Int) ≤ (j : Int)) = false := decide_eq_false (by omega)
        have hst : i1 = scanUp (fun x => !ltInt (el dk a) x) dk j i := by rw [← hU.out, up_stop (fun x => !ltInt (el dk a) x) dk j i1 (.inl hle)]
        replace hst := hide hst
        go_wp2_with fail
        go_quiet (fail)
        go_wp2_with fail
        have hr1 := hr0.on (still_drewN w0 nq)
        have hK1 := hK0.still (still_drewN w0 nq)
        clear hr0 hK0 hg
        generalize w0.drewN nq = w1 at *
        go_loopw [10] (fun vj w9 => vj = .int .i64 j ∧ RowI w9 b dk ∧ Kept (fun x => x = b) w w9) (fun _ _ => 0)
        case atStart => exact ⟨rfl, hr1, hK1⟩
        case round =>
          clear hr1 hK1
          obtain ⟨rfl, hr2, hK2⟩ := hrel
          generalize wr = w2 at *
          have hg2 : decide ((i1 : Int) ≤ (j : Int)) = false := decide_eq_false (by omega)
          have hd8 : (j : Int) < (i1 : Int) := by omega
          have hsd : j = scanDown (fun x => ltInt (el dk a) x) dk i1 j := by rw [down_end (fun x => ltInt (el dk a) x) dk i1 j hle]
          replace hsd := hide hsd
          go_wp2_with fail
          go_quiet (fail)
          go_wp2_with fail
          have hr3 := hr2.on (still_drewN w2 nq)
          have hK3 := hK2.still (still_drewN w2 nq)
          clear hr2 hK2 hg2
          generalize w2.drewN nq = w3 at *
          have hfin := hPL.out
          rw [peq_break a i j dk hst.out hsd.out (by omega)] at hfin
          replace hfin := hide hfin
          go_wp2_with fail
          go_ret
          rw [← hret.out, ← hfin.out]
          exact ⟨rfl, hr3, hK3⟩
end Go.Proofs.Ytpflodhnniochaa
