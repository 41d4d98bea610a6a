/-
  The partition. This text is printed by gen_sortc.py.
-/
import Derived.Test.YtpflodhnniochaaSortB
namespace Go.Proofs.Ytpflodhnniochaa
set_option linter.unusedVariables false
open Go.RowKit Go.Sort
theorem up_go (p : Int → Bool) (d : Array Int) (j i : Nat) (h : i ≤ j) (hp : p (el d i) = true) : scanUp p d j i = scanUp p d j (i + 1) := by
  unfold el at hp
  conv => lhs; rw [scanUp]
  simp [h, hp]
theorem up_stop (p : Int → Bool) (d : Array Int) (j i : Nat) (h : ¬ i ≤ j ∨ p (el d i) = false) : scanUp p d j i = i := by
  unfold el at h
  rw [scanUp]
  rcases h with h | h <;> simp [h]
theorem down_go (p : Int → Bool) (d : Array Int) (i j k : Nat) (hk : j = k + 1) (h : i ≤ j) (hp : p (el d j) = true) : scanDown p d i j = scanDown p d i k := by
  subst hk
  unfold el at hp
  conv => lhs; rw [scanDown]
  simp [h, hp]
theorem down_stop (p : Int → Bool) (d : Array Int) (i j k : Nat) (hk : j = k + 1) (h : ¬ i ≤ j ∨ p (el d j) = false) : scanDown p d i j = j := by
  subst hk
  unfold el at h
  rw [scanDown]
  rcases h with h | h <;> simp [h]
theorem down_end (p : Int → Bool) (d : Array Int) (i j : Nat) (h : ¬ i ≤ j) : scanDown p d i j = j := by
  cases j with
  | zero => rw [scanDown]
  | succ k => exact down_stop p d i _ k rfl (.inl h)
theorem part_break (a i j : Nat) (dk : Array Int) {i2 j2 : Nat} (hi2 : i2 = scanUp (fun x => ltInt x (el dk a)) dk j i) (hj2 : j2 = scanDown (fun x => !ltInt x (el dk a)) dk i2 j) (h : j2 < i2) : partLoop ltInt a i j dk = (j2, dk) := by
  subst hi2; subst hj2
  unfold el at *
  rw [partLoop_eq, if_pos h]
theorem part_go (a i j : Nat) (dk : Array Int) {i2 j2 : Nat} (hi2 : i2 = scanUp (fun x => ltInt x (el dk a)) dk j i) (hj2 : j2 = scanDown (fun x => !ltInt x (el dk a)) dk i2 j) (h : ¬ i2 > j2) : partLoop ltInt a i j dk = partLoop ltInt a (i2 + 1) (j2 - 1) (swp dk i2 j2) := by
  subst hi2; subst hj2
  unfold el at *
  rw [partLoop_eq, if_neg h]
theorem part_first_break (d : Array Int) (a b pivot : Nat) {i j : Nat} {dk : Array Int} {i2 j2 : Nat} (hi : i = a + 1) (hj : j = b - 1) (hdk : dk = swp d a pivot) (hi2 : i2 = scanUp (fun x => ltInt x (el dk a)) dk j i) (hj2 : j2 = scanDown (fun x => !ltInt x (el dk a)) dk i2 j) (h : j2 < i2) :
    partition ltInt d a b pivot = (j2, true, swp dk j2 a) := by
  subst hi; subst hj; subst hdk; subst hi2; subst hj2
  unfold el at *
  unfold partition
  simp only []
  rw [if_pos h]
theorem part_first_go (d : Array Int) (a b pivot : Nat) {i j : Nat} {dk : Array Int} {i2 j2 : Nat} (hi : i = a + 1) (hj : j = b - 1) (hdk : dk = swp d a pivot) (hi2 : i2 = scanUp (fun x => ltInt x (el dk a)) dk j i) (hj2 : j2 = scanDown (fun x => !ltInt x (el dk a)) dk i2 j) (h : ¬ i2 > j2) :
    partition ltInt d a b pivot = ((partLoop ltInt a (i2 + 1) (j2 - 1) (swp dk i2 j2)).1, false, swp (partLoop ltInt a (i2 + 1) (j2 - 1) (swp dk i2 j2)).2 (partLoop ltInt a (i2 + 1) (j2 - 1) (swp dk i2 j2)).1 a) := by
  subst hi; subst hj; subst hdk; subst hi2; subst hj2
  unfold el at *
  unfold partition
  simp only []
  rw [if_neg h]
set_option maxRecDepth 20000 in
set_option maxHeartbeats 8000000 in
theorem Part_any (w : World) (b c a e pv : Nat) (d : Array Int) (h : RowI w b d) (hap : a ≤ pv) (hpe : pv < e) (hed : e ≤ d.size) (hsz : d.size < 1000000) :
    Calls Try.prog 45 #[.slice (some ⟨b, 0, none⟩) d.size c, .int .i64 a, .int .i64 e, .int .i64 pv] w fun r w' => r = .returned (.tuple #[.int .i64 (partition ltInt d a e pv).1, .bool (partition ltInt d a e pv).2.1]) ∧ Turns w w' b (partition ltInt d a e pv).2.2 := by
  have y0 := h.cell (i := a) (by omega)
  have y1 := h.cell (i := pv) (by omega)
  have z0 := h.frozen a
  have z1 := h.frozen pv
  have y2 := (h.set (i := a) (by omega) (el d pv)).cell (i := pv) (by simp; omega)
  have z2 := (h.set (i := a) (by omega) (el d pv)).frozen pv
  have hd1 : (a : Int) < (d.size : Int) := by omega
  have hd2 : (pv : Int) < (d.size : Int) := by omega
  have hd3 : 0 ≤ (a : Int) := by omega
  have hd4 : 0 ≤ (pv : Int) := by omega
  have hd5 : (d.size : Int) < 1000000 := by omega
  have hd6 : (e : Int) < 1000000 := by omega
  obtain ⟨hr0, hK0⟩ := swp_drew h (Kept.refl _ _) (i := a) (j := pv) (by omega) (by omega)
  obtain ⟨dk, hdk⟩ : ∃ dk, dk = swp d a pv := ⟨_, rfl⟩
  have hsk : dk.size = d.size := by rw [hdk]; exact size_swp _ _ _
  obtain ⟨i, hi⟩ : ∃ i, i = a + 1 := ⟨_, rfl⟩
  obtain ⟨j, hj⟩ : ∃ j, j = e - 1 := ⟨_, rfl⟩
  have haj : a < i := by omega
  have hij : i ≤ j + 1 := by omega
  have hje : j < e := by omega
  have hi0 : (a : Int) + 1 = (i : Int) := by omega
  have hj0 : (e : Int) - 1 = (j : Int) := by omega
  rw [← hdk] at hr0
  replace hr0 := hide hr0
  replace hK0 := hide hK0
  replace hsk := hide hsk
  replace hdk := hide hdk
  replace hi := hide hi
  replace hj := hide hj
  go_enter Try.func45, Try.ntmps45
  go_wp2_with fail
  go_region
  generalize ((w.setCell ⟨b, a, none⟩ (.int .u64 (el d pv))).setCell ⟨b, pv, none⟩ (.int .u64 (el d a))).drew = w0 at *
  clear y0 y1 z0 z1 y2 z2
  replace hr0 := hr0.out
  replace hK0 := hK0.out
  go_wp2_with fail
  go_loopw [10] (fun vi w9 => ∃ (i1 : Nat), vi = .int .i64 i1 ∧ i ≤ i1 ∧ i1 ≤ j + 1 ∧ RowI w9 b dk ∧ scanUp (fun x => ltInt x (el dk a)) dk j i1 = scanUp (fun x => ltInt x (el dk a)) dk j i ∧ Kept (fun x => x = b) w w9) (fun vi _ => j + 1 - (intOf vi).toNat)
  case atStart => exact ⟨i, rfl, Nat.le_refl _, hij, hr0, rfl, hK0⟩
  case round =>
    clear hr0 hK0
    obtain ⟨i1, rfl, hi1, hi2, hr0, hU, hK0⟩ := hrel
    generalize wr = w0 at *
    replace hU := hide hU
    by_cases hle : i1 ≤ j
    · have hg : decide ((i1 : Int) ≤ (j : Int)) = true := decide_eq_true (by omega)
      have y1 : ∀ n, (w0.drewN n).cell? ⟨b, i1, none⟩ = some (.int .u64 (el dk i1)) := fun n => hr0.cell (by have := hsk.out; omega)
      have ya : ∀ n, (w0.drewN n).cell? ⟨b, a, none⟩ = some (.int .u64 (el dk a)) := fun n => hr0.cell (by have := hsk.out; omega)
      have hb1 : (i1 : Int) < (d.size : Int) := by omega
      have hb2 : 0 ≤ (i1 : Int) := by omega
      cases hl : ltInt (el dk i1) (el dk a)
      · have hst : i1 = scanUp (fun x => ltInt x (el dk a)) dk j i := by rw [← hU.out, up_stop (fun x => ltInt x (el dk a)) dk j i1 (.inr hl)]
        replace hst := hide hst
        go_wp2_with fail
        go_quiet ((go_at_call 43; exact Calls.quiet_of_same (Less_any _ _ _)))
        go_wp2_with fail
        have hr1 := hr0.on (still_drewN w0 nq)
        have hK1 := hK0.still (still_drewN w0 nq)
        clear hr0 hK0 y1 ya hb1 hb2 hg
        generalize w0.drewN nq = w1 at *
        go_loopw [11] (fun vj w9 => ∃ (j1 : Nat), vj = .int .i64 j1 ∧ j1 ≤ j ∧ i1 ≤ j1 + 1 ∧ RowI w9 b dk ∧ scanDown (fun x => !ltInt x (el dk a)) dk i1 j1 = scanDown (fun x => !ltInt x (el dk a)) dk i1 j ∧ Kept (fun x => x = b) w w9) (fun vj _ => (intOf vj).toNat)
        case atStart => exact ⟨j, rfl, Nat.le_refl _, by omega, hr1, rfl, hK1⟩
        case round =>
          clear hr1 hK1
          obtain ⟨j1, rfl, hj1, hj2, hr2, hD, hK2⟩ := hrel
          generalize wr = w2 at *
          replace hD := hide hD
          by_cases hle2 : i1 ≤ j1
          · obtain ⟨kj, hkj⟩ : ∃ k, j1 = k + 1 := ⟨j1 - 1, by omega⟩
            have hjm : (j1 : Int) - 1 = (kj : Int) := by omega
            have hkm : kj < j1 := by omega
            have hg2 : decide ((i1 : Int) ≤ (j1 : Int)) = true := decide_eq_true (by omega)
            have y1 : ∀ n, (w2.drewN n).cell? ⟨b, j1, none⟩ = some (.int .u64 (el dk j1)) := fun n => hr2.cell (by have := hsk.out; omega)
            have ya : ∀ n, (w2.drewN n).cell? ⟨b, a, none⟩ = some (.int .u64 (el dk a)) := fun n => hr2.cell (by have := hsk.out; omega)
            have hb1 : (j1 : Int) < (d.size : Int) := by omega
            have hb2 : 0 ≤ (kj : Int) := by omega
            cases hl2 : ltInt (el dk j1) (el dk a)
            · replace hkj := hide hkj
              go_wp2_with fail
              go_quiet ((go_at_call 43; exact Calls.quiet_of_same (Less_any _ _ _)))
              go_wp2_with fail
              go_roundw
              case rel => exact ⟨kj, by simp, by omega, by omega, hr2.on (still_drewN w2 nq), (down_go (fun x => !ltInt x (el dk a)) dk i1 j1 kj hkj.out hle2 (by simpa using hl2)).symm.trans hD.out, hK2.still (still_drewN w2 nq)⟩
              case measure => simp [intOf]; omega
            · have hsd : j1 = scanDown (fun x => !ltInt x (el dk a)) dk i1 j := by rw [← hD.out, down_stop (fun x => !ltInt x (el dk a)) dk i1 j1 kj hkj (.inr (by simpa using hl2))]
              replace hsd := hide hsd
              have hd8 : (i1 : Int) ≤ (j1 : Int) := by omega
              have hlt2 : i1 < j1 := by
                rcases Nat.lt_or_ge i1 (j1) with h' | h'
                · exact h'
                · have e' : i1 = j1 := by omega
                  rw [e', hl2] at hl
                  cases hl
              have hin : i1 < dk.size ∧ j1 < dk.size := by have := hsk.out; omega
              have hne : i1 ≠ j1 := by omega
              have yi : ∀ n, (w2.drewN n).cell? ⟨b, i1, none⟩ = some (.int .u64 (el dk i1)) := fun n => hr2.cell hin.1
              have zi : ∀ n, (w2.drewN n).frozen? ⟨b, i1, none⟩ = false := fun n => hr2.frozen _
              have zj : ∀ n, (w2.drewN n).frozen? ⟨b, j1, none⟩ = false := fun n => hr2.frozen _
              have hsk2 : (swp dk i1 j1).size = d.size := by rw [size_swp]; exact hsk.out
              have hd11 : (i1 : Int) < (d.size : Int) := by omega
              have hd12 : 0 ≤ (i1 : Int) := by omega
              replace hsk2 := hide hsk2
              have hret := part_first_go d a e pv hi.out hj.out hdk.out hst.out hsd.out (by omega)
              rw [show j1 - 1 = kj by omega] at hret
              obtain ⟨PL, hPL⟩ : ∃ PL, partLoop ltInt a (i1 + 1) kj (swp dk i1 j1) = PL := ⟨_, rfl⟩
              rw [hPL] at hret
              replace hret := hide hret
              replace hPL := hide hPL
              replace hl2 : (!ltInt (el dk j1) (el dk a)) = false := by rw [hl2]; rfl
              have hk1 : kj + 1 = j1 := hkj.symm
              replace hk1 := hide hk1
              replace hkj := hide hkj
              go_wp2_with fail
              go_quiet ((go_at_call 43; exact Calls.quiet_of_same (Less_any _ _ _)))
              have hd8b : ¬ (j1 : Int) < (i1 : Int) := by omega
              go_wp2_with fail
              go_region
              obtain ⟨T1, T2⟩ := swp_world hr2 hK2 hin.1 hin.2 (nq + 1)
              generalize (((w2.drewN (nq + 1)).setCell ⟨b, i1, none⟩ (.int .u64 (el dk j1))).setCell ⟨b, j1, none⟩ (.int .u64 (el dk i1))) = w8 at *
              clear y1 ya hb1 hb2 hg2 yi zi zj hr2 hK2
              replace T1 := hide T1
              replace T2 := hide T2
              generalize swp dk i1 (j1) = dn at *
              go_wp2_with fail
              go_loopw [10, 11] (fun vi vj w9 => ∃ (i j : Nat) (dk : Array Int), vi = .int .i64 i ∧ vj = .int .i64 j ∧ a < i ∧ i ≤ j + 1 ∧ j < e ∧ dk.size = d.size ∧ RowI w9 b dk ∧ partLoop ltInt a i j dk = PL ∧ Kept (fun x => x = b) w w9) (fun vi vj _ => (intOf vj + 1 - intOf vi).toNat)
              case atStart => exact ⟨i1 + 1, kj, dn, by simp, by simp, by omega, by omega, by omega, hsk2.out, T1.out, hPL.out, T2.out⟩
              case round =>
                clear hsk hst hsd hU hD hl hl2 hi hj hdk hi1 hi2 hj1 hj2 hle hle2 T1 T2 hsk2 hPL hlt2 hin hne hkj hk1 hjm hkm hd8 hd8b hd11 hd12 hij hje haj
                obtain ⟨i, j, dk, rfl, rfl, haj, hij, hje, hsk, hr0, hPL, hK0⟩ := hrel
                generalize wr = w0 at *
                replace hsk := hide hsk
                replace hPL := hide hPL
                go_wp2_with fail
                go_loopw [10] (fun vi w9 => ∃ (i1 : Nat), vi = .int .i64 i1 ∧ i ≤ i1 ∧ i1 ≤ j + 1 ∧ RowI w9 b dk ∧ scanUp (fun x => ltInt x (el dk a)) dk j i1 = scanUp (fun x => ltInt x (el dk a)) dk j i ∧ Kept (fun x => x = b) w w9) (fun vi _ => j + 1 - (intOf vi).toNat)
                case atStart => exact ⟨i, rfl, Nat.le_refl _, hij, hr0, rfl, hK0⟩
                case round =>
                  clear hr0 hK0
                  obtain ⟨i1, rfl, hi1, hi2, hr0, hU, hK0⟩ := hrel
                  generalize wr = w0 at *
                  replace hU := hide hU
                  by_cases hle : i1 ≤ j
                  · have hg : decide ((i1 : Int) ≤ (j : Int)) = true := decide_eq_true (by omega)
                    have y1 : ∀ n, (w0.drewN n).cell? ⟨b, i1, none⟩ = some (.int .u64 (el dk i1)) := fun n => hr0.cell (by have := hsk.out; omega)
                    have ya : ∀ n, (w0.drewN n).cell? ⟨b, a, none⟩ = some (.int .u64 (el dk a)) := fun n => hr0.cell (by have := hsk.out; omega)
                    have hb1 : (i1 : Int) < (d.size : Int) := by omega
                    have hb2 : 0 ≤ (i1 : Int) := by omega
                    cases hl : ltInt (el dk i1) (el dk a)
                    · have hst : i1 = scanUp (fun x => ltInt x (el dk a)) dk j i := by rw [← hU.out, up_stop (fun x => ltInt x (el dk a)) dk j i1 (.inr hl)]
                      replace hst := hide hst
                      go_wp2_with fail
                      go_quiet ((go_at_call 43; exact Calls.quiet_of_same (Less_any _ _ _)))
                      go_wp2_with fail
                      have hr1 := hr0.on (still_drewN w0 nq)
                      have hK1 := hK0.still (still_drewN w0 nq)
                      clear hr0 hK0 y1 ya hb1 hb2 hg
                      generalize w0.drewN nq = w1 at *
                      go_loopw [11] (fun vj w9 => ∃ (j1 : Nat), vj = .int .i64 j1 ∧ j1 ≤ j ∧ i1 ≤ j1 + 1 ∧ RowI w9 b dk ∧ scanDown (fun x => !ltInt x (el dk a)) dk i1 j1 = scanDown (fun x => !ltInt x (el dk a)) dk i1 j ∧ Kept (fun x => x = b) w w9) (fun vj _ => (intOf vj).toNat)
                      case atStart => exact ⟨j, rfl, Nat.le_refl _, by omega, hr1, rfl, hK1⟩
                      case round =>
                        clear hr1 hK1
                        obtain ⟨j1, rfl, hj1, hj2, hr2, hD, hK2⟩ := hrel
                        generalize wr = w2 at *
                        replace hD := hide hD
                        by_cases hle2 : i1 ≤ j1
                        · obtain ⟨kj, hkj⟩ : ∃ k, j1 = k + 1 := ⟨j1 - 1, by omega⟩
                          have hjm : (j1 : Int) - 1 = (kj : Int) := by omega
                          have hkm : kj < j1 := by omega
                          have hg2 : decide ((i1 : Int) ≤ (j1 : Int)) = true := decide_eq_true (by omega)
                          have y1 : ∀ n, (w2.drewN n).cell? ⟨b, j1, none⟩ = some (.int .u64 (el dk j1)) := fun n => hr2.cell (by have := hsk.out; omega)
                          have ya : ∀ n, (w2.drewN n).cell? ⟨b, a, none⟩ = some (.int .u64 (el dk a)) := fun n => hr2.cell (by have := hsk.out; omega)
                          have hb1 : (j1 : Int) < (d.size : Int) := by omega
                          have hb2 : 0 ≤ (kj : Int) := by omega
                          cases hl2 : ltInt (el dk j1) (el dk a)
                          · replace hkj := hide hkj
                            go_wp2_with fail
                            go_quiet ((go_at_call 43; exact Calls.quiet_of_same (Less_any _ _ _)))
                            go_wp2_with fail
                            go_roundw
                            case rel => exact ⟨kj, by simp, by omega, by omega, hr2.on (still_drewN w2 nq), (down_go (fun x => !ltInt x (el dk a)) dk i1 j1 kj hkj.out hle2 (by simpa using hl2)).symm.trans hD.out, hK2.still (still_drewN w2 nq)⟩
                            case measure => simp [intOf]; omega
                          · have hsd : j1 = scanDown (fun x => !ltInt x (el dk a)) dk i1 j := by rw [← hD.out, down_stop (fun x => !ltInt x (el dk a)) dk i1 j1 kj hkj (.inr (by simpa using hl2))]
                            replace hsd := hide hsd
                            have hd8 : (i1 : Int) ≤ (j1 : Int) := by omega
                            have hlt2 : i1 < j1 := by
                              rcases Nat.lt_or_ge i1 (j1) with h' | h'
                              · exact h'
                              · have e' : i1 = j1 := by omega
                                rw [e', hl2] at hl
                                cases hl
                            have hin : i1 < dk.size ∧ j1 < dk.size := by have := hsk.out; omega
                            have hne : i1 ≠ j1 := by omega
                            have yi : ∀ n, (w2.drewN n).cell? ⟨b, i1, none⟩ = some (.int .u64 (el dk i1)) := fun n => hr2.cell hin.1
                            have zi : ∀ n, (w2.drewN n).frozen? ⟨b, i1, none⟩ = false := fun n => hr2.frozen _
                            have zj : ∀ n, (w2.drewN n).frozen? ⟨b, j1, none⟩ = false := fun n => hr2.frozen _
                            have hsk2 : (swp dk i1 j1).size = d.size := by rw [size_swp]; exact hsk.out
                            have hd11 : (i1 : Int) < (d.size : Int) := by omega
                            have hd12 : 0 ≤ (i1 : Int) := by omega
                            replace hsk2 := hide hsk2
                            have hPL2 := part_go a i j dk hst.out hsd.out (by omega)
                            rw [show j1 - 1 = kj by omega] at hPL2
                            replace hPL2 := hide hPL2
                            replace hl2 : (!ltInt (el dk j1) (el dk a)) = false := by rw [hl2]; rfl
                            have hk1 : kj + 1 = j1 := hkj.symm
                            replace hk1 := hide hk1
                            replace hkj := hide hkj
                            go_wp2_with fail
                            go_quiet ((go_at_call 43; exact Calls.quiet_of_same (Less_any _ _ _)))
                            have hd8b : ¬ (j1 : Int) < (i1 : Int) := by omega
                            go_wp2_with fail
                            go_region
                            obtain ⟨T1, T2⟩ := swp_world hr2 hK2 hin.1 hin.2 (nq + 1)
                            generalize (((w2.drewN (nq + 1)).setCell ⟨b, i1, none⟩ (.int .u64 (el dk j1))).setCell ⟨b, j1, none⟩ (.int .u64 (el dk i1))) = w8 at *
                            clear y1 ya hb1 hb2 hg2 yi zi zj hr2 hK2
                            replace T1 := hide T1
                            replace T2 := hide T2
                            go_wp2_with fail
                            go_roundw
                            case rel => exact ⟨i1 + 1, kj, _, by simp, by simp, by omega, by omega, by omega, hsk2.out, T1.out, hPL2.out.symm.trans hPL.out, T2.out⟩
                            case measure => simp [intOf]; omega
                        · have hg2 : decide ((i1 : Int) ≤ (j1 : Int)) = false := decide_eq_false (by omega)
                          have hd8 : (j1 : Int) < (i1 : Int) := by omega
                          have hsd : j1 = scanDown (fun x => !ltInt x (el dk a)) dk i1 j := by rw [← hD.out, down_end (fun x => !ltInt x (el dk a)) dk i1 j1 (by omega)]
                          replace hsd := hide hsd
                          go_wp2_with fail
                          go_quiet (fail)
                          go_wp2_with fail
                          have hr3 := hr2.on (still_drewN w2 nq)
                          have hK3 := hK2.still (still_drewN w2 nq)
                          clear hr2 hK2 hg2
                          generalize w2.drewN nq = w3 at *
                          have hin : j1 < dk.size ∧ a < dk.size := by have := hsk.out; omega
                          have u0 := hr3.cell hin.1
                          have u1 := hr3.cell hin.2
                          have v0 := hr3.frozen j1
                          have v1 := hr3.frozen a
                          have u2 := (hr3.set hin.1 (el dk a)).cell (i := a) (by simpa using hin.2)
                          have v2 := (hr3.set hin.1 (el dk a)).frozen a
                          have hpt : partition ltInt d a e pv = (j1, false, swp dk j1 a) := (by rw [hret.out, ← hPL.out, part_break a i j dk hst.out hsd.out (by omega)])
                          have hd9 : (j1 : Int) < (d.size : Int) := by omega
                          have hd10 : 0 ≤ (j1 : Int) := by omega
                          obtain ⟨T1, T2⟩ := swp_drew hr3 hK3 hin.1 hin.2
                          replace T1 := hide T1
                          replace T2 := hide T2
                          replace hpt := hide hpt
                          go_wp2_with fail
                          go_region
                          generalize ((w3.setCell ⟨b, j1, none⟩ (.int .u64 (el dk a))).setCell ⟨b, a, none⟩ (.int .u64 (el dk j1))).drew = w8 at *
                          clear u0 u1 v0 v1 u2 v2
                          go_wp2_with fail
                          go_ret2
                          rw [hpt.out]
                          exact ⟨rfl, T1.out, T2.out⟩
                    · go_wp2_with fail
                      go_quiet ((go_at_call 43; exact Calls.quiet_of_same (Less_any _ _ _)))
                      go_wp2_with fail
                      go_roundw
                      case rel => exact ⟨i1 + 1, by simp, by omega, by omega, hr0.on (still_drewN w0 nq), (up_go (fun x => ltInt x (el dk a)) dk j i1 hle hl).symm.trans hU.out, hK0.still (still_drewN w0 nq)⟩
                      case measure => simp [intOf]; omega
                  · have hg : decide ((i1 : Int) ≤ (j : Int)) = false := decide_eq_false (by omega)
                    have hst : i1 = scanUp (fun x => ltInt x (el dk a)) dk j i := by rw [← hU.out, up_stop (fun x => ltInt x (el dk a)) dk j i1 (.inl hle)]
                    replace hst := hide hst
                    go_wp2_with fail
                    go_quiet (fail)
                    go_wp2_with fail
                    have hr1 := hr0.on (still_drewN w0 nq)
                    have hK1 := hK0.still (still_drewN w0 nq)
                    clear hr0 hK0 hg
                    generalize w0.drewN nq = w1 at *
                    go_loopw [11] (fun vj w9 => vj = .int .i64 j ∧ RowI w9 b dk ∧ Kept (fun x => x = b) w w9) (fun _ _ => 0)
                    case atStart => exact ⟨rfl, hr1, hK1⟩
                    case round =>
                      clear hr1 hK1
                      obtain ⟨rfl, hr2, hK2⟩ := hrel
                      generalize wr = w2 at *
                      have hg2 : decide ((i1 : Int) ≤ (j : Int)) = false := decide_eq_false (by omega)
                      have hd8 : (j : Int) < (i1 : Int) := by omega
                      have hsd : j = scanDown (fun x => !ltInt x (el dk a)) dk i1 j := by rw [down_end (fun x => !ltInt x (el dk a)) dk i1 j hle]
                      replace hsd := hide hsd
                      go_wp2_with fail
                      go_quiet (fail)
                      go_wp2_with fail
                      have hr3 := hr2.on (still_drewN w2 nq)
                      have hK3 := hK2.still (still_drewN w2 nq)
                      clear hr2 hK2 hg2
                      generalize w2.drewN nq = w3 at *
                      have hin : j < dk.size ∧ a < dk.size := by have := hsk.out; omega
                      have u0 := hr3.cell hin.1
                      have u1 := hr3.cell hin.2
                      have v0 := hr3.frozen j
                      have v1 := hr3.frozen a
                      have u2 := (hr3.set hin.1 (el dk a)).cell (i := a) (by simpa using hin.2)
                      have v2 := (hr3.set hin.1 (el dk a)).frozen a
                      have hpt : partition ltInt d a e pv = (j, false, swp dk j a) := (by rw [hret.out, ← hPL.out, part_break a i j dk hst.out hsd.out (by omega)])
                      have hd9 : (j : Int) < (d.size : Int) := by omega
                      have hd10 : 0 ≤ (j : Int) := by omega
                      obtain ⟨T1, T2⟩ := swp_drew hr3 hK3 hin.1 hin.2
                      replace T1 := hide T1
                      replace T2 := hide T2
                      replace hpt := hide hpt
                      go_wp2_with fail
                      go_region
                      generalize ((w3.setCell ⟨b, j, none⟩ (.int .u64 (el dk a))).setCell ⟨b, a, none⟩ (.int .u64 (el dk j))).drew = w8 at *
                      clear u0 u1 v0 v1 u2 v2
                      go_wp2_with fail
                      go_ret2
                      rw [hpt.out]
                      exact ⟨rfl, T1.out, T2.out⟩
          · have hg2 : decide ((i1 : Int) ≤ (j1 : Int)) = false := decide_eq_false (by omega)
            have hd8 : (j1 : Int) < (i1 : Int) := by omega
            have hsd : j1 = scanDown (fun x => !ltInt x (el dk a)) dk i1 j := by rw [← hD.out, down_end (fun x => !ltInt x (el dk a)) dk i1 j1 (by omega)]
            replace hsd := hide hsd
            go_wp2_with fail
            go_quiet (fail)
            go_wp2_with fail
            have hr3 := hr2.on (still_drewN w2 nq)
            have hK3 := hK2.still (still_drewN w2 nq)
            clear hr2 hK2 hg2
            generalize w2.drewN nq = w3 at *
            have hin : j1 < dk.size ∧ a < dk.size := by have := hsk.out; omega
            have u0 := hr3.cell hin.1
            have u1 := hr3.cell hin.2
            have v0 := hr3.frozen j1
            have v1 := hr3.frozen a
            have u2 := (hr3.set hin.1 (el dk a)).cell (i := a) (by simpa using hin.2)
            have v2 := (hr3.set hin.1 (el dk a)).frozen a
            have hpt : partition ltInt d a e pv = (j1, true, swp dk j1 a) := part_first_break d a e pv hi.out hj.out hdk.out hst.out hsd.out (by omega)
            have hd9 : (j1 : Int) < (d.size : Int) := by omega
            have hd10 : 0 ≤ (j1 : Int) := by omega
            obtain ⟨T1, T2⟩ := swp_drew hr3 hK3 hin.1 hin.2
            replace T1 := hide T1
            replace T2 := hide T2
            replace hpt := hide hpt
            go_wp2_with fail
            go_region
            generalize ((w3.setCell ⟨b, j1, none⟩ (.int .u64 (el dk a))).setCell ⟨b, a, none⟩ (.int .u64 (el dk j1))).drew = w8 at *
            clear u0 u1 v0 v1 u2 v2
            go_wp2_with fail
            go_ret2
            rw [hpt.out]
            exact ⟨rfl, T1.out, T2.out⟩
      · go_wp2_with fail
        go_quiet ((go_at_call 43; exact Calls.quiet_of_same (Less_any _ _ _)))
        go_wp2_with fail
        go_roundw
        case rel => exact ⟨i1 + 1, by simp, by omega, by omega, hr0.on (still_drewN w0 nq), (up_go (fun x => ltInt x (el dk a)) dk j i1 hle hl).symm.trans hU.out, hK0.still (still_drewN w0 nq)⟩
        case measure => simp [intOf]; omega
    · have hg : decide ((i1 : Int) ≤ (j : Int)) = false := decide_eq_false (by omega)
      have hst : i1 = scanUp (fun x => ltInt x (el dk a)) dk j i := by rw [← hU.out, up_stop (fun x => ltInt x (el dk a)) dk j i1 (.inl hle)]
      replace hst := hide hst
      go_wp2_with fail
      go_quiet (fail)
      go_wp2_with fail
      have hr1 := hr0.on (still_drewN w0 nq)
      have hK1 := hK0.still (still_drewN w0 nq)
      clear hr0 hK0 hg
      generalize w0.drewN nq = w1 at *
      go_loopw [11] (fun vj w9 => vj = .int .i64 j ∧ RowI w9 b dk ∧ Kept (fun x => x = b) w w9) (fun _ _ => 0)
      case atStart => exact ⟨rfl, hr1, hK1⟩
      case round =>
        clear hr1 hK1
        obtain ⟨rfl, hr2, hK2⟩ := hrel
        generalize wr = w2 at *
        have hg2 : decide ((i1 : Int) ≤ (j : Int)) = false := decide_eq_false (by omega)
        have hd8 : (j : Int) < (i1 : Int) := by omega
        have hsd : j = scanDown (fun x => !ltInt x (el dk a)) dk i1 j := by rw [down_end (fun x => !ltInt x (el dk a)) dk i1 j hle]
        replace hsd := hide hsd
        go_wp2_with fail
        go_quiet (fail)
        go_wp2_with fail
        have hr3 := hr2.on (still_drewN w2 nq)
        have hK3 := hK2.still (still_drewN w2 nq)
        clear hr2 hK2 hg2
        generalize w2.drewN nq = w3 at *
        have hin : j < dk.size ∧ a < dk.size := by have := hsk.out; omega
        have u0 := hr3.cell hin.1
        have u1 := hr3.cell hin.2
        have v0 := hr3.frozen j
        have v1 := hr3.frozen a
        have u2 := (hr3.set hin.1 (el dk a)).cell (i := a) (by simpa using hin.2)
        have v2 := (hr3.set hin.1 (el dk a)).frozen a
        have hpt : partition ltInt d a e pv = (j, true, swp dk j a) := part_first_break d a e pv hi.out hj.out hdk.out hst.out hsd.out (by omega)
        have hd9 : (j : Int) < (d.size : Int) := by omega
        have hd10 : 0 ≤ (j : Int) := by omega
        obtain ⟨T1, T2⟩ := swp_drew hr3 hK3 hin.1 hin.2
        replace T1 := hide T1
        replace T2 := hide T2
        replace hpt := hide hpt
        go_wp2_with fail
        go_region
        generalize ((w3.setCell ⟨b, j, none⟩ (.int .u64 (el dk a))).setCell ⟨b, a, none⟩ (.int .u64 (el dk j))).drew = w8 at *
        clear u0 u1 v0 v1 u2 v2
        go_wp2_with fail
        go_ret2
        rw [hpt.out]
        exact ⟨rfl, T1.out, T2.out⟩
end Go.Proofs.Ytpflodhnniochaa
