/-
  The partial insertion sort. This text is printed by gen_sorte.py.
-/
import Derived.Test.YtpflodhnniochaaSortD
namespace Go.Proofs.Ytpflodhnniochaa
set_option linter.unusedVariables false
open Go.RowKit Go.Sort
theorem scan_go (b i q : Nat) (d : Array Int) (hq : i = q + 1) (h : i < b) (hl : ltInt (el d i) (el d q) = false) : scanSorted ltInt d b (i + 1) = scanSorted ltInt d b i := by
  subst hq
  unfold el at hl
  conv => rhs; rw [scanSorted]
  simp [h, hl]
theorem scan_stop (b i q : Nat) (d : Array Int) (hq : i = q + 1) (h : ¬ i < b ∨ ltInt (el d i) (el d q) = true) : scanSorted ltInt d b i = i := by
  subst hq
  unfold el at h
  rw [scanSorted]
  rcases h with h | h <;> simp [h]
theorem down_more (j q : Nat) (d : Array Int) (hq : j = q + 1) (hl : ltInt (el d j) (el d q) = true) : shiftDown ltInt q (swp d j q) = shiftDown ltInt j d := by
  subst hq
  unfold el at hl
  conv => rhs; rw [shiftDown]
  simp [hl]
theorem down_halt (j q : Nat) (d : Array Int) (h : j = 0 ∨ j = q + 1 ∧ ltInt (el d j) (el d q) = false) : shiftDown ltInt j d = d := by
  rcases h with rfl | ⟨rfl, h⟩
  · rw [shiftDown]
  · unfold el at h
    rw [shiftDown]
    simp [h]
theorem up_more (b j q : Nat) (d : Array Int) (hq : j = q + 1) (hj : j < b) (hl : ltInt (el d j) (el d q) = true) : shiftUp ltInt b (j + 1) (swp d j q) = shiftUp ltInt b j d := by
  subst hq
  unfold el at hl
  conv => rhs; rw [shiftUp]
  simp [hj, hl]
theorem up_halt (b j q : Nat) (d : Array Int) (hq : j = q + 1) (h : ¬ j < b ∨ ltInt (el d j) (el d q) = false) : shiftUp ltInt b j d = d := by
  subst hq
  unfold el at h
  rw [shiftUp]
  rcases h with h | h
  · simp [h]
  · by_cases hj : q + 1 < b <;> simp [hj, h]
theorem pi_go2 (a b s i k : Nat) (dj : Array Int) {q : Nat} {dk : Array Int} (hs : s < 5) (hK : scanSorted ltInt dk b i = k ∧ k = q + 1) (hkb : k < b) (h50 : ¬ b - a < 50) (hd : fixDown ltInt a k (swp dk k q) = dj) :
    partialIns ltInt a b (5 - s) i dk = partialIns ltInt a b (5 - (s + 1)) k (fixUp ltInt b k dj) := by
  obtain ⟨h1, h2⟩ := hK
  rw [show 5 - s = (4 - s) + 1 by omega, partialIns_succ, h1, if_neg (by omega), if_neg h50, show 5 - (s + 1) = 4 - s by omega, ← hd, show k - 1 = q by omega]
theorem pi_true2 (a b s i : Nat) (d : Array Int) (hs : s < 5) (hK : scanSorted ltInt d b i = b) : partialIns ltInt a b (5 - s) i d = (d, true) := by
  rw [show 5 - s = (4 - s) + 1 by omega, partialIns_succ, if_pos hK]
theorem pi_short2 (a b s i k : Nat) (d : Array Int) (hs : s < 5) (hK : scanSorted ltInt d b i = k) (hk : k < b) (h50 : b - a < 50) : partialIns ltInt a b (5 - s) i d = (d, false) := by
  rw [show 5 - s = (4 - s) + 1 by omega, partialIns_succ, if_neg (by omega), if_pos h50]
set_option maxRecDepth 20000 in
set_option maxHeartbeats 8000000 in
theorem Pins_any (w : World) (b c a e : Nat) (d : Array Int) (h : RowI w b d) (hae : a < e) (hed : e ≤ d.size) (hsz : d.size < 1000000) :
    Calls Try.prog 42 #[.slice (some ⟨b, 0, none⟩) d.size c, .int .i64 a, .int .i64 e] w fun r w' => r = .returned (.bool (partialInsertionSort ltInt d a e).2) ∧ Turns w w' b (partialInsertionSort ltInt d a e).1 := by
  obtain ⟨PI, hP0⟩ : ∃ PI, partialIns ltInt a e 5 (a + 1) d = PI := ⟨_, rfl⟩
  have hret : partialInsertionSort ltInt d a e = PI := hP0
  rw [hret]
  clear hret
  have hd5 : (d.size : Int) < 1000000 := by omega
  have he5 : (e : Int) < 1000000 := by omega
  have ha5 : (a : Int) < 1000000 := by omega
  replace hP0 := hide hP0
  go_enter Try.func42, Try.ntmps42
  go_wp2_with fail
  go_loopw [7, 8] (fun vi vs wr => ∃ (i s : Nat) (dk : Array Int), vi = .int .i64 i ∧ vs = .int .i64 s ∧ s ≤ 5 ∧ a < i ∧ i ≤ e ∧ dk.size = d.size ∧ RowI wr b dk ∧ partialIns ltInt a e (5 - s) i dk = PI ∧ Kept (fun x => x = b) w wr) (fun _ vs _ => 5 - (intOf vs).toNat)
  case atStart => exact ⟨a + 1, 0, d, by simp, rfl, by omega, by omega, by omega, rfl, h, hP0.out, Kept.refl _ _⟩
  case round =>
    clear h hP0
    obtain ⟨i, s, dk, rfl, rfl, hs5, hai, hie, hsj, hr, hPI, hK⟩ := hrel
    generalize wr = w0 at *
    replace hsj := hide hsj
    replace hPI := hide hPI
    by_cases hs : s < 5
    · have hs2 : (s : Int) < 5 := by omega
      go_wp2_with fail
      go_loopw [7] (fun vi w9 => ∃ (k : Nat), vi = .int .i64 k ∧ i ≤ k ∧ k ≤ e ∧ RowI w9 b dk ∧ scanSorted ltInt dk e k = scanSorted ltInt dk e i ∧ Kept (fun x => x = b) w w9) (fun vi _ => e - (intOf vi).toNat)
      case atStart => exact ⟨i, rfl, Nat.le_refl _, hie, hr, rfl, hK⟩
      case round =>
        clear hr hK
        obtain ⟨k, rfl, hik, hke0, hr, hSc, hK⟩ := hrel
        generalize wr = w1 at *
        replace hSc := hide hSc
        by_cases hke : k < e
        · have hke2 : (k : Int) < (e : Int) := by omega
          have hke4 : ((k : Int) == (e : Int)) = false := by simp; omega
          obtain ⟨q, hkq⟩ : ∃ q, k = q + 1 := ⟨k - 1, by omega⟩
          have hjm : (k : Int) - 1 = (q : Int) := by omega
          have y1 : ∀ n, (w1.drewN n).cell? ⟨b, k, none⟩ = some (.int .u64 (el dk k)) := fun n => hr.cell (by have := hsj.out; omega)
          have y0 : ∀ n, (w1.drewN n).cell? ⟨b, q, none⟩ = some (.int .u64 (el dk q)) := fun n => hr.cell (by have := hsj.out; omega)
          have z1 : ∀ n, (w1.drewN n).frozen? ⟨b, k, none⟩ = false := fun n => hr.frozen _
          have z0 : ∀ n, (w1.drewN n).frozen? ⟨b, q, none⟩ = false := fun n => hr.frozen _
          have hb1 : (k : Int) < (d.size : Int) := by omega
          have hb2 : 0 ≤ (k : Int) := by omega
          have hb3 : (q : Int) < (d.size : Int) := by omega
          have hb4 : 0 ≤ (q : Int) := by omega
          have hin : k < dk.size ∧ q < dk.size := by have := hsj.out; omega
          replace hkq := hide hkq
          cases hl : ltInt (el dk k) (el dk q)
          · go_wp2_with fail
            go_quiet ((go_at_call 43; exact Calls.quiet_of_same (Less_any _ _ _)))
            go_wp2_with fail
            go_roundw
            case rel => exact ⟨k + 1, by simp, by omega, by omega, hr.on (still_drewN w1 nq), (scan_go e k q dk hkq.out hke hl).trans hSc.out, hK.still (still_drewN w1 nq)⟩
            case measure => simp [intOf]; omega
          · have hSt := scan_stop e k q dk hkq.out (.inr hl)
            rw [hSt] at hSc
            by_cases h50 : e - a < 50
            · have h51 : (e : Int) - (a : Int) < 50 := by omega
              have hfin : PI = (dk, false) := by rw [← hPI.out]; exact pi_short2 a e s i k dk hs hSc.out.symm hke h50
              replace hfin := hide hfin
              go_wp2_with fail
              go_quiet ((go_at_call 43; exact Calls.quiet_of_same (Less_any _ _ _)))
              go_wp2_with fail
              rw [hfin.out]
              go_ret
              exact ⟨rfl, hr.on (still_drewN w1 nq), hK.still (still_drewN w1 nq)⟩
            · have h51 : ¬ (e : Int) - (a : Int) < 50 := by omega
              go_wp2_with fail
              go_quiet ((go_at_call 43; exact Calls.quiet_of_same (Less_any _ _ _)))
              have h51 : ¬ (e : Int) - (a : Int) < 50 := by omega
              go_wp2_with fail
              go_region
              obtain ⟨T1, T2⟩ := swp_world hr hK (i := k) (j := q) hin.1 hin.2 (nq + 1)
              have hs2 : (swp dk k q).size = d.size := by rw [size_swp]; exact hsj.out
              generalize ((w1.drewN (nq + 1)).setCell ⟨b, k, none⟩ (.int .u64 (el dk q))).setCell ⟨b, q, none⟩ (.int .u64 (el dk k)) = w2 at *
              replace T1 := hide T1
              replace T2 := hide T2
              replace hs2 := hide hs2
              replace hSc := hide (show scanSorted ltInt dk e i = k ∧ k = q + 1 from ⟨hSc.out.symm, hkq.out⟩)
              clear y1 y0 z1 z0 hr hK hin hsj
              obtain ⟨d1, hd1⟩ : ∃ d1, d1 = swp dk k q := ⟨_, rfl⟩
              rw [← hd1] at T1 hs2
              replace hd1 := hide hd1
              have hs1 := hs2
              clear hs2
              by_cases hdn : 2 ≤ k - a
              · have hdn2 : (2 : Int) ≤ (k : Int) - (a : Int) := by omega
                obtain ⟨SD, hSD⟩ : ∃ SD, shiftDown ltInt q d1 = SD := ⟨_, rfl⟩
                have hfd : fixDown ltInt a k d1 = SD := by rw [fixDown, if_pos hdn, ← hSD, show k - 1 = q by have := hkq.out; omega]
                replace hfd := hide hfd
                have hqv : (k : Int) - 1 = (q : Int) := by have := hkq.out; omega
                go_wp2_with fail
                go_loopw [9] (fun vj w9 => ∃ (j : Nat) (dj : Array Int), vj = .int .i64 j ∧ j ≤ q ∧ dj.size = d.size ∧ RowI w9 b dj ∧ shiftDown ltInt j dj = SD ∧ Kept (fun x => x = b) w w9) (fun vj _ => (intOf vj).toNat)
                case atStart => exact ⟨q, d1, by simp, Nat.le_refl _, hs1.out, T1.out, hSD, T2.out⟩
                case round =>
                  clear T1 T2 hs1 hSD
                  obtain ⟨j, dj, rfl, hjq, hsj, hr, hSD, hK⟩ := hrel
                  generalize wr = w6 at *
                  replace hsj := hide hsj
                  replace hSD := hide hSD
                  have hjk : j < k := by have := hkq.out; omega
                  by_cases hjz : j = 0
                  · have hDn : fixDown ltInt a k (swp dk k q) = dj := by rw [← hd1.out, hfd.out, ← hSD.out, down_halt j 0 dj (.inl hjz)]
                    have hj0 : ¬ 1 ≤ (j : Int) := by omega
                    replace hDn := hide hDn
                    have hPI2 := pi_go2 a e s i k dj hs hSc.out hke h50 hDn.out
                    rw [hPI.out] at hPI2
                    replace hPI2 := hide hPI2
                    by_cases hu : 2 ≤ e - k
                    · have hu2 : (2 : Int) ≤ (e : Int) - (k : Int) := by omega
                      obtain ⟨SU, hSU⟩ : ∃ SU, shiftUp ltInt e (k + 1) dj = SU := ⟨_, rfl⟩
                      have hHE : partialIns ltInt a e (5 - (s + 1)) k SU = PI := by rw [hPI2.out, ← hSU, fixUp, if_pos hu]
                      replace hHE := hide hHE
                      go_wp2_with fail
                      go_loopw [10] (fun vj w9 => ∃ (j : Nat) (du : Array Int), vj = .int .i64 j ∧ k + 1 ≤ j ∧ j ≤ e ∧ du.size = d.size ∧ RowI w9 b du ∧ shiftUp ltInt e j du = SU ∧ Kept (fun x => x = b) w w9) (fun vj _ => e - (intOf vj).toNat)
                      case atStart => exact ⟨k + 1, dj, by simp, Nat.le_refl _, by omega, hsj.out, hr, hSU, hK⟩
                      case round =>
                        clear hr hK hsj hSU hPI2 hDn
                        obtain ⟨j, du, rfl, hkj, hje, hsj, hr, hSU, hK⟩ := hrel
                        generalize wr = w8 at *
                        replace hsj := hide hsj
                        replace hSU := hide hSU
                        by_cases hj : j < e
                        · obtain ⟨q, hq⟩ : ∃ q, j = q + 1 := ⟨j - 1, by omega⟩
                          have hjm : (j : Int) - 1 = (q : Int) := by omega
                          have hj2 : (j : Int) < (e : Int) := by omega
                          have y1 : ∀ n, (w8.drewN n).cell? ⟨b, j, none⟩ = some (.int .u64 (el du j)) := fun n => hr.cell (by have := hsj.out; omega)
                          have y0 : ∀ n, (w8.drewN n).cell? ⟨b, q, none⟩ = some (.int .u64 (el du q)) := fun n => hr.cell (by have := hsj.out; omega)
                          have z1 : ∀ n, (w8.drewN n).frozen? ⟨b, j, none⟩ = false := fun n => hr.frozen _
                          have z0 : ∀ n, (w8.drewN n).frozen? ⟨b, q, none⟩ = false := fun n => hr.frozen _
                          have hb1 : (j : Int) < (d.size : Int) := by omega
                          have hb2 : 0 ≤ (j : Int) := by omega
                          have hb3 : (q : Int) < (d.size : Int) := by omega
                          have hb4 : 0 ≤ (q : Int) := by omega
                          have hin : j < du.size ∧ q < du.size := by have := hsj.out; omega
                          replace hq := hide hq
                          cases hl : ltInt (el du j) (el du q)
                          · have HEND : partialIns ltInt a e (5 - (s + 1)) k du = PI := by rw [← hHE.out, ← hSU.out, up_halt e j q du hq.out (.inr hl)]
                            replace HEND := hide HEND
                            go_wp2_with fail
                            go_quiet ((go_at_call 43; exact Calls.quiet_of_same (Less_any _ _ _)))
                            have hr9 := hr.on (still_drewN w8 nq)
                            have hK9 := hK.still (still_drewN w8 nq)
                            clear hr hK y1 y0 z1 z0
                            go_wp2_with fail
                            go_roundw
                            case rel => exact ⟨k, s + 1, du, rfl, by simp, by omega, by omega, by omega, hsj.out, hr9, HEND.out, hK9⟩
                            case measure => simp [intOf]; omega
                          · have hj3 : (j : Int) < (e : Int) := by omega
                            go_wp2_with fail
                            go_quiet ((go_at_call 43; exact Calls.quiet_of_same (Less_any _ _ _)))
                            go_wp2_with fail
                            go_region
                            obtain ⟨T1, T2⟩ := swp_world hr hK (i := j) (j := q) hin.1 hin.2 (nq + 1)
                            have hs2 : (swp du j q).size = d.size := by rw [size_swp]; exact hsj.out
                            generalize ((w8.drewN (nq + 1)).setCell ⟨b, j, none⟩ (.int .u64 (el du q))).setCell ⟨b, q, none⟩ (.int .u64 (el du j)) = w7 at *
                            replace T1 := hide T1
                            replace T2 := hide T2
                            replace hs2 := hide hs2
                            clear y1 y0 z1 z0
                            go_wp2_with fail
                            go_roundw
                            case rel => exact ⟨j + 1, _, by simp, by omega, by omega, hs2.out, T1.out, by rw [← hSU.out, up_more e j q du hq.out hj hl], T2.out⟩
                            case measure => simp [intOf]; omega
                        · have hj2 : ¬ (j : Int) < (e : Int) := by omega
                          have HEND : partialIns ltInt a e (5 - (s + 1)) k du = PI := by rw [← hHE.out, ← hSU.out, up_halt e j (j - 1) du (by omega) (.inl hj)]
                          replace HEND := hide HEND
                          go_wp2_with fail
                          go_roundw
                          case rel => exact ⟨k, s + 1, du, rfl, by simp, by omega, by omega, by omega, hsj.out, hr, HEND.out, hK⟩
                          case measure => simp [intOf]; omega
                    · have hu2 : ¬ (2 : Int) ≤ (e : Int) - (k : Int) := by omega
                      have HEND : partialIns ltInt a e (5 - (s + 1)) k dj = PI := by rw [hPI2.out, fixUp, if_neg hu]
                      replace HEND := hide HEND
                      go_wp2_with fail
                      go_roundw
                      case rel => exact ⟨k, s + 1, dj, rfl, by simp, by omega, by omega, by omega, hsj.out, hr, HEND.out, hK⟩
                      case measure => simp [intOf]; omega
                  · obtain ⟨p, hj⟩ : ∃ p, j = p + 1 := ⟨j - 1, by omega⟩
                    have hjm : (j : Int) - 1 = (p : Int) := by omega
                    have hj0 : 1 ≤ (j : Int) := by omega
                    have y1 : ∀ n, (w6.drewN n).cell? ⟨b, j, none⟩ = some (.int .u64 (el dj j)) := fun n => hr.cell (by have := hsj.out; omega)
                    have y0 : ∀ n, (w6.drewN n).cell? ⟨b, p, none⟩ = some (.int .u64 (el dj p)) := fun n => hr.cell (by have := hsj.out; omega)
                    have z1 : ∀ n, (w6.drewN n).frozen? ⟨b, j, none⟩ = false := fun n => hr.frozen _
                    have z0 : ∀ n, (w6.drewN n).frozen? ⟨b, p, none⟩ = false := fun n => hr.frozen _
                    have hb1 : (j : Int) < (d.size : Int) := by omega
                    have hb2 : 0 ≤ (j : Int) := by omega
                    have hb3 : (p : Int) < (d.size : Int) := by omega
                    have hb4 : 0 ≤ (p : Int) := by omega
                    have hin : j < dj.size ∧ p < dj.size := by have := hsj.out; omega
                    replace hj := hide hj
                    cases hl : ltInt (el dj j) (el dj p)
                    · have hDn : fixDown ltInt a k (swp dk k q) = dj := by rw [← hd1.out, hfd.out, ← hSD.out, down_halt j p dj (.inr ⟨hj.out, hl⟩)]
                      replace hDn := hide hDn
                      go_wp2_with fail
                      go_quiet ((go_at_call 43; exact Calls.quiet_of_same (Less_any _ _ _)))
                      have hr9 := hr.on (still_drewN w6 nq)
                      have hK9 := hK.still (still_drewN w6 nq)
                      clear hr hK y1 y0 z1 z0
                      generalize w6.drewN nq = w5 at *
                      have hr := hr9
                      have hK := hK9
                      clear hr9 hK9
                      have hPI2 := pi_go2 a e s i k dj hs hSc.out hke h50 hDn.out
                      rw [hPI.out] at hPI2
                      replace hPI2 := hide hPI2
                      by_cases hu : 2 ≤ e - k
                      · have hu2 : (2 : Int) ≤ (e : Int) - (k : Int) := by omega
                        obtain ⟨SU, hSU⟩ : ∃ SU, shiftUp ltInt e (k + 1) dj = SU := ⟨_, rfl⟩
                        have hHE : partialIns ltInt a e (5 - (s + 1)) k SU = PI := by rw [hPI2.out, ← hSU, fixUp, if_pos hu]
                        replace hHE := hide hHE
                        go_wp2_with fail
                        go_loopw [10] (fun vj w9 => ∃ (j : Nat) (du : Array Int), vj = .int .i64 j ∧ k + 1 ≤ j ∧ j ≤ e ∧ du.size = d.size ∧ RowI w9 b du ∧ shiftUp ltInt e j du = SU ∧ Kept (fun x => x = b) w w9) (fun vj _ => e - (intOf vj).toNat)
                        case atStart => exact ⟨k + 1, dj, by simp, Nat.le_refl _, by omega, hsj.out, hr, hSU, hK⟩
                        case round =>
                          clear hr hK hsj hSU hPI2 hDn
                          obtain ⟨j, du, rfl, hkj, hje, hsj, hr, hSU, hK⟩ := hrel
                          generalize wr = w8 at *
                          replace hsj := hide hsj
                          replace hSU := hide hSU
                          by_cases hj : j < e
                          · obtain ⟨q, hq⟩ : ∃ q, j = q + 1 := ⟨j - 1, by omega⟩
                            have hjm : (j : Int) - 1 = (q : Int) := by omega
                            have hj2 : (j : Int) < (e : Int) := by omega
                            have y1 : ∀ n, (w8.drewN n).cell? ⟨b, j, none⟩ = some (.int .u64 (el du j)) := fun n => hr.cell (by have := hsj.out; omega)
                            have y0 : ∀ n, (w8.drewN n).cell? ⟨b, q, none⟩ = some (.int .u64 (el du q)) := fun n => hr.cell (by have := hsj.out; omega)
                            have z1 : ∀ n, (w8.drewN n).frozen? ⟨b, j, none⟩ = false := fun n => hr.frozen _
                            have z0 : ∀ n, (w8.drewN n).frozen? ⟨b, q, none⟩ = false := fun n => hr.frozen _
                            have hb1 : (j : Int) < (d.size : Int) := by omega
                            have hb2 : 0 ≤ (j : Int) := by omega
                            have hb3 : (q : Int) < (d.size : Int) := by omega
                            have hb4 : 0 ≤ (q : Int) := by omega
                            have hin : j < du.size ∧ q < du.size := by have := hsj.out; omega
                            replace hq := hide hq
                            cases hl : ltInt (el du j) (el du q)
                            · have HEND : partialIns ltInt a e (5 - (s + 1)) k du = PI := by rw [← hHE.out, ← hSU.out, up_halt e j q du hq.out (.inr hl)]
                              replace HEND := hide HEND
                              go_wp2_with fail
                              go_quiet ((go_at_call 43; exact Calls.quiet_of_same (Less_any _ _ _)))
                              have hr9 := hr.on (still_drewN w8 nq)
                              have hK9 := hK.still (still_drewN w8 nq)
                              clear hr hK y1 y0 z1 z0
                              go_wp2_with fail
                              go_roundw
                              case rel => exact ⟨k, s + 1, du, rfl, by simp, by omega, by omega, by omega, hsj.out, hr9, HEND.out, hK9⟩
                              case measure => simp [intOf]; omega
                            · have hj3 : (j : Int) < (e : Int) := by omega
                              go_wp2_with fail
                              go_quiet ((go_at_call 43; exact Calls.quiet_of_same (Less_any _ _ _)))
                              go_wp2_with fail
                              go_region
                              obtain ⟨T1, T2⟩ := swp_world hr hK (i := j) (j := q) hin.1 hin.2 (nq + 1)
                              have hs2 : (swp du j q).size = d.size := by rw [size_swp]; exact hsj.out
                              generalize ((w8.drewN (nq + 1)).setCell ⟨b, j, none⟩ (.int .u64 (el du q))).setCell ⟨b, q, none⟩ (.int .u64 (el du j)) = w7 at *
                              replace T1 := hide T1
                              replace T2 := hide T2
                              replace hs2 := hide hs2
                              clear y1 y0 z1 z0
                              go_wp2_with fail
                              go_roundw
                              case rel => exact ⟨j + 1, _, by simp, by omega, by omega, hs2.out, T1.out, by rw [← hSU.out, up_more e j q du hq.out hj hl], T2.out⟩
                              case measure => simp [intOf]; omega
                          · have hj2 : ¬ (j : Int) < (e : Int) := by omega
                            have HEND : partialIns ltInt a e (5 - (s + 1)) k du = PI := by rw [← hHE.out, ← hSU.out, up_halt e j (j - 1) du (by omega) (.inl hj)]
                            replace HEND := hide HEND
                            go_wp2_with fail
                            go_roundw
                            case rel => exact ⟨k, s + 1, du, rfl, by simp, by omega, by omega, by omega, hsj.out, hr, HEND.out, hK⟩
                            case measure => simp [intOf]; omega
                      · have hu2 : ¬ (2 : Int) ≤ (e : Int) - (k : Int) := by omega
                        have HEND : partialIns ltInt a e (5 - (s + 1)) k dj = PI := by rw [hPI2.out, fixUp, if_neg hu]
                        replace HEND := hide HEND
                        go_wp2_with fail
                        go_roundw
                        case rel => exact ⟨k, s + 1, dj, rfl, by simp, by omega, by omega, by omega, hsj.out, hr, HEND.out, hK⟩
                        case measure => simp [intOf]; omega
                    · go_wp2_with fail
                      go_quiet ((go_at_call 43; exact Calls.quiet_of_same (Less_any _ _ _)))
                      go_wp2_with fail
                      go_region
                      obtain ⟨T1, T2⟩ := swp_world hr hK (i := j) (j := p) hin.1 hin.2 (nq + 1)
                      have hs2 : (swp dj j p).size = d.size := by rw [size_swp]; exact hsj.out
                      generalize ((w6.drewN (nq + 1)).setCell ⟨b, j, none⟩ (.int .u64 (el dj p))).setCell ⟨b, p, none⟩ (.int .u64 (el dj j)) = w7 at *
                      replace T1 := hide T1
                      replace T2 := hide T2
                      replace hs2 := hide hs2
                      clear y1 y0 z1 z0
                      go_wp2_with fail
                      go_roundw
                      case rel => exact ⟨p, _, by simp, by have := hj.out; omega, hs2.out, T1.out, by rw [← hSD.out, down_more j p dj hj.out hl], T2.out⟩
                      case measure => simp [intOf]; have := hj.out; omega
              · have hdn2 : ¬ (2 : Int) ≤ (k : Int) - (a : Int) := by omega
                have hDn : fixDown ltInt a k (swp dk k q) = d1 := by rw [← hd1.out, fixDown, if_neg hdn]
                replace hDn := hide hDn
                have hr := T1.out
                have hK := T2.out
                have hsj := hs1
                clear T1 T2 hs1
                have hPI2 := pi_go2 a e s i k d1 hs hSc.out hke h50 hDn.out
                rw [hPI.out] at hPI2
                replace hPI2 := hide hPI2
                by_cases hu : 2 ≤ e - k
                · have hu2 : (2 : Int) ≤ (e : Int) - (k : Int) := by omega
                  obtain ⟨SU, hSU⟩ : ∃ SU, shiftUp ltInt e (k + 1) d1 = SU := ⟨_, rfl⟩
                  have hHE : partialIns ltInt a e (5 - (s + 1)) k SU = PI := by rw [hPI2.out, ← hSU, fixUp, if_pos hu]
                  replace hHE := hide hHE
                  go_wp2_with fail
                  go_loopw [10] (fun vj w9 => ∃ (j : Nat) (du : Array Int), vj = .int .i64 j ∧ k + 1 ≤ j ∧ j ≤ e ∧ du.size = d.size ∧ RowI w9 b du ∧ shiftUp ltInt e j du = SU ∧ Kept (fun x => x = b) w w9) (fun vj _ => e - (intOf vj).toNat)
                  case atStart => exact ⟨k + 1, d1, by simp, Nat.le_refl _, by omega, hsj.out, hr, hSU, hK⟩
                  case round =>
                    clear hr hK hsj hSU hPI2 hDn
                    obtain ⟨j, du, rfl, hkj, hje, hsj, hr, hSU, hK⟩ := hrel
                    generalize wr = w8 at *
                    replace hsj := hide hsj
                    replace hSU := hide hSU
                    by_cases hj : j < e
                    · obtain ⟨q, hq⟩ : ∃ q, j = q + 1 := ⟨j - 1, by omega⟩
                      have hjm : (j : Int) - 1 = (q : Int) := by omega
                      have hj2 : (j : Int) < (e : Int) := by omega
                      have y1 : ∀ n, (w8.drewN n).cell? ⟨b, j, none⟩ = some (.int .u64 (el du j)) := fun n => hr.cell (by have := hsj.out; omega)
                      have y0 : ∀ n, (w8.drewN n).cell? ⟨b, q, none⟩ = some (.int .u64 (el du q)) := fun n => hr.cell (by have := hsj.out; omega)
                      have z1 : ∀ n, (w8.drewN n).frozen? ⟨b, j, none⟩ = false := fun n => hr.frozen _
                      have z0 : ∀ n, (w8.drewN n).frozen? ⟨b, q, none⟩ = false := fun n => hr.frozen _
                      have hb1 : (j : Int) < (d.size : Int) := by omega
                      have hb2 : 0 ≤ (j : Int) := by omega
                      have hb3 : (q : Int) < (d.size : Int) := by omega
                      have hb4 : 0 ≤ (q : Int) := by omega
                      have hin : j < du.size ∧ q < du.size := by have := hsj.out; omega
                      replace hq := hide hq
                      cases hl : ltInt (el du j) (el du q)
                      · have HEND : partialIns ltInt a e (5 - (s + 1)) k du = PI := by rw [← hHE.out, ← hSU.out, up_halt e j q du hq.out (.inr hl)]
                        replace HEND := hide HEND
                        go_wp2_with fail
                        go_quiet ((go_at_call 43; exact Calls.quiet_of_same (Less_any _ _ _)))
                        have hr9 := hr.on (still_drewN w8 nq)
                        have hK9 := hK.still (still_drewN w8 nq)
                        clear hr hK y1 y0 z1 z0
                        go_wp2_with fail
                        go_roundw
                        case rel => exact ⟨k, s + 1, du, rfl, by simp, by omega, by omega, by omega, hsj.out, hr9, HEND.out, hK9⟩
                        case measure => simp [intOf]; omega
                      · have hj3 : (j : Int) < (e : Int) := by omega
                        go_wp2_with fail
                        go_quiet ((go_at_call 43; exact Calls.quiet_of_same (Less_any _ _ _)))
                        go_wp2_with fail
                        go_region
                        obtain ⟨T1, T2⟩ := swp_world hr hK (i := j) (j := q) hin.1 hin.2 (nq + 1)
                        have hs2 : (swp du j q).size = d.size := by rw [size_swp]; exact hsj.out
                        generalize ((w8.drewN (nq + 1)).setCell ⟨b, j, none⟩ (.int .u64 (el du q))).setCell ⟨b, q, none⟩ (.int .u64 (el du j)) = w7 at *
                        replace T1 := hide T1
                        replace T2 := hide T2
                        replace hs2 := hide hs2
                        clear y1 y0 z1 z0
                        go_wp2_with fail
                        go_roundw
                        case rel => exact ⟨j + 1, _, by simp, by omega, by omega, hs2.out, T1.out, by rw [← hSU.out, up_more e j q du hq.out hj hl], T2.out⟩
                        case measure => simp [intOf]; omega
                    · have hj2 : ¬ (j : Int) < (e : Int) := by omega
                      have HEND : partialIns ltInt a e (5 - (s + 1)) k du = PI := by rw [← hHE.out, ← hSU.out, up_halt e j (j - 1) du (by omega) (.inl hj)]
                      replace HEND := hide HEND
                      go_wp2_with fail
                      go_roundw
                      case rel => exact ⟨k, s + 1, du, rfl, by simp, by omega, by omega, by omega, hsj.out, hr, HEND.out, hK⟩
                      case measure => simp [intOf]; omega
                · have hu2 : ¬ (2 : Int) ≤ (e : Int) - (k : Int) := by omega
                  have HEND : partialIns ltInt a e (5 - (s + 1)) k d1 = PI := by rw [hPI2.out, fixUp, if_neg hu]
                  replace HEND := hide HEND
                  go_wp2_with fail
                  go_roundw
                  case rel => exact ⟨k, s + 1, d1, rfl, by simp, by omega, by omega, by omega, hsj.out, hr, HEND.out, hK⟩
                  case measure => simp [intOf]; omega
        · have hke2 : ¬ (k : Int) < (e : Int) := by omega
          obtain rfl : k = e := by omega
          have hke4 : decide ((k : Int) < (k : Int)) = false := by simp
          have hfin : PI = (dk, true) := by rw [← hPI.out]; exact pi_true2 a k s i dk hs (by rw [← hSc.out, scan_stop k k (k - 1) dk (by omega) (.inl (by omega))])
          replace hfin := hide hfin
          go_wp2_with fail
          go_quiet (fail)
          go_wp2_with fail
          rw [hfin.out]
          go_ret
          exact ⟨rfl, hr.on (still_drewN w1 nq), hK.still (still_drewN w1 nq)⟩
    · obtain rfl : s = 5 := by omega
      have hfin : PI = (dk, false) := by rw [← hPI.out]; rfl
      replace hfin := hide hfin
      go_wp2_with fail
      rw [hfin.out]
      go_ret
      exact ⟨rfl, hr, hK⟩
end Go.Proofs.Ytpflodhnniochaa
