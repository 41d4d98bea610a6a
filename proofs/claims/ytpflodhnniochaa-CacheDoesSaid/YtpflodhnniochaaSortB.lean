/-
  reverseRange; the heap sort.
-/
import Derived.Test.YtpflodhnniochaaSortA
namespace Go.Proofs.Ytpflodhnniochaa
set_option linter.unusedVariables false
open Go.RowKit Go.Sort

set_option maxRecDepth 20000 in
set_option maxHeartbeats 4000000 in
theorem Rev_any (w : World) (b c a e : Nat) (d : Array Int) (h : RowI w b d) (hae : a < e) (hed : e ≤ d.size) (hsz : d.size < 1000000) :
    Calls Try.prog 41 #[.slice (some ⟨b, 0, none⟩) d.size c, .int .i64 a, .int .i64 e] w fun r w' => r = .returned (.tuple #[]) ∧ ∃ d', PermIn a e d d' ∧ Turns w w' b d' := by
  obtain ⟨e, rfl⟩ : ∃ k, e = k + 1 := ⟨e - 1, by omega⟩
  have he1 : ((e + 1 : Nat) : Int) = (e : Int) + 1 := by omega
  rw [he1]
  go_enter Try.func41, Try.ntmps41
  go_wp2_with fail
  go_loopw [6, 7] (fun vi vj wr => ∃ (i j : Nat) (dk : Array Int), vi = .int .i64 i ∧ vj = .int .i64 j ∧ a ≤ i ∧ j ≤ e ∧ PermIn a (e + 1) d dk ∧ RowI wr b dk ∧ Kept (fun x => x = b) w wr) (fun vi vj _ => (intOf vj - intOf vi).toNat)
  case atStart => exact ⟨a, e, d, rfl, rfl, Nat.le_refl _, Nat.le_refl _, permIn_refl _ _ _, h, Kept.refl _ _⟩
  case round =>
    clear h
    obtain ⟨i, j, dk, rfl, rfl, hai, hje, hP, hr, hK⟩ := hrel
    have hsk : dk.size = d.size := hP.1
    by_cases hij : i < j
    · have y1 := hr.cell (i := i) (by omega)
      have y0 := hr.cell (i := j) (by omega)
      have z1 := hr.frozen i
      have z0 := hr.frozen j
      have hd1 : (i : Int) < (j : Int) := by omega
      have hd2 : (j : Int) < (d.size : Int) := by omega
      have hd3 : (i : Int) < (d.size : Int) := by omega
      have hd4 : (d.size : Int) < 1000000 := by omega
      have hd5 : 0 ≤ (i : Int) := by omega
      have hd6 : 0 ≤ (j : Int) := by omega
      obtain ⟨S1, S2⟩ := swp_drew hr hK (i := i) (j := j) (by omega) (by omega)
      have hP2 := permIn_trans _ _ _ _ _ hP (swp_permIn dk a (e + 1) i j hai (by omega) (by omega) (by omega) (by omega))
      replace S1 := hide S1
      replace S2 := hide S2
      replace hP2 := hide hP2
      replace hP := hide hP
      go_wp2_with fail
      go_region
      generalize (((wr.setCell ⟨b, i, none⟩ (.int .u64 (el dk j))).setCell ⟨b, j, none⟩ (.int .u64 (el dk i))).drew) = w5 at *
      clear y0 y1 z0 z1
      go_wp2_with fail
      go_roundw
      case rel => exact ⟨i + 1, j - 1, _, by simp, by congr 1; omega, by omega, by omega, hP2.out, S1.out, S2.out⟩
      case measure => simp [intOf]; omega
    · have hd1 : ¬ (i : Int) < (j : Int) := by omega
      go_wp2_with fail
      exact bodyPost_end (results_none rfl _ _ _) rfl ⟨rfl, dk, hP, hr, hK⟩
theorem sift_step (root hi first : Nat) (d : Array Int) (h : 2 * root + 1 < hi) :
    siftDown ltInt hi first root d = if 2 * root + 1 + 1 < hi ∧ ltInt (el d (first + (2 * root + 1))) (el d (first + (2 * root + 1) + 1)) = true then (if ltInt (el d (first + root)) (el d (first + (2 * root + 1) + 1)) = true then siftDown ltInt hi first (2 * root + 1 + 1) (swp d (first + root) (first + (2 * root + 1) + 1)) else d)
      else if ltInt (el d (first + root)) (el d (first + (2 * root + 1))) = true then siftDown ltInt hi first (2 * root + 1) (swp d (first + root) (first + (2 * root + 1))) else d := by
  unfold el
  rw [siftDown, dif_neg (by omega)]
  have e : first + (2 * root + 2) = first + (2 * root + 1) + 1 := by omega
  by_cases h1 : 2 * root + 1 + 1 < hi ∧ ltInt d[first + (2 * root + 1)]! d[first + (2 * root + 1) + 1]! = true
  · rw [if_pos h1, if_pos (by simp [h1.1, h1.2]), e]
    by_cases h2 : ltInt d[first + root]! d[first + (2 * root + 1) + 1]! = true
    · rw [if_pos h2, if_neg (by simp [h2]), dif_pos (by omega)]
    · rw [if_neg h2, if_pos (by simpa using h2)]
  · rw [if_neg h1, if_neg (by simpa using h1)]
    by_cases h2 : ltInt d[first + root]! d[first + (2 * root + 1)]! = true
    · rw [if_pos h2, if_neg (by simp [h2])]
    · rw [if_neg h2, if_pos (by simpa using h2)]
set_option maxRecDepth 20000 in
set_option maxHeartbeats 4000000 in
theorem Sift_any (w : World) (b c lo hi first : Nat) (d : Array Int) (h : RowI w b d) (hlo : lo ≤ hi) (hed : first + hi ≤ d.size) (hsz : d.size < 1000000) :
    Calls Try.prog 48 #[.slice (some ⟨b, 0, none⟩) d.size c, .int .i64 lo, .int .i64 hi, .int .i64 first] w fun r w' => r = .returned (.tuple #[]) ∧ Turns w w' b (siftDown ltInt hi first lo d) := by
  go_enter Try.func48, Try.ntmps48
  go_wp2_with fail
  go_loopw [8] (fun vr wr => ∃ (root : Nat) (dk : Array Int), vr = .int .i64 root ∧ lo ≤ root ∧ root ≤ hi ∧ dk.size = d.size ∧ RowI wr b dk ∧ siftDown ltInt hi first root dk = siftDown ltInt hi first lo d ∧ Kept (fun x => x = b) w wr) (fun vr _ => hi + 1 - (intOf vr).toNat)
  case atStart => exact ⟨lo, d, rfl, Nat.le_refl _, hlo, rfl, h, rfl, Kept.refl _ _⟩
  case round =>
    clear h
    obtain ⟨root, dk, rfl, hlr, hrh, hsk, hr, hS, hK⟩ := hrel
    have hd0 : 0 ≤ (root : Int) := by omega
    have hd1 : (hi : Int) < 1000000 := by omega
    have hd2 : (root : Int) ≤ (hi : Int) := by omega
    by_cases hch : hi ≤ 2 * root + 1
    · have hge : (hi : Int) ≤ 2 * (root : Int) + 1 := by omega
      have hstop : siftDown ltInt hi first root dk = dk := by rw [siftDown, dif_pos hch]
      rw [hstop] at hS
      go_wp2_with fail
      exact bodyPost_end (results_none rfl _ _ _) rfl ⟨rfl, by rw [← hS]; exact hr, hK⟩
    · obtain ⟨ch, hch2⟩ : ∃ ch, ch = 2 * root + 1 := ⟨_, rfl⟩
      have hge : ¬ (hi : Int) ≤ (ch : Int) := by omega
      have hcc : 2 * (root : Int) + 1 = (ch : Int) := by omega
      have hlc : ch < hi := by omega
      obtain ⟨pc, hpc⟩ : ∃ pc, pc = first + ch := ⟨_, rfl⟩
      obtain ⟨pr, hpr⟩ : ∃ pr, pr = first + root := ⟨_, rfl⟩
      have hw1 : IntKind.i64.wrap ((first : Int) + (ch : Int)) = (pc : Int) := by rw [IntKind.wrap_i64]; omega
      have hw2 : IntKind.i64.wrap ((first : Int) + (root : Int)) = (pr : Int) := by rw [IntKind.wrap_i64]; omega
      have hw3 : IntKind.i64.wrap ((pc : Int) + 1) = ((pc : Int) + 1) := by rw [IntKind.wrap_i64]; omega
      have hw4 : IntKind.i64.wrap ((first : Int) + ((ch : Int) + 1)) = ((pc : Int) + 1) := by rw [IntKind.wrap_i64]; omega
      have hs1 : (first : Int) + (ch : Int) = (pc : Int) := by omega
      have hs2 : (first : Int) + (root : Int) = (pr : Int) := by omega
      have yr : ∀ n, (wr.drewN n).cell? ⟨b, pr, none⟩ = some (.int .u64 (el dk pr)) := fun n => hr.cell (by omega)
      have yc : ∀ n, (wr.drewN n).cell? ⟨b, pc, none⟩ = some (.int .u64 (el dk pc)) := fun n => hr.cell (by omega)
      have hd3 : (pr : Int) < (d.size : Int) := by omega
      have hd4 : (pc : Int) < (d.size : Int) := by omega
      have hd5 : 0 ≤ (pr : Int) := by omega
      have hd6 : 0 ≤ (pc : Int) := by omega
      have hd7 : (d.size : Int) < 1000000 := by omega
      have hpd : pc + 1 < d.size ∨ ¬ ch + 1 < hi := by omega
      have hin : pr < dk.size ∧ pc < dk.size ∧ pr ≠ pc := by omega
      have hroot : root < ch := by omega
      have hst := sift_step root hi first dk (hch2 ▸ hlc)
      rw [← hch2, ← hpc, ← hpr] at hst
      replace hst := hide hst
      replace hpc := hide hpc
      replace hpr := hide hpr
      replace hch2 := hide hch2
      replace hS := hide hS
      by_cases h1 : ch + 1 < hi
      · have hg1 : decide ((ch : Int) + 1 < (hi : Int)) = true := decide_eq_true (by omega)
        have yd : ∀ n, (wr.drewN n).cell? ⟨b, pc + 1, none⟩ = some (.int .u64 (el dk (pc + 1))) := fun n => hr.cell (by omega)
        have hd8 : ((pc : Int) + 1) < (d.size : Int) := by omega
        cases hl : ltInt (el dk pc) (el dk (pc + 1))
        · have hpn := hin.2.1
          go_wp2_with fail
          go_quiet ((go_at_call 43; exact Calls.quiet_of_same (Less_any _ _ _)))
          go_wp2_with fail
          have hr1 := hr.on (still_drewN wr nq)
          have hK1 := hK.still (still_drewN wr nq)
          clear yr yc hr hK yd
          generalize wr.drewN nq = w1 at *
          have yr : ∀ n, (w1.drewN n).cell? ⟨b, pr, none⟩ = some (.int .u64 (el dk pr)) := fun n => hr1.cell hin.1
          have yp : ∀ n, (w1.drewN n).cell? ⟨b, pc, none⟩ = some (.int .u64 (el dk (pc))) := fun n => hr1.cell hpn
          have zr : ∀ n, (w1.drewN n).frozen? ⟨b, pr, none⟩ = false := fun n => hr1.frozen _
          have zp : ∀ n, (w1.drewN n).frozen? ⟨b, pc, none⟩ = false := fun n => hr1.frozen _
          cases hl2 : ltInt (el dk pr) (el dk (pc))
          · have hfin : siftDown ltInt hi first root dk = dk := by rw [hst.out, if_neg (fun e => by rw [hl] at e; cases e.2), if_neg (by rw [hl2]; simp)]
            rw [hfin] at hS
            go_wp2_with fail
            go_quiet ((go_at_call 43; exact Calls.quiet_of_same (Less_any _ _ _)))
            go_wp2_with fail
            exact bodyPost_ret (results_none rfl _ _ _) rfl ⟨rfl, by rw [← hS.out]; exact hr1.on (still_drewN _ _), hK1.still (still_drewN _ _)⟩
          · have hfin : siftDown ltInt hi first root dk = siftDown ltInt hi first (ch) (swp dk pr (pc)) := by rw [hst.out, if_neg (fun e => by rw [hl] at e; cases e.2), if_pos hl2]
            replace hfin := hide hfin
            go_wp2_with fail
            go_quiet ((go_at_call 43; exact Calls.quiet_of_same (Less_any _ _ _)))
            go_wp2_with fail
            go_region
            obtain ⟨S1, S2⟩ := swp_world hr1 hK1 (i := pr) (j := pc) hin.1 hpn (nq + 1)
            generalize ((w1.drewN (nq + 1)).setCell ⟨b, pr, none⟩ (.int .u64 (el dk (pc)))).setCell ⟨b, pc, none⟩ (.int .u64 (el dk pr)) = w5 at *
            clear yr yp zr zp
            go_wp2_with fail
            go_roundw
            case rel => exact ⟨ch, _, by simp, by omega, by omega, by rw [size_swp]; exact hsk, S1, by rw [← hS.out, hfin.out], S2⟩
            case measure => simp [intOf]; omega
        · have hpn : pc + 1 < dk.size := by omega
          go_wp2_with fail
          go_quiet ((go_at_call 43; exact Calls.quiet_of_same (Less_any _ _ _)))
          go_wp2_with fail
          have hr1 := hr.on (still_drewN wr nq)
          have hK1 := hK.still (still_drewN wr nq)
          clear yr yc hr hK yd
          generalize wr.drewN nq = w1 at *
          have yr : ∀ n, (w1.drewN n).cell? ⟨b, pr, none⟩ = some (.int .u64 (el dk pr)) := fun n => hr1.cell hin.1
          have yp : ∀ n, (w1.drewN n).cell? ⟨b, pc + 1, none⟩ = some (.int .u64 (el dk (pc + 1))) := fun n => hr1.cell hpn
          have zr : ∀ n, (w1.drewN n).frozen? ⟨b, pr, none⟩ = false := fun n => hr1.frozen _
          have zp : ∀ n, (w1.drewN n).frozen? ⟨b, pc + 1, none⟩ = false := fun n => hr1.frozen _
          cases hl2 : ltInt (el dk pr) (el dk (pc + 1))
          · have hfin : siftDown ltInt hi first root dk = dk := by rw [hst.out, if_pos ⟨h1, hl⟩, if_neg (by rw [hl2]; simp)]
            rw [hfin] at hS
            go_wp2_with fail
            go_quiet ((go_at_call 43; exact Calls.quiet_of_same (Less_any _ _ _)))
            go_wp2_with fail
            exact bodyPost_ret (results_none rfl _ _ _) rfl ⟨rfl, by rw [← hS.out]; exact hr1.on (still_drewN _ _), hK1.still (still_drewN _ _)⟩
          · have hfin : siftDown ltInt hi first root dk = siftDown ltInt hi first (ch + 1) (swp dk pr (pc + 1)) := by rw [hst.out, if_pos ⟨h1, hl⟩, if_pos hl2]
            replace hfin := hide hfin
            go_wp2_with fail
            go_quiet ((go_at_call 43; exact Calls.quiet_of_same (Less_any _ _ _)))
            go_wp2_with fail
            go_region
            obtain ⟨S1, S2⟩ := swp_world hr1 hK1 (i := pr) (j := pc + 1) hin.1 hpn (nq + 1)
            generalize ((w1.drewN (nq + 1)).setCell ⟨b, pr, none⟩ (.int .u64 (el dk (pc + 1)))).setCell ⟨b, pc + 1, none⟩ (.int .u64 (el dk pr)) = w5 at *
            clear yr yp zr zp
            go_wp2_with fail
            go_roundw
            case rel => exact ⟨ch + 1, _, by simp, by omega, by omega, by rw [size_swp]; exact hsk, S1, by rw [← hS.out, hfin.out], S2⟩
            case measure => simp [intOf]; omega
      · have hg1 : decide ((ch : Int) + 1 < (hi : Int)) = false := decide_eq_false (by omega)
        have hpn := hin.2.1
        go_wp2_with fail
        go_quiet ((go_at_call 43; exact Calls.quiet_of_same (Less_any _ _ _)))
        go_wp2_with fail
        have hr1 := hr.on (still_drewN wr nq)
        have hK1 := hK.still (still_drewN wr nq)
        clear yr yc hr hK
        generalize wr.drewN nq = w1 at *
        have yr : ∀ n, (w1.drewN n).cell? ⟨b, pr, none⟩ = some (.int .u64 (el dk pr)) := fun n => hr1.cell hin.1
        have yp : ∀ n, (w1.drewN n).cell? ⟨b, pc, none⟩ = some (.int .u64 (el dk (pc))) := fun n => hr1.cell hpn
        have zr : ∀ n, (w1.drewN n).frozen? ⟨b, pr, none⟩ = false := fun n => hr1.frozen _
        have zp : ∀ n, (w1.drewN n).frozen? ⟨b, pc, none⟩ = false := fun n => hr1.frozen _
        cases hl2 : ltInt (el dk pr) (el dk (pc))
        · have hfin : siftDown ltInt hi first root dk = dk := by rw [hst.out, if_neg (fun e => h1 e.1), if_neg (by rw [hl2]; simp)]
          rw [hfin] at hS
          go_wp2_with fail
          go_quiet ((go_at_call 43; exact Calls.quiet_of_same (Less_any _ _ _)))
          go_wp2_with fail
          exact bodyPost_ret (results_none rfl _ _ _) rfl ⟨rfl, by rw [← hS.out]; exact hr1.on (still_drewN _ _), hK1.still (still_drewN _ _)⟩
        · have hfin : siftDown ltInt hi first root dk = siftDown ltInt hi first (ch) (swp dk pr (pc)) := by rw [hst.out, if_neg (fun e => h1 e.1), if_pos hl2]
          replace hfin := hide hfin
          go_wp2_with fail
          go_quiet ((go_at_call 43; exact Calls.quiet_of_same (Less_any _ _ _)))
          go_wp2_with fail
          go_region
          obtain ⟨S1, S2⟩ := swp_world hr1 hK1 (i := pr) (j := pc) hin.1 hpn (nq + 1)
          generalize ((w1.drewN (nq + 1)).setCell ⟨b, pr, none⟩ (.int .u64 (el dk (pc)))).setCell ⟨b, pc, none⟩ (.int .u64 (el dk pr)) = w5 at *
          clear yr yp zr zp
          go_wp2_with fail
          go_roundw
          case rel => exact ⟨ch, _, by simp, by omega, by omega, by rw [size_swp]; exact hsk, S1, by rw [← hS.out, hfin.out], S2⟩
          case measure => simp [intOf]; omega
theorem sift_size (hi first : Nat) : ∀ (N root : Nat) (d : Array Int), hi - root ≤ N → (siftDown ltInt hi first root d).size = d.size
  | 0, root, d, h => by rw [siftDown, dif_pos (by omega)]
  | N + 1, root, d, h => by
    by_cases h1 : 2 * root + 1 < hi
    · rw [sift_step root hi first d h1]
      split
      · split
        · rw [sift_size hi first N _ _ (by omega), size_swp]
        · rfl
      · split
        · rw [sift_size hi first N _ _ (by omega), size_swp]
        · rfl
    · rw [siftDown, dif_pos (by omega)]
set_option maxRecDepth 20000 in
set_option maxHeartbeats 4000000 in
theorem Heap_any (w : World) (b c a e : Nat) (d : Array Int) (h : RowI w b d) (hae : a < e) (hed : e ≤ d.size) (hsz : d.size < 1000000) :
    Calls Try.prog 38 #[.slice (some ⟨b, 0, none⟩) d.size c, .int .i64 a, .int .i64 e] w fun r w' => r = .returned (.tuple #[]) ∧ Turns w w' b (heapSort ltInt d a e) := by
  obtain ⟨n, hn⟩ : ∃ n, n = e - a := ⟨_, rfl⟩
  have hnn : (e : Int) - (a : Int) = (n : Int) := by omega
  have hn0 : 1 ≤ n := by omega
  have hn1 : (n : Int) < 1000000 := by omega
  have hn2 : 1 ≤ (n : Int) := by omega
  have ha1 : (a : Int) < 1000000 := by omega
  have he1 : (e : Int) < 1000000 := by omega
  have hsort : heapSort ltInt d a e = heapPop ltInt a n (heapBuild ltInt n a ((n - 1) / 2 + 1) d) := by unfold heapSort; rw [hn]
  rw [hsort]
  have hstart : ((n : Int) - 1) / 2 = (((n - 1) / 2 + 1 : Nat) : Int) - 1 := by omega
  have hbd : (n - 1) / 2 + 1 ≤ n := by omega
  have hda : a + n ≤ d.size := by omega
  clear hsort
  replace hn := hide hn
  replace hstart := hide hstart
  generalize (n - 1) / 2 + 1 = K0 at *
  go_enter Try.func38, Try.ntmps38
  go_wp2_with fail
  go_loopw [9] (fun vi wr => ∃ (k : Nat) (dk : Array Int), vi = .int .i64 ((k : Int) - 1) ∧ k ≤ K0 ∧ dk.size = d.size ∧ RowI wr b dk ∧ heapBuild ltInt n a k dk = heapBuild ltInt n a K0 d ∧ Kept (fun x => x = b) w wr) (fun vi _ => (intOf vi + 1).toNat)
  case atStart => exact ⟨K0, d, by rw [hstart.out], Nat.le_refl _, rfl, h, rfl, Kept.refl _ _⟩
  case round =>
    clear h
    obtain ⟨k, dk, rfl, hk, hsk, hr, hB, hK⟩ := hrel
    cases k with
    | zero =>
      have hz : ((0 : Nat) : Int) - 1 = -1 := by omega
      rw [hz]
      replace hB : dk = heapBuild ltInt n a K0 d := hB
      replace hB := hide hB
      have hst2 : ((n : Int) - 1) = ((n : Nat) : Int) - 1 := rfl
      go_wp2_with fail
      go_loopw [10] (fun vi wr => ∃ (k : Nat) (dj : Array Int), vi = .int .i64 ((k : Int) - 1) ∧ k ≤ n ∧ dj.size = d.size ∧ RowI wr b dj ∧ heapPop ltInt a k dj = heapPop ltInt a n dk ∧ Kept (fun x => x = b) w wr) (fun vi _ => (intOf vi + 1).toNat)
      case atStart => exact ⟨n, dk, rfl, Nat.le_refl _, hsk, hr, rfl, hK⟩
      case round =>
        clear hr hK hst2
        obtain ⟨k, dj, rfl, hk, hsj, hr, hP, hK⟩ := hrel
        cases k with
        | zero =>
          have hz2 : ((0 : Nat) : Int) - 1 = -1 := by omega
          rw [hz2]
          replace hP : dj = heapPop ltInt a n dk := hP
          replace hP := hide hP
          go_wp2_with fail
          exact bodyPost_end (results_none rfl _ _ _) rfl ⟨rfl, by rw [← hB.out, ← hP.out]; exact hr, hK⟩
        | succ k =>
          have hk1 : (((k + 1 : Nat) : Int) - 1) = (k : Int) := by omega
          rw [hk1]
          obtain ⟨p, hp⟩ : ∃ p, p = a + k := ⟨_, rfl⟩
          have hw1 : IntKind.i64.wrap ((a : Int) + (k : Int)) = (p : Int) := by rw [IntKind.wrap_i64]; omega
          have hs1 : (a : Int) + (k : Int) = (p : Int) := by omega
          have hd1 : (p : Int) < (d.size : Int) := by omega
          have hd2 : (a : Int) < (d.size : Int) := by omega
          have hd3 : 0 ≤ (p : Int) := by omega
          have hd4 : 0 ≤ (a : Int) := by omega
          have hd5 : (d.size : Int) < 1000000 := by omega
          have hin : a < dj.size ∧ p < dj.size := by omega
          have hk0 : 0 ≤ (k : Int) := by omega
          have hk2 : (k : Int) < 1000000 := by omega
          have hP2 : heapPop ltInt a k (siftDown ltInt k a 0 (swp dj a p)) = heapPop ltInt a n dk := by rw [hp]; exact hP
          have y0 := hr.cell hin.1
          have y1 := hr.cell hin.2
          have z0 := hr.frozen a
          have z1 := hr.frozen p
          have y2 := (hr.set hin.1 (el dj p)).cell (i := p) (by simpa using hin.2)
          have z2 := (hr.set hin.1 (el dj p)).frozen p
          obtain ⟨S1, S2⟩ := swp_drew hr hK hin.1 hin.2
          have hsw : (swp dj a p).size = d.size := by rw [size_swp]; exact hsj
          have hsft := fun w' (h' : RowI w' b (swp dj a p)) => Sift_any w' b c 0 k a (swp dj a p) h' (Nat.zero_le _) (by rw [hsw]; omega) (by omega)
          have hsz2 : (siftDown ltInt k a 0 (swp dj a p)).size = d.size := by rw [sift_size k a k 0 _ (by omega)]; exact hsw
          rw [hsw] at hsft
          replace hp := hide hp
          replace hP2 := hide hP2
          replace hsz2 := hide hsz2
          replace S1 := hide S1
          replace S2 := hide S2
          replace hsft := hide hsft
          clear hP hsw
          go_wp2_with fail
          go_region
          generalize ((wr.setCell ⟨b, a, none⟩ (.int .u64 (el dj p))).setCell ⟨b, p, none⟩ (.int .u64 (el dj a))).drew = w5 at *
          clear y0 y1 z0 z1 y2 z2
          go_wp2_with fail
          go_at_call 48
          refine (hsft.out _ S1.out).mono ?_
          rintro r w6 ⟨rfl, hr6, hK6⟩
          go_wp2_with fail
          go_roundw
          case rel => exact ⟨k, _, rfl, by omega, hsz2.out, hr6, hP2.out, S2.out.trans hK6⟩
          case measure => simp [intOf]
    | succ k =>
      have hk1 : (((k + 1 : Nat) : Int) - 1) = (k : Int) := by omega
      rw [hk1]
      have hS := Sift_any wr b c k n a dk hr (by omega) (by omega) (by omega)
      rw [hsk] at hS
      have hk0 : 0 ≤ (k : Int) := by omega
      have hk2 : (k : Int) < 1000000 := by omega
      have hB2 : heapBuild ltInt n a k (siftDown ltInt n a k dk) = heapBuild ltInt n a K0 d := hB
      replace hB2 := hide hB2
      have hsz2 : (siftDown ltInt n a k dk).size = dk.size := sift_size n a n k dk (by omega)
      replace hsz2 := hide hsz2
      clear hB
      go_wp2_with fail
      go_at_call 48
      refine hS.mono ?_
      rintro r w2 ⟨rfl, hr2, hK2⟩
      go_wp2_with fail
      go_roundw
      case rel => exact ⟨k, _, rfl, by omega, hsz2.out.trans hsk, hr2, hB2.out, hK.trans hK2⟩
      case measure => simp [intOf]
end Go.Proofs.Ytpflodhnniochaa
