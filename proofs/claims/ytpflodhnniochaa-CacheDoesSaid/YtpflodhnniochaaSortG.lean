/-
  xorshift.Next, nextPowerOfTwo, breakPatterns: what is broken is a permutation of what it was.
-/
import Derived.Test.YtpflodhnniochaaSortF
import Derived.Test.YtpflodhnniochaaBits
import Derived.Sort.LotD1
namespace Go.Proofs.Ytpflodhnniochaa
set_option linter.unusedVariables false
open Go.RowKit Go.Sort
/-- The state of the numbers drawn. -/
def Rnd (w : World) (b : Nat) : Prop := ∃ (x : BitVec 64) (t : TypeId), w.heap[b]? = some (.cells #[.int .u64 (U x)] t (0, 0))
theorem Rnd.lt {w : World} {b : Nat} (h : Rnd w b) : b < w.heap.size := by obtain ⟨x, t, h⟩ := h; exact (Array.getElem?_eq_some_iff.1 h).1
theorem Rnd.set {w : World} {b : Nat} (h : Rnd w b) (y : BitVec 64) : Rnd (w.setCell ⟨b, 0, none⟩ (.int .u64 (U y))) b := by
  obtain ⟨x, t, h⟩ := h
  exact ⟨y, t, by rw [heap_setCell_same w b 0 _ _ _ h]; rfl⟩
theorem Rnd.kept {w w' : World} {b : Nat} (h : Rnd w b) (e : w'.heap[b]? = w.heap[b]?) : Rnd w' b := by
  obtain ⟨x, t, h⟩ := h
  exact ⟨x, t, e.trans h⟩
theorem Rnd.cell {w : World} {b : Nat} (h : Rnd w b) : ∃ x : BitVec 64, w.cell? ⟨b, 0, none⟩ = some (.int .u64 (U x)) ∧ w.frozen? ⟨b, 0, none⟩ = false := by
  obtain ⟨x, t, h⟩ := h
  exact ⟨x, by simp [World.cell?, h], by simp [World.frozen?, h]⟩
set_option maxRecDepth 20000 in
theorem Next_any (w : World) (rb : Nat) (h : Rnd w rb) :
    Calls Try.prog 50 #[.pointer (some ⟨rb, 0, none⟩)] w fun r w' => ∃ y : BitVec 64, r = .returned (.int .u64 (U y)) ∧ Rnd w' rb ∧ Kept (fun x => x = rb) w w' := by
  have h1 : ∀ (v v' : World) (y : BitVec 64), Rnd v rb → Kept (fun x => x = rb) w v → v' = (v.setCell ⟨rb, 0, none⟩ (.int .u64 (U y))).drew → Rnd v' rb ∧ Kept (fun x => x = rb) w v' := fun v v' y hv k e => by
    subst e
    exact ⟨(hv.set y).kept rfl, (k.setCell ⟨rb, 0, none⟩ _ (.inl rfl)).drew⟩
  replace h1 := hide h1
  have hK := Kept.refl (fun x => x = rb) w
  go_enter Try.func50, Try.ntmps50
  obtain ⟨x, c, f⟩ := h.cell
  go_wp2_with fail
  go_region
  obtain ⟨h2, hK2⟩ := h1.out w _ (x ^^^ x <<< 13) h hK rfl
  generalize (w.setCell ⟨rb, 0, none⟩ (.int .u64 (U (x ^^^ x <<< 13)))).drew = v2 at *
  clear c f hK h
  obtain ⟨x, c, f⟩ := h2.cell
  go_wp2_with fail
  go_region
  obtain ⟨h3, hK3⟩ := h1.out v2 _ (x ^^^ x >>> 7) h2 hK2 rfl
  generalize (v2.setCell ⟨rb, 0, none⟩ (.int .u64 (U (x ^^^ x >>> 7)))).drew = v3 at *
  clear c f hK2 h2
  obtain ⟨x, c, f⟩ := h3.cell
  go_wp2_with fail
  go_region
  obtain ⟨h4, hK4⟩ := h1.out v3 _ (x ^^^ x <<< 17) h3 hK3 rfl
  generalize (v3.setCell ⟨rb, 0, none⟩ (.int .u64 (U (x ^^^ x <<< 17)))).drew = v4 at *
  clear c f hK3 h3
  obtain ⟨x, c, f⟩ := h4.cell
  go_wp2_with fail
  go_ret
  exact ⟨x, rfl, h4, hK4⟩
set_option maxRecDepth 20000 in
theorem NextPow_any (w : World) (n : Nat) (h0 : 1 ≤ n) (hn : n < 1000000) :
    Calls Try.prog 49 #[.int .i64 n] w fun r w' => (∃ m : Nat, r = .returned (.int .u64 m) ∧ 1 ≤ m ∧ m ≤ 2 * n) ∧ w' = w := by
  have hU : U (BitVec.ofNat 64 n) = (n : Int) := by unfold U; simp; omega
  have hb : ∀ w, Calls Try.prog 36 #[.int .u64 (n : Int)] w fun e w' => e = .returned (.int .i64 (Lib.bitLen n : Nat)) ∧ w' = w := fun w => by
    have h := bits_Len (n : Int) w (by omega) (by omega)
    rwa [Int.toNat_natCast] at h
  have hp := two_pow_bitLen n n (Nat.le_refl _) h0 (by omega)
  have hk : Lib.bitLen n ≤ 20 := Lib.bitLen_le n 20 (by omega) (by omega)
  have hp2 : (2 : Nat) ^ Lib.bitLen n ≤ 2 ^ 20 := Nat.pow_le_pow_right (by decide) hk
  have h1 : 1 ≤ 2 ^ Lib.bitLen n := Nat.one_le_two_pow
  have hw : ((2 : Int) ^ Lib.bitLen n) = ((2 ^ Lib.bitLen n : Nat) : Int) := by push_cast; rfl
  generalize Lib.bitLen n = k at *
  generalize (2 : Nat) ^ k = m at *
  have hUm : U (BitVec.ofNat 64 m) = (m : Int) := by unfold U; simp; omega
  replace hb := hide hb
  go_enter Try.func49, Try.ntmps49
  go_wp2_with fail
  refine (hb.out _).mono ?_
  rintro e w' ⟨rfl, rfl⟩
  go_wp2_with fail
  go_ret
  exact ⟨⟨m, rfl, h1, hp.1⟩, rfl⟩
theorem mask_lt (y : BitVec 64) (m : Nat) (h1 : 1 ≤ m) (h2 : m < 2000000) : ∃ o : Nat, o < m ∧ S (y &&& (BitVec.ofNat 64 m - 1#64)) = (o : Int) ∧ U (y &&& (BitVec.ofNat 64 m - 1#64)) = (o : Int) := by
  have e : BitVec.ofNat 64 m - 1#64 = BitVec.ofNat 64 (m - 1) := by
    apply BitVec.eq_of_toNat_eq
    rw [BitVec.toNat_sub]
    simp only [BitVec.toNat_ofNat]
    omega
  have hl : (y &&& BitVec.ofNat 64 (m - 1)).toNat ≤ m - 1 := by
    rw [BitVec.toNat_and, BitVec.toNat_ofNat, Nat.mod_eq_of_lt (by omega)]
    exact Nat.and_le_right
  rw [e]
  refine ⟨(y &&& BitVec.ofNat 64 (m - 1)).toNat, by omega, ?_, rfl⟩
  unfold S
  rw [BitVec.toInt_eq_toNat_of_lt (by omega)]
set_option maxRecDepth 20000 in
set_option maxHeartbeats 4000000 in
theorem Break_any (w : World) (b c a e : Nat) (d : Array Int) (h : RowI w b d) (hae : a + 8 ≤ e) (hed : e ≤ d.size) (hsz : d.size < 1000000) :
    Calls Try.prog 39 #[.slice (some ⟨b, 0, none⟩) d.size c, .int .i64 a, .int .i64 e] w fun r w' => r = .returned (.tuple #[]) ∧ ∃ d', PermIn a e d d' ∧ Turns w w' b d' := by
  obtain ⟨n, hn⟩ : ∃ n, n = e - a := ⟨_, rfl⟩
  have hn2 : (e : Int) - (a : Int) = (n : Int) := by omega
  obtain ⟨p, hp⟩ : ∃ p, p = a + n / 4 * 2 - 1 := ⟨_, rfl⟩
  have hp2 : (a : Int) + (n : Int) / 4 * 2 - 1 = (p : Int) := by omega
  have hp3 : (a : Int) + (n : Int) / 4 * 2 + 1 = (p : Int) + 2 := by omega
  have hpr : a ≤ p ∧ p + 2 < e := by omega
  have hn8 : 8 ≤ (n : Int) := by omega
  have hn9 : (n : Int) < 1000000 := by omega
  have hb1 : (a : Int) < 1000000 := by omega
  have hb2 : (e : Int) < 1000000 := by omega
  obtain ⟨rb, hrb⟩ : ∃ rb, w.heap.size = rb := ⟨_, rfl⟩
  have hU : U (BitVec.ofNat 64 n) = (n : Int) := by unfold U; simp; omega
  have hr1 : ∀ t, Rnd (w.alloc (.cells #[.int .u64 (n : Int)] t)) rb := fun t => ⟨BitVec.ofNat 64 n, t, by rw [hU, ← hrb]; exact Array.getElem?_push_size⟩
  replace hr1 := hide hr1
  have hPw := NextPow_any
  replace hPw := hide hPw
  replace hn := hide hn
  replace hp := hide hp
  go_enter Try.func39, Try.ntmps39
  go_wp2_with fail
  refine (hPw.out _ n (by omega) (by omega)).mono ?_
  rintro r w1 ⟨⟨m, rfl, hm1, hm2⟩, rfl⟩
  replace hr1 := hr1.out 98
  have hr0 : RowI (w.alloc (.cells #[.int .u64 (n : Int)] 98)) b d := h.kept (Below.heap_alloc w _ b h.lt)
  have hK0 : Kept (fun x => x = b ∨ x = rb) w (w.alloc (.cells #[.int .u64 (n : Int)] 98)) := (Kept.refl _ w).alloc _
  generalize w.alloc (.cells #[.int .u64 (n : Int)] 98) = w0 at *
  have hne : b ≠ rb := by have := h.lt; omega
  clear hU hPw
  go_wp2_with fail
  go_loopw [9] (fun vi wr => ∃ (i : Nat) (dk : Array Int), vi = .int .i64 i ∧ p ≤ i ∧ i ≤ p + 3 ∧ PermIn a e d dk ∧ RowI wr b dk ∧ Rnd wr rb ∧ Kept (fun x => x = b ∨ x = rb) w wr) (fun vi _ => p + 3 - (intOf vi).toNat)
  case atStart => exact ⟨p, d, by simp, by omega, by omega, permIn_refl _ _ _, hr0, hr1, hK0⟩
  case round =>
    clear hr0 hr1 hK0
    obtain ⟨i, dk, rfl, hi1, hi2, hP, hr, hR, hK⟩ := hrel
    generalize wr = w1 at *
    have hsk : dk.size = d.size := hP.1
    by_cases hip : i ≤ p + 2
    · have hg : (i : Int) ≤ (p : Int) + 2 := by omega
      replace hP := hide hP
      have hNx := Next_any w1 rb hR
      replace hNx := hide hNx
      go_wp2_with fail
      refine hNx.out.mono ?_
      rintro r w2 ⟨y, rfl, hR2, hK2⟩
      have hr2 := hr.past hK2 hne
      have hK3 : Kept (fun x => x = b ∨ x = rb) w w2 := hK.trans (hK2.mono (fun x e => .inr e))
      obtain ⟨o, ho, hS, hUo⟩ := mask_lt y m hm1 (by omega)
      clear hr hR hK hK2 hNx
      by_cases hg2 : n ≤ o
      · have hg3 : (n : Int) ≤ (o : Int) := by omega
        obtain ⟨q, hq⟩ : ∃ q, q = o - n := ⟨_, rfl⟩
        have hq2 : (o : Int) - (n : Int) = (q : Int) := by omega
        have hqn : a + q < e := by have := hn.out; omega
        obtain ⟨t, ht0⟩ : ∃ t, t = a + q := ⟨_, rfl⟩
        replace hq := hide hq
        have ht : (a : Int) + (q : Int) = (t : Int) := by omega
        have hsj : i < dk.size ∧ t < dk.size := by omega
        have y1 := hr2.cell hsj.1
        have y0 := hr2.cell hsj.2
        have z1 := hr2.frozen i
        have z0 := hr2.frozen t
        have y2 := (hr2.set hsj.1 (el dk t)).cell (i := t) (by simpa using hsj.2)
        have z2 := (hr2.set hsj.1 (el dk t)).frozen t
        have hc1 : (i : Int) < (d.size : Int) := by omega
        have hc2 : (t : Int) < (d.size : Int) := by omega
        have hc3 : 0 ≤ (i : Int) := by omega
        have hc4 : 0 ≤ (t : Int) := by omega
        have hT : RowI (((w2.setCell ⟨b, i, none⟩ (.int .u64 (el dk t))).setCell ⟨b, t, none⟩ (.int .u64 (el dk i))).drew) b (swp dk i t) ∧ Kept (fun x => x = b ∨ x = rb) w (((w2.setCell ⟨b, i, none⟩ (.int .u64 (el dk t))).setCell ⟨b, t, none⟩ (.int .u64 (el dk i))).drew) ∧ Rnd (((w2.setCell ⟨b, i, none⟩ (.int .u64 (el dk t))).setCell ⟨b, t, none⟩ (.int .u64 (el dk i))).drew) rb :=
          ⟨(hr2.swp hsj.1 hsj.2).kept rfl, ((hK3.setCell ⟨b, i, none⟩ _ (.inl (.inl rfl))).setCell ⟨b, t, none⟩ _ (.inl (.inl rfl))).drew, hR2.kept ((heap_setCell_ne ⟨b, t, none⟩ _ (fun e => hne e.symm)).trans (heap_setCell_ne ⟨b, i, none⟩ _ (fun e => hne e.symm)))⟩
        have hP2 := permIn_trans _ _ _ _ _ hP.out (swp_permIn dk a e i t (by omega) (by omega) (by omega) (by omega) (by omega))
        replace hT := hide hT
        replace hP2 := hide hP2
        replace ht0 := hide ht0
        clear hK3 hR2
        go_wp2_with fail
        go_region
        generalize ((w2.setCell ⟨b, i, none⟩ (.int .u64 (el dk t))).setCell ⟨b, t, none⟩ (.int .u64 (el dk i))).drew = w5 at *
        obtain ⟨T1, T2, T3⟩ := hT.out
        clear y0 y1 z0 z1 y2 z2 hT
        go_wp2_with fail
        go_roundw
        case rel => exact ⟨i + 1, _, by simp, by omega, by omega, hP2.out, T1, T3, T2⟩
        case measure => simp [intOf]; omega
      · have hqn : a + o < e := by have := hn.out; omega
        obtain ⟨t, ht0⟩ : ∃ t, t = a + o := ⟨_, rfl⟩
        have ht : (a : Int) + (o : Int) = (t : Int) := by omega
        have hsj : i < dk.size ∧ t < dk.size := by omega
        have y1 := hr2.cell hsj.1
        have y0 := hr2.cell hsj.2
        have z1 := hr2.frozen i
        have z0 := hr2.frozen t
        have y2 := (hr2.set hsj.1 (el dk t)).cell (i := t) (by simpa using hsj.2)
        have z2 := (hr2.set hsj.1 (el dk t)).frozen t
        have hc1 : (i : Int) < (d.size : Int) := by omega
        have hc2 : (t : Int) < (d.size : Int) := by omega
        have hc3 : 0 ≤ (i : Int) := by omega
        have hc4 : 0 ≤ (t : Int) := by omega
        have hT : RowI (((w2.setCell ⟨b, i, none⟩ (.int .u64 (el dk t))).setCell ⟨b, t, none⟩ (.int .u64 (el dk i))).drew) b (swp dk i t) ∧ Kept (fun x => x = b ∨ x = rb) w (((w2.setCell ⟨b, i, none⟩ (.int .u64 (el dk t))).setCell ⟨b, t, none⟩ (.int .u64 (el dk i))).drew) ∧ Rnd (((w2.setCell ⟨b, i, none⟩ (.int .u64 (el dk t))).setCell ⟨b, t, none⟩ (.int .u64 (el dk i))).drew) rb :=
          ⟨(hr2.swp hsj.1 hsj.2).kept rfl, ((hK3.setCell ⟨b, i, none⟩ _ (.inl (.inl rfl))).setCell ⟨b, t, none⟩ _ (.inl (.inl rfl))).drew, hR2.kept ((heap_setCell_ne ⟨b, t, none⟩ _ (fun e => hne e.symm)).trans (heap_setCell_ne ⟨b, i, none⟩ _ (fun e => hne e.symm)))⟩
        have hP2 := permIn_trans _ _ _ _ _ hP.out (swp_permIn dk a e i t (by omega) (by omega) (by omega) (by omega) (by omega))
        replace hT := hide hT
        replace hP2 := hide hP2
        replace ht0 := hide ht0
        clear hK3 hR2
        have hg3 : ¬ (n : Int) ≤ (o : Int) := by omega
        go_wp2_with fail
        go_region
        generalize ((w2.setCell ⟨b, i, none⟩ (.int .u64 (el dk t))).setCell ⟨b, t, none⟩ (.int .u64 (el dk i))).drew = w5 at *
        obtain ⟨T1, T2, T3⟩ := hT.out
        clear y0 y1 z0 z1 y2 z2 hT
        go_wp2_with fail
        go_roundw
        case rel => exact ⟨i + 1, _, by simp, by omega, by omega, hP2.out, T1, T3, T2⟩
        case measure => simp [intOf]; omega
    · have hg : ¬ (i : Int) ≤ (p : Int) + 2 := by omega
      have hfin : ∀ w', Kept (fun x => x = b ∨ x = rb) w w' → Kept (fun x => x = b) w w' := fun w' k => ⟨k.os, k.tape, k.output, k.size, fun j hj hs => k.block j hj (by rintro (e | e); exact hs e; omega)⟩
      replace hP := hide hP
      replace hfin := hide hfin
      go_wp2_with fail
      exact bodyPost_end (results_none rfl _ _ _) rfl ⟨rfl, dk, hP.out, hr, hfin.out _ hK⟩
end Go.Proofs.Ytpflodhnniochaa
