/-
  Rows of numbers that are sorted in place: what they hold, what an exchange does; cmp.Less, reverseRange, the insertion sort.
-/
import Derived.Test.YtpflodhnniochaaCacheB
import Derived.Sort.LotA
import Derived.Sort.LotB
import Derived.Sort.LotC
import Derived.Sort.LotD3
import Derived.WalkKit
import Derived.Deep.QuietTactic
import Derived.BigQuiet
import Derived.BigRegion
namespace Go.Proofs.Ytpflodhnniochaa
set_option linter.unusedVariables false
open Go.RowKit Go.Sort


/-- The i-th number. -/
def el (d : Array Int) (i : Nat) : Int := d[i]!
/-- A row of numbers. -/
def RowI (w : World) (b : Nat) (d : Array Int) : Prop := ∃ cs t, w.heap[b]? = some (.cells cs t (0, 0)) ∧ d.size ≤ cs.size ∧ ∀ i, i < d.size → cs[i]? = some (.int .u64 (el d i))
theorem RowI.lt {w : World} {b : Nat} {d : Array Int} (h : RowI w b d) : b < w.heap.size := by
  obtain ⟨cs, t, h1, -⟩ := h
  exact (Array.getElem?_eq_some_iff.1 h1).1
theorem RowI.cell {w : World} {b : Nat} {d : Array Int} (h : RowI w b d) {i : Nat} (hi : i < d.size) : w.cell? ⟨b, i, none⟩ = some (.int .u64 (el d i)) := by
  obtain ⟨cs, t, h1, -, h2⟩ := h
  simp [World.cell?, h1, h2 i hi]
theorem RowI.frozen {w : World} {b : Nat} {d : Array Int} (h : RowI w b d) (i : Nat) : w.frozen? ⟨b, i, none⟩ = false := by
  obtain ⟨cs, t, h1, -⟩ := h
  simp [World.frozen?, h1]
theorem RowI.kept {w w' : World} {b : Nat} {d : Array Int} (h : RowI w b d) (e : w'.heap[b]? = w.heap[b]?) : RowI w' b d := by
  obtain ⟨cs, t, h1, h2⟩ := h
  exact ⟨cs, t, e.trans h1, h2⟩
theorem RowI.on {w w' : World} {b : Nat} {d : Array Int} (h : RowI w b d) (k : Still w w') : RowI w' b d := h.kept (k.block b h.lt fun e => e)
theorem RowI.set {w : World} {b : Nat} {d : Array Int} (h : RowI w b d) {i : Nat} (hi : i < d.size) (x : Int) : RowI (w.setCell ⟨b, i, none⟩ (.int .u64 x)) b (d.setIfInBounds i x) := by
  obtain ⟨cs, t, h1, h2, h3⟩ := h
  refine ⟨cs.setIfInBounds i (.int .u64 x), t, heap_setCell_same w b i _ _ _ h1, by simpa using h2, fun j hj => ?_⟩
  have hj' : j < d.size := by simpa using hj
  rw [Array.getElem?_setIfInBounds]
  unfold el at h3 ⊢
  by_cases e : i = j
  · subst e
    rw [if_pos rfl, if_pos (by omega)]
    simp [hi]
  · rw [if_neg e, h3 j hj']
    simp [hj', e]
/-- An exchange. -/
theorem RowI.swp {w : World} {b : Nat} {d : Array Int} (h : RowI w b d) {i j : Nat} (hi : i < d.size) (hj : j < d.size) :
    RowI ((w.setCell ⟨b, i, none⟩ (.int .u64 (el d j))).setCell ⟨b, j, none⟩ (.int .u64 (el d i))) b (swp d i j) := by
  unfold Go.Sort.swp
  exact (h.set hi _).set (by simpa using hj) _
theorem RowI.swp2 {w w' : World} {b : Nat} {d : Array Int} (h : RowI w b d) {i j : Nat} (hi : i < d.size) (hj : j < d.size) (e : w'.heap = ((w.setCell ⟨b, i, none⟩ (.int .u64 (el d j))).setCell ⟨b, j, none⟩ (.int .u64 (el d i))).heap) :
    RowI w' b (Go.Sort.swp d i j) := (h.swp hi hj).kept (by rw [e])
theorem still_drewN (w : World) (n : Nat) : Still w (w.drewN n) := ⟨rfl, rfl, rfl, Nat.le_refl _, fun _ _ _ => rfl⟩
/-- The exchange's world. -/
theorem swp_world {w wr : World} {b : Nat} {d : Array Int} (h : RowI wr b d) (hK : Kept (fun x => x = b) w wr) {i j : Nat} (hi : i < d.size) (hj : j < d.size) (n : Nat) :
    RowI (((wr.drewN n).setCell ⟨b, i, none⟩ (.int .u64 (el d j))).setCell ⟨b, j, none⟩ (.int .u64 (el d i))) b (Go.Sort.swp d i j) ∧ Kept (fun x => x = b) w (((wr.drewN n).setCell ⟨b, i, none⟩ (.int .u64 (el d j))).setCell ⟨b, j, none⟩ (.int .u64 (el d i))) :=
  ⟨(h.on (still_drewN wr n)).swp hi hj, ((hK.still (still_drewN wr n)).setCell _ _ (.inl rfl)).setCell _ _ (.inl rfl)⟩
theorem swp_drew {w wr : World} {b : Nat} {d : Array Int} (h : RowI wr b d) (hK : Kept (fun x => x = b) w wr) {i j : Nat} (hi : i < d.size) (hj : j < d.size) :
    RowI (((wr.setCell ⟨b, i, none⟩ (.int .u64 (el d j))).setCell ⟨b, j, none⟩ (.int .u64 (el d i))).drew) b (Go.Sort.swp d i j) ∧ Kept (fun x => x = b) w (((wr.setCell ⟨b, i, none⟩ (.int .u64 (el d j))).setCell ⟨b, j, none⟩ (.int .u64 (el d i))).drew) :=
  ⟨(h.swp hi hj).kept rfl, ((hK.setCell _ _ (.inl rfl)).setCell _ _ (.inl rfl)).drew⟩
/-- What a call leaves that turns the row alone. -/
def Turns (w w' : World) (b : Nat) (d : Array Int) : Prop := RowI w' b d ∧ Kept (fun x => x = b) w w'
theorem Less_any (w : World) (x y : Int) : Calls Try.prog 43 #[.int .u64 x, .int .u64 y] w fun e w' => e = .returned (.bool (ltInt x y)) ∧ w' = w := by
  have hn : ∀ z w, Calls Try.prog 53 #[.int .u64 z] w fun e w' => e = .returned (.bool false) ∧ w' = w := fun z w => by
    go_enter Try.func53, Try.ntmps53
    go_wp2
    go_ret
    exact ⟨by simp, rfl⟩
  go_enter Try.func43, Try.ntmps43
  go_wp2_with (go_at_call 53; refine (hn _ _).mono ?_; rintro e w' ⟨rfl, rfl⟩)
  go_ret
  exact ⟨rfl, rfl⟩
theorem lt_go (d : Array Int) (i j : Nat) : ltInt (el d i) (el d j) = ltInt d[i]! d[j]! := rfl
/-! Steps of the kit's plain functions. -/
theorem insInner_go (a k : Nat) (d : Array Int) (hj : a < k + 1) (hl : ltInt (el d (k + 1)) (el d k) = true) : insInner ltInt a (k + 1) d = insInner ltInt a k (swp d (k + 1) k) := by
  rw [lt_go] at hl
  rw [insInner]
  simp [hj, hl]
theorem insInner_stop (a k : Nat) (d : Array Int) (hl : ltInt (el d (k + 1)) (el d k) = false) : insInner ltInt a (k + 1) d = d := by
  rw [lt_go] at hl
  rw [insInner]
  simp [hl]
theorem insInner_end (a j : Nat) (d : Array Int) (h : j ≤ a) : insInner ltInt a j d = d := by
  cases j with
  | zero => rw [insInner]
  | succ k =>
    rw [insInner]
    simp [show ¬ k + 1 > a by omega]
theorem insOuter_go (a b i : Nat) (d : Array Int) (h : i < b) : insOuter ltInt a b i d = insOuter ltInt a b (i + 1) (insInner ltInt a i d) := by rw [insOuter, if_pos h]
theorem insOuter_stop (a b i : Nat) (d : Array Int) (h : ¬ i < b) : insOuter ltInt a b i d = d := by rw [insOuter, if_neg h]
theorem meas_up {k n : Nat} (h : k < n) : n - (intOf (.int .i64 ((k : Int) + 1))).toNat < n - (intOf (.int .i64 (k : Int))).toNat := by
  simp [intOf]
  omega
set_option maxRecDepth 20000 in
set_option maxHeartbeats 4000000 in
theorem Ins_any (w : World) (b c a e : Nat) (d : Array Int) (h : RowI w b d) (hae : a ≤ e) (hed : e ≤ d.size) (hsz : d.size < 1000000) :
    Calls Try.prog 37 #[.slice (some ⟨b, 0, none⟩) d.size c, .int .i64 a, .int .i64 e] w fun r w' => r = .returned (.tuple #[]) ∧ Turns w w' b (insertionSort ltInt d a e) := by
  go_enter Try.func37, Try.ntmps37
  go_wp2_with fail
  go_loopw [6] (fun vi wr => ∃ (i : Nat) (dk : Array Int), vi = .int .i64 i ∧ a < i ∧ i ≤ e + 1 ∧ dk.size = d.size ∧ RowI wr b dk ∧ insOuter ltInt a e i dk = insertionSort ltInt d a e ∧ Kept (fun x => x = b) w wr) (fun vi _ => e + 1 - (intOf vi).toNat)
  case atStart => exact ⟨a + 1, d, by simp, Nat.lt_succ_self _, by omega, rfl, h, rfl, Kept.refl _ _⟩
  case round =>
    clear h
    obtain ⟨i, dk, rfl, hai, hie, hsk, hr, hO, hK⟩ := hrel
    by_cases hlt : i < e
    · have hlt2 : (i : Int) < (e : Int) := by omega
      have hms := meas_up (k := i) (n := e + 1) (by omega)
      replace hO := hide hO
      go_wp2_with fail
      go_loopw [7] (fun vj wr2 => ∃ (j : Nat) (dj : Array Int), vj = .int .i64 j ∧ a ≤ j ∧ j ≤ i ∧ dj.size = d.size ∧ RowI wr2 b dj ∧ insInner ltInt a j dj = insInner ltInt a i dk ∧ Kept (fun x => x = b) w wr2) (fun vj _ => (intOf vj).toNat)
      case atStart => exact ⟨i, dk, rfl, by omega, Nat.le_refl _, hsk, hr, rfl, hK⟩
      case round =>
        clear hr hK
        obtain ⟨j, dj, rfl, haj, hji, hsj, hr, hI, hK⟩ := hrel
        by_cases hja : a < j
        · obtain ⟨k, rfl⟩ : ∃ k, j = k + 1 := ⟨j - 1, by omega⟩
          have y1 : ∀ n, (wr.drewN n).cell? ⟨b, k + 1, none⟩ = some (.int .u64 (el dj (k + 1))) := fun n => hr.cell (by omega)
          have y0 : ∀ n, (wr.drewN n).cell? ⟨b, k, none⟩ = some (.int .u64 (el dj k)) := fun n => hr.cell (by omega)
          have z1 : ∀ n, (wr.drewN n).frozen? ⟨b, k + 1, none⟩ = false := fun n => hr.frozen _
          have z0 : ∀ n, (wr.drewN n).frozen? ⟨b, k, none⟩ = false := fun n => hr.frozen _
          have hw1 : IntKind.i64.wrap ((k : Int) + 1 - 1) = (k : Int) := by rw [IntKind.wrap_i64]; omega
          have hj2 : ((k + 1 : Nat) : Int) = (k : Int) + 1 := by omega
          have hd1 : (a : Int) < (k : Int) + 1 := by omega
          have hd2 : (k : Int) + 1 < (d.size : Int) := by omega
          have hd3 : 0 ≤ (k : Int) := by omega
          have hd4 : (d.size : Int) < 1000000 := by omega
          rw [hj2]
          replace hI := hide hI
          cases hl : ltInt (el dj (k + 1)) (el dj k)
          · go_wp2_with fail
            go_quiet ((go_at_call 43; exact Calls.quiet_of_same (Less_any _ _ _)))
            go_wp2_with fail
            go_roundw
            case rel => exact ⟨i + 1, dj, by simp, by omega, by omega, hsj, hr.on (still_drewN wr nq), by rw [← hO.out, insOuter_go _ _ _ _ hlt, ← hI.out, insInner_stop _ _ _ hl], hK.still (still_drewN wr nq)⟩
            case measure => exact hms
          · go_wp2_with fail
            go_quiet ((go_at_call 43; exact Calls.quiet_of_same (Less_any _ _ _)))
            go_wp2_with fail
            go_region
            obtain ⟨S1, S2⟩ := swp_world hr hK (i := k + 1) (j := k) (by omega) (by omega) (nq + 1)
            have hI2 := insInner_go a k dj (by omega) hl
            generalize ((wr.drewN (nq + 1)).setCell ⟨b, k + 1, none⟩ (.int .u64 (el dj k))).setCell ⟨b, k, none⟩ (.int .u64 (el dj (k + 1))) = w5 at *
            clear y0 y1 z0 z1
            replace hI2 := hide hI2
            go_wp2_with fail
            go_roundw
            case rel => exact ⟨k, swp dj (k + 1) k, by simp, by omega, by omega, by rw [size_swp]; exact hsj, S1, by rw [← hI.out, hI2.out], S2⟩
            case measure => simp [intOf]
        · obtain rfl : j = a := by omega
          have hd0 : decide ((j : Int) < (j : Int)) = false := decide_eq_false (Int.lt_irrefl _)
          replace hI := hide hI
          go_wp2_with fail
          go_quiet (fail)
          go_wp2_with fail
          go_roundw
          case rel => exact ⟨i + 1, dj, by simp, by omega, by omega, hsj, hr.on (still_drewN wr nq), by rw [← hO.out, insOuter_go _ _ _ _ hlt, ← hI.out, insInner_end _ _ _ (Nat.le_refl _)], hK.still (still_drewN wr nq)⟩
          case measure => exact hms
    · have hlt2 : ¬ (i : Int) < (e : Int) := by omega
      rw [insOuter_stop _ _ _ _ hlt] at hO
      go_wp2_with fail
      exact bodyPost_end (results_none rfl _ _ _) rfl ⟨rfl, by rw [← hO]; exact hr, hK⟩
end Go.Proofs.Ytpflodhnniochaa
