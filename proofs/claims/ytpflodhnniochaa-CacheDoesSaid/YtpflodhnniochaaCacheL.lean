/-
  Plain laws for CacheStays; New as the laws call it.
-/
import Derived.Test.YtpflodhnniochaaCacheK
namespace Go.Proofs.Ytpflodhnniochaa
set_option linter.unusedVariables false
open Go.RowKit Go.Maps

theorem New_fine (w : World) {sets ways ns delay : Nat} (h : Fine sets ways ns delay) (seed : BitVec 64) :
    Calls Try.prog 9 #[.int .i64 (sets : Nat), .int .i64 (ways : Nat), .int .i64 (ns : Nat), .int .i64 (delay : Nat), .int .u64 (U seed)] w fun e w' =>
      ∃ g, e = .returned (.pointer (some ⟨g.c, 0, none⟩)) ∧ Held w' g (newS sets ways ns delay seed) ∧ Still w w' ∧ ∀ b, g.own b → w.heap.size ≤ b := by
  obtain ⟨h1, h2, h3, h4⟩ := h
  rcases h1 with rfl | rfl | rfl | rfl | rfl | rfl | rfl
  · exact New_1 w ways ns delay seed h2 h3 h4
  · exact New_2 w ways ns delay seed h2 h3 h4
  · exact New_4 w ways ns delay seed h2 h3 h4
  · exact New_8 w ways ns delay seed h2 h3 h4
  · exact New_16 w ways ns delay seed h2 h3 h4
  · exact New_32 w ways ns delay seed h2 h3 h4
  · exact New_64 w ways ns delay seed h2 h3 h4
def Bad (sets ways ns delay : Int) : Prop := ¬ (sets = 1 ∨ sets = 2 ∨ sets = 4 ∨ sets = 8 ∨ sets = 16 ∨ sets = 32 ∨ sets = 64) ∨ ways < 1 ∨ 8 < ways ∨ ns < 1 ∨ 8 < ns ∨ delay < 1 ∨ 64 < delay
theorem fine_of {sets ways ns delay : Int} (h : ¬ Bad sets ways ns delay) : ∃ a b c d : Nat, sets = (a : Int) ∧ ways = (b : Int) ∧ ns = (c : Int) ∧ delay = (d : Int) ∧ Fine a b c d := by
  have h0 : sets = 1 ∨ sets = 2 ∨ sets = 4 ∨ sets = 8 ∨ sets = 16 ∨ sets = 32 ∨ sets = 64 := Classical.byContradiction fun e => h (.inl e)
  have h1 : ¬ (ways < 1 ∨ 8 < ways ∨ ns < 1 ∨ 8 < ns ∨ delay < 1 ∨ 64 < delay) := fun e => h (.inr e)
  refine ⟨sets.toNat, ways.toNat, ns.toNat, delay.toNat, ?_, ?_, ?_, ?_, ?_, ?_, ?_, ?_⟩ <;> omega

def Zp : Pl := ⟨0#64, false, false⟩
def Zs : Sl := ⟨0#64, false, false, 0⟩
section
variable (sets ways ns delay : Nat) (seed L : BitVec 64)
/-- One line waits. -/
def wst (left : Nat) : St := setSl (newS sets ways ns delay seed) 0 ⟨L, true, false, left⟩
/-- One line is there. -/
def lst (b : Bool) : St := { newS sets ways ns delay seed with pl := fun j => if j = firstS (newS sets ways ns delay seed) L then ⟨L, true, b⟩ else Zp, wh := upd (fun _ => none) L (some (firstS (newS sets ways ns delay seed) L)) }
end
theorem find_none {s : St} (L : BitVec 64) (h : ∀ i, (s.sl i).is = false) : ∀ k i, findS s L i k = none
  | 0, _ => rfl
  | k + 1, i => by rw [findS, if_neg (by simp [h i])]; exact find_none L h k (i + 1)
theorem ask_new {sets ways ns delay : Nat} (hn : 1 ≤ ns) (seed L : BitVec 64) : askS (newS sets ways ns delay seed) L false = (wst sets ways ns delay seed L delay, 2) := by
  have h1 : (newS sets ways ns delay seed).wh L = none := rfl
  have h2 : findS (newS sets ways ns delay seed) L 0 (newS sets ways ns delay seed).ns = none := find_none L (fun _ => rfl) _ _
  have h3 : freeS (newS sets ways ns delay seed) 0 (newS sets ways ns delay seed).ns = some 0 := by
    show freeS _ 0 ns = _
    obtain ⟨k, rfl⟩ : ∃ k, ns = k + 1 := ⟨ns - 1, by omega⟩
    rw [freeS, if_pos (show ((newS sets ways (k + 1) delay seed).sl 0).is = false from rfl)]
  unfold askS
  rw [h1]
  simp only []
  rw [h2]
  simp only []
  rw [h3]
  rfl
theorem tick_one {s : St} {n : Nat} (hn : 1 ≤ n) (h : ∀ i, 1 ≤ i → ((tick1 s 0).1.sl i).is = false) : tickS s n = tick1 s 0 := by
  induction n with
  | zero => omega
  | succ k ih =>
    rw [tickS]
    by_cases hk : k = 0
    · subst hk; simp [tickS]
    · rw [ih (by omega)]
      have : tick1 (tick1 s 0).1 k = ((tick1 s 0).1, []) := by
        have hk2 := h k (by omega)
        generalize (tick1 s 0).1 = r at hk2 ⊢
        unfold tick1
        rw [if_neg (by simp [hk2])]
      rw [this]
      simp
theorem tick_none {s : St} (h : ∀ i, (s.sl i).is = false) : ∀ n, tickS s n = (s, [])
  | 0 => rfl
  | k + 1 => by
    rw [tickS, tick_none h k]
    have : tick1 s k = (s, []) := by
      unfold tick1
      rw [if_neg (by simp [h k])]
    simp [this]
theorem under_none {s : St} (h : ∀ i, (s.sl i).is = false) : ∀ n, underS s n = 0
  | 0 => rfl
  | k + 1 => by rw [underS, under_none h k, h k]; rfl
section
variable {sets ways ns delay : Nat} {seed L : BitVec 64}
theorem wst_sl (left i : Nat) (h : i ≠ 0) : ((wst sets ways ns delay seed L left).sl i) = Zs := by
  unfold wst setSl
  simp only [if_neg h]
  rfl
theorem wst_0 (left : Nat) : ((wst sets ways ns delay seed L left).sl 0) = ⟨L, true, false, left⟩ := rfl
theorem tick_wait (hn : 1 ≤ ns) (m : Nat) : tickS (wst sets ways ns delay seed L (m + 2)) ns = (wst sets ways ns delay seed L (m + 1), []) := by
  have e : tick1 (wst sets ways ns delay seed L (m + 2)) 0 = (wst sets ways ns delay seed L (m + 1), []) := by
    unfold tick1
    rw [wst_0, if_pos rfl, if_neg (by simp)]
    simp only [Prod.mk.injEq, and_true]
    unfold wst setSl
    simp only [St.mk.injEq, true_and]
    funext j
    by_cases hj : j = 0 <;> simp [hj]
  rw [tick_one hn (fun i hi => by rw [e]; show ((wst _ _ _ _ _ _ _).sl i).is = _; rw [wst_sl _ _ (by omega)]; rfl), e]
theorem tick_lands (h : Fine sets ways ns delay) : tickS (wst sets ways ns delay seed L 1) ns = (lst sets ways ns delay seed L false, [⟨L <<< 6, 0#64, false⟩]) := by
  have hf : ∀ n, ((setSl (wst sets ways ns delay seed L 1) 0 ⟨L, true, false, 0⟩).pl n).is = false := fun n => rfl
  have hem : emptyS (setSl (wst sets ways ns delay seed L 1) 0 ⟨L, true, false, 0⟩) (firstS (newS sets ways ns delay seed) L) ways = firstS (newS sets ways ns delay seed) L := by
    obtain ⟨k, rfl⟩ : ∃ k, ways = k + 1 := ⟨ways - 1, by have := h.ways; omega⟩
    rw [emptyS, if_neg (by simp [hf])]
  have hl : layS (setSl (wst sets ways ns delay seed L 1) 0 ⟨L, true, false, 0⟩) L false = (fillS (setSl (wst sets ways ns delay seed L 1) 0 ⟨L, true, false, 0⟩) (firstS (newS sets ways ns delay seed) L) L false, ⟨L <<< 6, 0#64, false⟩) := by
    unfold layS
    have e1 : firstS (setSl (wst sets ways ns delay seed L 1) 0 ⟨L, true, false, 0⟩) L = firstS (newS sets ways ns delay seed) L := rfl
    have e2 : (setSl (wst sets ways ns delay seed L 1) 0 ⟨L, true, false, 0⟩).ways = ways := rfl
    rw [e1, e2, hem, if_neg (by have := h.ways; omega)]
  have e : tick1 (wst sets ways ns delay seed L 1) 0 = (lst sets ways ns delay seed L false, [⟨L <<< 6, 0#64, false⟩]) := by
    unfold tick1
    rw [wst_0, if_pos rfl, if_pos rfl]
    simp only []
    rw [hl]
    simp only [Prod.mk.injEq, and_true]
    unfold fillS comes setPl setSl wst lst setSl newS
    simp only [St.mk.injEq, true_and]
    refine ⟨rfl, ?_⟩
    funext j
    by_cases hj : j = 0 <;> simp [hj]
  rw [tick_one h.ns.1 (fun i hi => by rw [e]; rfl), e]
theorem lst_sl (b : Bool) (i : Nat) : ((lst sets ways ns delay seed L b).sl i).is = false := rfl
theorem tick_lst (b : Bool) (n : Nat) : tickS (lst sets ways ns delay seed L b) n = (lst sets ways ns delay seed L b, []) := tick_none (lst_sl b) n
theorem ask_lst (b c : Bool) : askS (lst sets ways ns delay seed L b) L c = (lst sets ways ns delay seed L (b || c), 1) := by
  have h1 : (lst sets ways ns delay seed L b).wh L = some (firstS (newS sets ways ns delay seed) L) := upd_same (fun _ => none) L _
  unfold askS
  rw [h1]
  simp only [Prod.mk.injEq, and_true]
  unfold setPl lst newS
  simp only [St.mk.injEq, true_and, and_true]
  funext j
  by_cases hj : j = firstS (newS sets ways ns delay seed) L
  · subst hj; simp [newS]
  · simp only [newS] at hj
    simp [hj]
theorem has_lst (b : Bool) : hasS (lst sets ways ns delay seed L b) L = (true, b) := by
  have h1 : (lst sets ways ns delay seed L b).wh L = some (firstS (newS sets ways ns delay seed) L) := upd_same (fun _ => none) L _
  unfold hasS
  rw [h1]
  simp [lst]
theorem out_lst (b : Bool) : ∀ k, outS (lst sets ways ns delay seed L b) k = if firstS (newS sets ways ns delay seed) L < k ∧ b = true then [L <<< 6] else []
  | 0 => by simp [outS]
  | k + 1 => by
    rw [outS, out_lst b k]
    by_cases hk : k = firstS (newS sets ways ns delay seed) L
    · subst hk
      cases b <;> simp [lst]
    · have : ((lst sets ways ns delay seed L b).pl k) = Zp := by simp [lst, hk]
      rw [this]
      have e : (firstS (newS sets ways ns delay seed) L < k + 1 ∧ b = true) ↔ (firstS (newS sets ways ns delay seed) L < k ∧ b = true) := by
        constructor <;> (rintro ⟨h1, h2⟩; exact ⟨by omega, h2⟩)
      simp only [e]
      simp [Zp]
theorem out_all (h : Fine sets ways ns delay) (b : Bool) : outS (lst sets ways ns delay seed L b) (lst sets ways ns delay seed L b).n = if b = true then [L <<< 6] else [] := by
  have h1 := first_le (ok_new (seed := seed) h) L
  have h2 := h.ways
  rw [out_lst]
  have : firstS (newS sets ways ns delay seed) L < (lst sets ways ns delay seed L b).n := by
    show _ < (newS sets ways ns delay seed).n
    have : (newS sets ways ns delay seed).ways = ways := rfl
    omega
  simp [this]
theorem fr_wst {left : Nat} (hl : 1 ≤ left) : Fr (wst sets ways ns delay seed L left) := by
  intro i hi e
  by_cases h : i = 0
  · subst h; exact hl
  · rw [wst_sl _ _ h] at e; cases e
theorem fr_lst (b : Bool) : Fr (lst sets ways ns delay seed L b) := fun i _ e => by rw [lst_sl] at e; cases e
end
theorem mask6 (x : BitVec 64) : (x / 64#64) <<< 6 = x &&& ~~~63#64 := by
  have e : x / 64#64 = x >>> 6 := by
    apply BitVec.eq_of_toNat_eq
    rw [BitVec.toNat_udiv, BitVec.toNat_ushiftRight, Nat.shiftRight_eq_div_pow]
    rfl
  rw [e]
  apply BitVec.eq_of_getLsbD_eq
  intro i hi
  have h63 : (63#64).getLsbD i = decide (i < 6) := by
    rw [BitVec.getLsbD_ofNat]
    have := Nat.testBit_two_pow_sub_one 6 i
    simp only [Nat.reducePow, Nat.reduceSub] at this
    rw [this]
    simp [hi]
  simp only [BitVec.getLsbD_shiftLeft, BitVec.getLsbD_ushiftRight, BitVec.getLsbD_and, BitVec.getLsbD_not, h63, hi, decide_true, Bool.true_and]
  by_cases h6 : i < 6
  · simp [h6]
  · have : 6 + (i - 6) = i := by omega
    simp [h6, this]
theorem xor_div (x : BitVec 64) {y : BitVec 64} (hy : y.toNat < 64) : (x ^^^ y) / 64#64 = x / 64#64 := by
  have e : ∀ z : BitVec 64, z / 64#64 = z >>> 6 := fun z => by
    apply BitVec.eq_of_toNat_eq
    rw [BitVec.toNat_udiv, BitVec.toNat_ushiftRight, Nat.shiftRight_eq_div_pow]
    rfl
  rw [e, e, BitVec.ushiftRight_xor_distrib]
  have : y >>> 6 = 0#64 := by
    apply BitVec.eq_of_toNat_eq
    rw [BitVec.toNat_ushiftRight, Nat.shiftRight_eq_div_pow]
    simp
    omega
  rw [this]
  simp
end Go.Proofs.Ytpflodhnniochaa
