/-
  Plain laws for CacheOnce: what the two maps of the law hold, and what each call makes of it.
-/
import Derived.Test.YtpflodhnniochaaOnceA
import Derived.Test.YtpflodhnniochaaCacheX
namespace Go.Proofs.Ytpflodhnniochaa
set_option linter.unusedVariables false
open Go.RowKit Go.Maps

/-- A line of an address whose highest bit is set. -/
def Top (L : BitVec 64) : Prop := ∃ x : BitVec 64, L = (x ||| 9223372036854775808#64) / 64#64
theorem top_ne {L : BitVec 64} (h : Top L) : L <<< 6 ≠ 0#64 := by obtain ⟨x, rfl⟩ := h; exact top_line x
theorem line_back (x : BitVec 64) : ((x / 64#64) <<< 6) / 64#64 = x / 64#64 := by
  apply BitVec.eq_of_toNat_eq
  rw [BitVec.toNat_udiv, BitVec.toNat_shiftLeft, BitVec.toNat_udiv, Nat.shiftLeft_eq]
  show x.toNat / 64 * 2 ^ 6 % 2 ^ 64 / 64 = x.toNat / 64
  have := x.isLt
  omega
theorem top_back {L : BitVec 64} (h : Top L) : (L <<< 6) / 64#64 = L := by obtain ⟨x, rfl⟩ := h; exact line_back _
theorem top_inj {L L' : BitVec 64} (h : Top L) (h' : Top L') (e : L <<< 6 = L' <<< 6) : L = L' := by rw [← top_back h, ← top_back h', e]
def vb (b : Bool) : Nat := if b then 2 else 1
theorem vb_ne (b : Bool) : vb b ≠ 0 := by cases b <;> decide
theorem vb_le (b : Bool) : vb b ≤ 2 := by cases b <;> decide
theorem vb_or (a b : Bool) : vb (a || b) = max (vb a) (vb b) := by cases a <;> cases b <;> rfl
theorem vb_two (b : Bool) : decide (vb b = 2) = b := by cases b <;> rfl
structure Con (s : St) : Prop where
  ok : Ok s
  sep : ∀ i j, i < s.ns → j < s.ns → (s.sl i).is = true → (s.sl j).is = true → (s.sl i).line = (s.sl j).line → i = j
  out : ∀ i, i < s.ns → (s.sl i).is = true → s.wh (s.sl i).line = none
  back : ∀ n, n < s.n → (s.pl n).is = true → s.wh (s.pl n).line = some n
  topS : ∀ i, i < s.ns → (s.sl i).is = true → Top (s.sl i).line
  topP : ∀ n, n < s.n → (s.pl n).is = true → Top (s.pl n).line
  pos : ∀ n, n < s.n → (s.pl n).is = true → firstS s (s.pl n).line ≤ n ∧ n < firstS s (s.pl n).line + s.ways
theorem Con.top {s : St} (h : Con s) {L : BitVec 64} {n : Nat} (e : s.wh L = some n) : Top L := by
  obtain ⟨h1, h2, h3⟩ := h.ok.wh L n e
  rw [← h3]
  exact h.topP n h1 h2
structure Law (s : St) (T P : BitVec 64 → Nat) : Prop where
  con : Con s
  tA : ∀ A, T A ≠ 0 → ∃ (L : BitVec 64) (n : Nat), A = L <<< 6 ∧ s.wh L = some n
  tB : ∀ L n, s.wh L = some n → T (L <<< 6) = vb (s.pl n).written
  pA : ∀ A, P A ≠ 0 → ∃ i, i < s.ns ∧ (s.sl i).is = true ∧ A = (s.sl i).line <<< 6
  pB : ∀ i, i < s.ns → (s.sl i).is = true → P ((s.sl i).line <<< 6) = vb (s.sl i).write
theorem Law.t0 {s : St} {T P : BitVec 64 → Nat} (h : Law s T P) {L : BitVec 64} (hL : Top L) (e : s.wh L = none) : T (L <<< 6) = 0 := by
  apply Classical.byContradiction
  intro hn
  obtain ⟨L', n, h1, h2⟩ := h.tA _ hn
  have := top_inj hL (h.con.top h2) h1
  rw [← this, e] at h2
  cases h2
theorem Law.p0 {s : St} {T P : BitVec 64 → Nat} (h : Law s T P) {L : BitVec 64} (hL : Top L) (e : ∀ i, i < s.ns → (s.sl i).is = true → (s.sl i).line ≠ L) : P (L <<< 6) = 0 := by
  apply Classical.byContradiction
  intro hn
  obtain ⟨i, h1, h2, h3⟩ := h.pA _ hn
  exact e i h1 h2 (top_inj hL (h.con.topS i h1 h2) h3).symm
theorem first_same {s r : St} (h1 : r.sets = s.sets) (h2 : r.ways = s.ways) (L : BitVec 64) : firstS r L = firstS s L := by unfold firstS St.m; rw [h1, h2]

/-! Ask. -/
theorem law_hit {s : St} {T P : BitVec 64 → Nat} (h : Law s T P) {L : BitVec 64} {n : Nat} (hn : s.wh L = some n) (wr : Bool) :
    Law (setPl s n { s.pl n with written := (s.pl n).written || wr }) (updN T (L <<< 6) (max (T (L <<< 6)) (vb wr))) P := by
  obtain ⟨q1, q2, q3⟩ := h.con.ok.wh L n hn
  have hL := h.con.top hn
  have hpl : ∀ m, ((setPl s n { s.pl n with written := (s.pl n).written || wr }).pl m).is = (s.pl m).is ∧ ((setPl s n { s.pl n with written := (s.pl n).written || wr }).pl m).line = (s.pl m).line := fun m => by
    by_cases e : m = n
    · subst e; simp [setPl]
    · simp [setPl, e]
  refine ⟨⟨ok_setPl h.con.ok n _ (fun L' e => ⟨q2, (h.con.ok.wh L' n e).2.2⟩), h.con.sep, h.con.out, fun m hm hi => ?_, h.con.topS, fun m hm hi => ?_, fun m hm hi => ?_⟩, fun A hA => ?_, fun L' m hm => ?_, h.pA, h.pB⟩
  · rw [(hpl m).2]; rw [(hpl m).1] at hi; exact h.con.back m hm hi
  · rw [(hpl m).2]; rw [(hpl m).1] at hi; exact h.con.topP m hm hi
  · rw [(hpl m).2]; rw [(hpl m).1] at hi; exact h.con.pos m hm hi
  · by_cases e : A = L <<< 6
    · exact ⟨L, n, e, hn⟩
    · rw [updN_other _ _ e] at hA; exact h.tA A hA
  · have hm' : s.wh L' = some m := hm
    by_cases e : L' = L
    · subst e
      rw [hn] at hm'
      cases hm'
      rw [updN_same, h.tB _ _ hn]
      simp [setPl, vb_or]
    · rw [updN_other _ _ (fun e' => e (top_inj (h.con.top hm') hL e')), h.tB _ _ hm']
      have hne : m ≠ n := fun e' => by subst e'; exact e ((h.con.ok.wh L' m hm').2.2.symm.trans q3)
      simp [setPl, hne]
theorem law_slot {s : St} {T P : BitVec 64 → Nat} (h : Law s T P) {L : BitVec 64} (hL : Top L) {i : Nat} (hi : i < s.ns) (his : (s.sl i).is = true) (hl : (s.sl i).line = L) (wr : Bool) :
    Law (setSl s i { s.sl i with write := (s.sl i).write || wr }) T (updN P (L <<< 6) (max (P (L <<< 6)) (vb wr))) := by
  have hsl : ∀ m, ((setSl s i { s.sl i with write := (s.sl i).write || wr }).sl m).is = (s.sl m).is ∧ ((setSl s i { s.sl i with write := (s.sl i).write || wr }).sl m).line = (s.sl m).line := fun m => by
    by_cases e : m = i
    · subst e; simp [setSl]
    · simp [setSl, e]
  refine ⟨⟨ok_setSl h.con.ok i _ (fun _ => h.con.ok.sl i hi his), fun j k hj hk h1 h2 h3 => ?_, fun j hj h1 => ?_, h.con.back, fun j hj h1 => ?_, h.con.topP, h.con.pos⟩, h.tA, h.tB, fun A hA => ?_, fun j hj h1 => ?_⟩
  · rw [(hsl j).1] at h1; rw [(hsl k).1] at h2; rw [(hsl j).2, (hsl k).2] at h3
    exact h.con.sep j k hj hk h1 h2 h3
  · rw [(hsl j).2]; rw [(hsl j).1] at h1; exact h.con.out j hj h1
  · rw [(hsl j).2]; rw [(hsl j).1] at h1; exact h.con.topS j hj h1
  · by_cases e : A = L <<< 6
    · exact ⟨i, hi, by rw [(hsl i).1]; exact his, by rw [(hsl i).2, hl]; exact e⟩
    · rw [updN_other _ _ e] at hA
      obtain ⟨j, q1, q2, q3⟩ := h.pA A hA
      exact ⟨j, q1, by rw [(hsl j).1]; exact q2, by rw [(hsl j).2]; exact q3⟩
  · rw [(hsl j).2]; rw [(hsl j).1] at h1
    by_cases e : j = i
    · subst e
      rw [hl, updN_same, ← hl, h.pB j hj h1]
      simp [setSl, vb_or]
    · have hne : (s.sl j).line ≠ L := fun e' => e (h.con.sep j i hj hi h1 his (e'.trans hl.symm))
      rw [updN_other _ _ (fun e' => hne (top_inj (h.con.topS j hj h1) hL e')), h.pB j hj h1]
      simp [setSl, e]
theorem law_new {s : St} {T P : BitVec 64 → Nat} (h : Law s T P) {L : BitVec 64} (hL : Top L) (hw : s.wh L = none) (hno : ∀ i, i < s.ns → (s.sl i).is = true → (s.sl i).line ≠ L) {i : Nat} (hi : i < s.ns) (his : (s.sl i).is = false) (wr : Bool) :
    Law (setSl s i ⟨L, true, wr, s.delay⟩) T (updN P (L <<< 6) (vb wr)) := by
  have hs1 : (setSl s i ⟨L, true, wr, s.delay⟩).sl i = ⟨L, true, wr, s.delay⟩ := by simp [setSl]
  have hs2 : ∀ m, m ≠ i → (setSl s i ⟨L, true, wr, s.delay⟩).sl m = s.sl m := fun m e => by simp [setSl, e]
  refine ⟨⟨ok_setSl h.con.ok i _ (fun _ => Nat.le_refl _), fun j k hj hk h1 h2 h3 => ?_, fun j hj h1 => ?_, h.con.back, fun j hj h1 => ?_, h.con.topP, h.con.pos⟩, h.tA, h.tB, fun A hA => ?_, fun j hj h1 => ?_⟩
  · by_cases e1 : j = i
    · by_cases e2 : k = i
      · rw [e1, e2]
      · rw [hs2 k e2] at h2 h3
        rw [e1, hs1] at h3
        exact absurd h3.symm (hno k hk h2)
    · by_cases e2 : k = i
      · rw [hs2 j e1] at h1 h3
        rw [e2, hs1] at h3
        exact absurd h3 (hno j hj h1)
      · rw [hs2 j e1] at h1 h3
        rw [hs2 k e2] at h2 h3
        exact h.con.sep j k hj hk h1 h2 h3
  · by_cases e : j = i
    · rw [e, hs1]; exact hw
    · rw [hs2 j e] at h1 ⊢; exact h.con.out j hj h1
  · by_cases e : j = i
    · rw [e, hs1]; exact hL
    · rw [hs2 j e] at h1 ⊢; exact h.con.topS j hj h1
  · by_cases e : A = L <<< 6
    · exact ⟨i, hi, by rw [hs1], by rw [hs1]; exact e⟩
    · rw [updN_other _ _ e] at hA
      obtain ⟨j, q1, q2, q3⟩ := h.pA A hA
      have hne : j ≠ i := fun e' => by rw [e', his] at q2; cases q2
      exact ⟨j, q1, by rw [hs2 j hne]; exact q2, by rw [hs2 j hne]; exact q3⟩
  · by_cases e : j = i
    · rw [e, hs1, updN_same]
    · rw [hs2 j e] at h1 ⊢
      rw [updN_other _ _ (fun e' => hno j hj h1 (top_inj (h.con.topS j hj h1) hL e')), h.pB j hj h1]
/-- What Ask answers, and what it leaves. -/
theorem law_ask {s : St} {T P : BitVec 64 → Nat} (h : Law s T P) {L : BitVec 64} (hL : Top L) (wr : Bool) :
    (T (L <<< 6) ≠ 0 ∧ (askS s L wr).2 = 1 ∧ Law (askS s L wr).1 (updN T (L <<< 6) (max (T (L <<< 6)) (vb wr))) P) ∨
    (T (L <<< 6) = 0 ∧ P (L <<< 6) ≠ 0 ∧ (askS s L wr).2 = 2 ∧ Law (askS s L wr).1 T (updN P (L <<< 6) (max (P (L <<< 6)) (vb wr)))) ∨
    (T (L <<< 6) = 0 ∧ P (L <<< 6) = 0 ∧ (askS s L wr).2 = 2 ∧ Law (askS s L wr).1 T (updN P (L <<< 6) (vb wr))) ∨
    (T (L <<< 6) = 0 ∧ P (L <<< 6) = 0 ∧ (askS s L wr).2 = 3 ∧ (askS s L wr).1 = s ∧ underS s s.ns = s.ns) := by
  rcases ask_cases s L wr with ⟨n, hn, e⟩ | ⟨hw, i, hi, his, hl, e⟩ | ⟨hw, hf, i, hi, his, e⟩ | ⟨hw, hall, e⟩
  · rw [e]
    exact .inl ⟨by rw [h.tB _ _ hn]; exact vb_ne _, rfl, law_hit h hn wr⟩
  · rw [e]
    exact .inr (.inl ⟨h.t0 hL hw, by rw [← hl, h.pB i hi his]; exact vb_ne _, rfl, law_slot h hL hi his hl wr⟩)
  · have hno : ∀ j, j < s.ns → (s.sl j).is = true → (s.sl j).line ≠ L := fun j hj h1 h2 => by
      obtain ⟨m, hm⟩ := find_is s.ns 0 j (Nat.zero_le _) (by omega) h1 h2
      rw [hf] at hm
      cases hm
    rw [e]
    exact .inr (.inr (.inl ⟨h.t0 hL hw, h.p0 hL hno, rfl, law_new h hL hw hno hi his wr⟩))
  · have hno : ∀ j, j < s.ns → (s.sl j).is = true → (s.sl j).line ≠ L ∨ True := fun _ _ _ => .inr trivial
    by_cases hp : P (L <<< 6) = 0
    · rw [e]
      exact .inr (.inr (.inr ⟨h.t0 hL hw, hp, rfl, rfl, under_full s.ns hall⟩))
    · obtain ⟨i, q1, q2, q3⟩ := h.pA _ hp
      exfalso
      have hl := top_inj hL (h.con.topS i q1 q2) q3
      obtain ⟨m, hm⟩ := find_is s.ns 0 i (Nat.zero_le _) (by omega) q2 hl.symm
      have : (askS s L wr).2 = 2 := by unfold askS; rw [hw]; simp only []; rw [hm]
      rw [e] at this
      exact absurd this (show ¬ (3 : Int) = 2 by decide)
end Go.Proofs.Ytpflodhnniochaa
