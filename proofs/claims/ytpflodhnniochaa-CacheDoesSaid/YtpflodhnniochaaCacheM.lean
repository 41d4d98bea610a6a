/-
  Plain laws for CacheComes.
-/
import Derived.Test.YtpflodhnniochaaCacheL
namespace Go.Proofs.Ytpflodhnniochaa
set_option linter.unusedVariables false
open Go.RowKit Go.Maps

theorem find_some {s : St} {L : BitVec 64} : ∀ (k i j : Nat), findS s L i k = some j → i ≤ j ∧ j < i + k ∧ (s.sl j).is = true ∧ (s.sl j).line = L
  | 0, i, j, h => by cases h
  | k + 1, i, j, h => by
    rw [findS] at h
    split at h
    · rename_i e
      cases h
      exact ⟨Nat.le_refl _, by omega, e.1, e.2⟩
    · have := find_some k (i + 1) j h
      exact ⟨by omega, by omega, this.2.2⟩
theorem find_is {s : St} {L : BitVec 64} : ∀ (k i j : Nat), i ≤ j → j < i + k → (s.sl j).is = true → (s.sl j).line = L → ∃ m, findS s L i k = some m
  | 0, i, j, h1, h2, _, _ => by omega
  | k + 1, i, j, h1, h2, h3, h4 => by
    rw [findS]
    split
    · exact ⟨_, rfl⟩
    · rename_i e
      have : j ≠ i := fun e1 => e (by subst e1; exact ⟨h3, h4⟩)
      exact find_is k (i + 1) j (by omega) (by omega) h3 h4
theorem free_some {s : St} : ∀ (k i j : Nat), freeS s i k = some j → i ≤ j ∧ j < i + k ∧ (s.sl j).is = false
  | 0, i, j, h => by cases h
  | k + 1, i, j, h => by
    rw [freeS] at h
    split at h
    · rename_i e
      cases h
      exact ⟨Nat.le_refl _, by omega, e⟩
    · have := free_some k (i + 1) j h
      exact ⟨by omega, by omega, this.2.2⟩
theorem free_none {s : St} : ∀ (k i : Nat), freeS s i k = none → ∀ j, i ≤ j → j < i + k → (s.sl j).is = true
  | 0, i, _, j, h1, h2 => by omega
  | k + 1, i, h, j, h1, h2 => by
    rw [freeS] at h
    split at h
    · cases h
    · rename_i e
      by_cases e1 : j = i
      · subst e1; simpa using e
      · exact free_none k (i + 1) h j (by omega) (by omega)
theorem under_full {s : St} : ∀ k, (∀ j, j < k → (s.sl j).is = true) → underS s k = k
  | 0, _ => rfl
  | k + 1, h => by rw [underS, under_full k (fun j hj => h j (by omega)), h k (by omega)]; rfl

/-- What Ask does, told by its answer. -/
theorem ask_cases (s : St) (L : BitVec 64) (wr : Bool) :
    (∃ n, s.wh L = some n ∧ askS s L wr = (setPl s n { s.pl n with written := (s.pl n).written || wr }, 1)) ∨
    (s.wh L = none ∧ ∃ i, i < s.ns ∧ (s.sl i).is = true ∧ (s.sl i).line = L ∧ askS s L wr = (setSl s i { s.sl i with write := (s.sl i).write || wr }, 2)) ∨
    (s.wh L = none ∧ findS s L 0 s.ns = none ∧ ∃ i, i < s.ns ∧ (s.sl i).is = false ∧ askS s L wr = (setSl s i ⟨L, true, wr, s.delay⟩, 2)) ∨
    (s.wh L = none ∧ (∀ j, j < s.ns → (s.sl j).is = true) ∧ askS s L wr = (s, 3)) := by
  cases hw : s.wh L with
  | some n => exact .inl ⟨n, rfl, by unfold askS; rw [hw]⟩
  | none =>
    right
    cases hf : findS s L 0 s.ns with
    | some i =>
      have := find_some _ _ _ hf
      exact .inl ⟨rfl, i, by omega, this.2.2.1, this.2.2.2, by unfold askS; rw [hw]; simp only []; rw [hf]⟩
    | none =>
      right
      cases hr : freeS s 0 s.ns with
      | some i =>
        have := free_some _ _ _ hr
        exact .inl ⟨rfl, rfl, i, by omega, this.2.2, by unfold askS; rw [hw]; simp only []; rw [hf]; simp only []; rw [hr]⟩
      | none => exact .inr ⟨rfl, fun j hj => free_none _ _ hr j (Nat.zero_le _) (by omega), by unfold askS; rw [hw]; simp only []; rw [hf]; simp only []; rw [hr]⟩
theorem ask_same (s : St) (L : BitVec 64) (wr : Bool) : (askS s L wr).1.wh = s.wh ∧ (askS s L wr).1.ns = s.ns ∧ (askS s L wr).1.delay = s.delay := by
  rcases ask_cases s L wr with ⟨n, _, e⟩ | ⟨_, i, _, _, _, e⟩ | ⟨_, _, i, _, _, e⟩ | ⟨_, _, e⟩ <;> rw [e] <;> exact ⟨rfl, rfl, rfl⟩
theorem fr_ask {s : St} (h : Fr s) (hd : 1 ≤ s.delay) (L : BitVec 64) (wr : Bool) : Fr (askS s L wr).1 := by
  rcases ask_cases s L wr with ⟨n, _, e⟩ | ⟨_, i, _, h1, _, e⟩ | ⟨_, _, i, _, _, e⟩ | ⟨_, _, e⟩ <;> rw [e]
  · exact h
  · intro j hj hjs
    by_cases e1 : j = i
    · subst e1; simp only [setSl, if_true] at hjs ⊢; exact h j hj hjs
    · simp only [setSl, if_neg e1] at hjs ⊢; exact h j hj hjs
  · intro j hj hjs
    by_cases e1 : j = i
    · subst e1; simp only [setSl, if_true]; exact hd
    · simp only [setSl, if_neg e1] at hjs ⊢; exact h j hj hjs
  · exact h
/-- A slot that is under way with line L, and how many cycles it has. -/
def Pend (s : St) (L : BitVec 64) (i left : Nat) : Prop := i < s.ns ∧ (s.sl i).is = true ∧ (s.sl i).line = L ∧ (s.sl i).left = left
theorem pend_ask {s : St} {L : BitVec 64} {i left : Nat} (h : Pend s L i left) (M : BitVec 64) (wr : Bool) : Pend (askS s M wr).1 L i left := by
  obtain ⟨h1, h2, h3, h4⟩ := h
  rcases ask_cases s M wr with ⟨n, _, e⟩ | ⟨_, j, _, _, _, e⟩ | ⟨_, _, j, _, hj, e⟩ | ⟨_, _, e⟩ <;> rw [e]
  · exact ⟨h1, h2, h3, h4⟩
  · refine ⟨h1, ?_⟩
    by_cases e1 : i = j
    · subst e1; simp only [setSl, if_true]; exact ⟨h2, h3, h4⟩
    · simp only [setSl, if_neg e1]; exact ⟨h2, h3, h4⟩
  · refine ⟨h1, ?_⟩
    by_cases e1 : i = j
    · subst e1; rw [h2] at hj; cases hj
    · simp only [setSl, if_neg e1]; exact ⟨h2, h3, h4⟩
  · exact ⟨h1, h2, h3, h4⟩
theorem ask_waits {s : St} {L : BitVec 64} {i left : Nat} (h : Pend s L i left) (hw : s.wh L = none) (wr : Bool) : (askS s L wr).2 = 2 := by
  obtain ⟨m, hm⟩ := find_is s.ns 0 i (Nat.zero_le _) (by have := h.1; omega) h.2.1 h.2.2.1
  unfold askS
  rw [hw]
  simp only []
  rw [hm]
theorem lay_facts (s : St) (M : BitVec 64) (wr : Bool) : (layS s M wr).2.at_ = M <<< 6 ∧ (layS s M wr).1.delay = s.delay ∧ ∀ L, L ≠ M → s.wh L = none → (layS s M wr).1.wh L = none := by
  unfold layS
  split
  · refine ⟨rfl, rfl, fun L hL hw => ?_⟩
    show upd (upd s.wh _ none) M _ L = none
    rw [upd_other _ _ hL]
    unfold upd
    split
    · rfl
    · exact hw
  · refine ⟨rfl, rfl, fun L hL hw => ?_⟩
    show upd s.wh M _ L = none
    rw [upd_other _ _ hL]
    exact hw
/-- What a tick does at its own slot. -/
theorem tick1_self (s : St) (i : Nat) : ((tick1 s i).1.sl i).is = true → (s.sl i).is = true ∧ (s.sl i).left ≠ 1 ∧ ((tick1 s i).1.sl i).line = (s.sl i).line ∧ ((tick1 s i).1.sl i).left = (s.sl i).left - 1 := by
  unfold tick1
  split
  · rename_i h1
    split
    · intro h
      simp [setSl] at h
    · rename_i h2
      intro _
      simp [setSl, h1, h2]
  · rename_i h1
    intro h
    exact absurd h h1
theorem tick1_delay (s : St) (i : Nat) : (tick1 s i).1.delay = s.delay := by
  unfold tick1
  split
  · split
    · show (layS _ _ _).1.delay = _
      rw [(lay_facts _ _ _).2.1]; rfl
    · rfl
  · rfl
theorem tick_delay (s : St) : ∀ k, (tickS s k).1.delay = s.delay
  | 0 => rfl
  | k + 1 => by rw [tickS]; exact (tick1_delay _ k).trans (tick_delay s k)
/-- Behind a tick each slot that is still under way has a cycle less. -/
theorem tick_slots (s : St) : ∀ k i, i < k → ((tickS s k).1.sl i).is = true → (s.sl i).is = true ∧ (s.sl i).left ≠ 1 ∧ ((tickS s k).1.sl i).line = (s.sl i).line ∧ ((tickS s k).1.sl i).left = (s.sl i).left - 1
  | 0, i, h, _ => by omega
  | k + 1, i, h, hi => by
    rw [tickS] at hi ⊢
    by_cases e : i = k
    · subst e
      have := tick1_self _ i hi
      rw [tick_sl s i i (Nat.le_refl _)] at this
      exact this
    · simp only [tick1_sl _ k i e] at hi ⊢
      exact tick_slots s k i (by omega) hi
theorem fr_tick {s : St} (h : Fr s) : Fr (tickS s s.ns).1 := by
  intro i hi his
  rw [tick_ns] at hi
  have := tick_slots s s.ns i hi his
  have h1 := h i hi this.1
  omega
/-- The line that waits comes, or it has a cycle less. -/
theorem tick_pend {s : St} {L : BitVec 64} {i left : Nat} (h : Pend s L i (left + 1)) (hw : s.wh L = none) : ∀ k, (∃ e ∈ (tickS s k).2, e.at_ = L <<< 6) ∨
    ((tickS s k).1.wh L = none ∧ if k ≤ i then (tickS s k).1.sl i = s.sl i else ((tickS s k).1.sl i).is = true ∧ ((tickS s k).1.sl i).line = L ∧ ((tickS s k).1.sl i).left = left ∧ 1 ≤ left)
  | 0 => .inr ⟨hw, by simp [tickS]⟩
  | k + 1 => by
    rcases tick_pend h hw k with ⟨e, he, hee⟩ | ⟨hwk, hk⟩
    · exact .inl ⟨e, by rw [tickS]; exact List.mem_append_left _ he, hee⟩
    · rw [tickS]
      generalize tickS s k = r at hwk hk ⊢
      obtain ⟨st, ds⟩ := r
      simp only [] at hwk hk ⊢
      by_cases hst : (st.sl k).is = true ∧ (st.sl k).left = 1
      · obtain ⟨g1, g2⟩ := hst
        have ht : tick1 st k = (setSl (layS (setSl st k { st.sl k with left := 0 }) (st.sl k).line (st.sl k).write).1 k ⟨0#64, false, false, 0⟩, [(layS (setSl st k { st.sl k with left := 0 }) (st.sl k).line (st.sl k).write).2]) := by
          unfold tick1
          rw [if_pos g1, if_pos g2]
        obtain ⟨f1, f2, f3⟩ := lay_facts (setSl st k { st.sl k with left := 0 }) (st.sl k).line (st.sl k).write
        by_cases hL : (st.sl k).line = L
        · left
          refine ⟨(layS (setSl st k { st.sl k with left := 0 }) (st.sl k).line (st.sl k).write).2, by rw [ht]; simp, ?_⟩
          rw [f1, hL]
        · right
          have hki : k ≠ i := by
            intro e
            subst e
            rw [if_pos (Nat.le_refl _)] at hk
            rw [hk] at hL
            exact hL h.2.2.1
          refine ⟨by rw [ht]; exact f3 L (fun e => hL e.symm) hwk, ?_⟩
          have hsl : (tick1 st k).1.sl i = st.sl i := tick1_sl st k i (fun e => hki e.symm)
          rw [hsl]
          by_cases hle : k ≤ i
          · rw [if_pos hle] at hk
            rw [if_pos (by omega)]
            exact hk
          · rw [if_neg hle] at hk
            rw [if_neg (by omega)]
            exact hk
      · right
        have hwh : (tick1 st k).1.wh = st.wh := by
          unfold tick1
          split
          · rename_i g1
            rw [if_neg (fun e => hst ⟨g1, e⟩)]
            rfl
          · rfl
        refine ⟨by rw [hwh]; exact hwk, ?_⟩
        by_cases hki : k = i
        · subst hki
          rw [if_pos (Nat.le_refl _)] at hk
          rw [if_neg (by omega)]
          have g1 : (st.sl k).is = true := by rw [hk]; exact h.2.1
          have g2 : (st.sl k).left = left + 1 := by rw [hk]; exact h.2.2.2
          have g3 : (st.sl k).line = L := by rw [hk]; exact h.2.2.1
          have g4 : left ≠ 0 := fun e => hst ⟨g1, by rw [g2, e]⟩
          have ht : tick1 st k = (setSl st k { st.sl k with left := (st.sl k).left - 1 }, []) := by
            unfold tick1
            rw [if_pos g1, if_neg (by omega)]
          rw [ht]
          simp only [setSl, if_true]
          exact ⟨g1, g3, by omega, by omega⟩
        · have hsl : (tick1 st k).1.sl i = st.sl i := tick1_sl st k i (fun e => hki e.symm)
          rw [hsl]
          by_cases hle : k ≤ i
          · rw [if_pos hle] at hk
            rw [if_pos (by omega)]
            exact hk
          · rw [if_neg hle] at hk
            rw [if_neg (by omega)]
            exact hk
theorem tick_waits {s : St} {L : BitVec 64} {i left : Nat} (h : Pend s L i (left + 1)) (hw : s.wh L = none) : (∃ e ∈ (tickS s s.ns).2, e.at_ = L <<< 6) ∨ ((tickS s s.ns).1.wh L = none ∧ Pend (tickS s s.ns).1 L i left ∧ 1 ≤ left) := by
  rcases tick_pend h hw s.ns with h1 | ⟨h1, h2⟩
  · exact .inl h1
  · rw [if_neg (by have := h.1; omega)] at h2
    exact .inr ⟨h1, ⟨by rw [tick_ns]; exact h.1, h2.1, h2.2.1, h2.2.2.1⟩, h2.2.2.2⟩
end Go.Proofs.Ytpflodhnniochaa
