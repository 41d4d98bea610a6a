/-
  Plain laws for CacheOnce: New, Has, Flush.
-/
import Derived.Test.YtpflodhnniochaaOnceC
namespace Go.Proofs.Ytpflodhnniochaa
set_option linter.unusedVariables false
open Go.RowKit Go.Maps

theorem law_start {sets ways ns delay : Nat} {seed : BitVec 64} (h : Ok (newS sets ways ns delay seed)) : Law (newS sets ways ns delay seed) (fun _ => 0) (fun _ => 0) :=
  ⟨⟨h, fun i j _ _ e => Bool.noConfusion e, fun i _ e => Bool.noConfusion e, fun n _ e => Bool.noConfusion e, fun i _ e => Bool.noConfusion e, fun n _ e => Bool.noConfusion e, fun n _ e => Bool.noConfusion e⟩,
    fun A e => absurd rfl e, fun L n e => (by cases e), fun A e => absurd rfl e, fun i _ e => Bool.noConfusion e⟩
theorem law_has {s : St} {T P : BitVec 64 → Nat} (h : Law s T P) {L : BitVec 64} (hL : Top L) : hasS s L = (decide (T (L <<< 6) ≠ 0), decide (T (L <<< 6) = 2)) := by
  unfold hasS
  cases e : s.wh L with
  | none => rw [h.t0 hL e]; rfl
  | some n =>
    rw [h.tB L n e]
    cases ew : (s.pl n).written <;> simp [ew, vb]
theorem out_mem (s : St) (A : BitVec 64) : ∀ k, A ∈ outS s k ↔ ∃ n, n < k ∧ (s.pl n).is = true ∧ (s.pl n).written = true ∧ A = (s.pl n).line <<< 6
  | 0 => by simp [outS]
  | k + 1 => by
    rw [outS, List.mem_append, out_mem s A k]
    constructor
    · rintro (⟨n, h1, h2⟩ | h)
      · exact ⟨n, by omega, h2⟩
      · split at h
        · rename_i e
          exact ⟨k, by omega, e.1, e.2, by simpa using h⟩
        · simp at h
    · rintro ⟨n, h1, h2, h3, h4⟩
      by_cases e : n = k
      · right
        subst e
        rw [if_pos ⟨h2, h3⟩]
        simpa using h4
      · exact .inl ⟨n, by omega, h2, h3, h4⟩
theorem out_nodup {s : St} (h : Con s) : ∀ k, k ≤ s.n → (outS s k).Nodup
  | 0, _ => List.Pairwise.nil
  | k + 1, hk => by
    rw [outS]
    split
    · rename_i e
      refine List.nodup_append.2 ⟨out_nodup h k (by omega), by simp, fun a ha b hb => ?_⟩
      obtain ⟨n, q1, q2, q3, q4⟩ := (out_mem s a k).1 ha
      simp at hb
      rintro rfl
      rw [hb] at q4
      have hl := top_inj (h.topP k (by omega) e.1) (h.topP n (by omega) q2) q4
      have h1 := h.back k (by omega) e.1
      have h2 := h.back n (by omega) q2
      rw [hl, h2] at h1
      cases h1
      omega
    · rw [List.append_nil]; exact out_nodup h k (by omega)
/-- What Flush hands back, against the law's map. -/
structure OutL (T : BitVec 64 → Nat) (L : List (BitVec 64)) : Prop where
  two : ∀ A, A ∈ L ↔ T A = 2
  nodup : L.Nodup
  rises : ∀ i, (hi : i + 1 < L.length) → L[i].toNat < L[i + 1].toNat
theorem law_out {s : St} {T P : BitVec 64 → Nat} (h : Law s T P) {L : List (BitVec 64)} (hp : L.Perm (outS s s.n)) (hr : Rises L) : OutL T L := by
  have hn : L.Nodup := hp.nodup_iff.2 (out_nodup h.con _ (Nat.le_refl _))
  refine ⟨fun A => ?_, hn, fun i hi => ?_⟩
  · rw [hp.mem_iff, out_mem]
    constructor
    · rintro ⟨n, q1, q2, q3, rfl⟩
      rw [h.tB _ _ (h.con.back n q1 q2), q3]; rfl
    · intro e
      obtain ⟨M, n, q1, q2⟩ := h.tA A (by rw [e]; decide)
      obtain ⟨r1, r2, r3⟩ := h.con.ok.wh M n q2
      have := h.tB M n q2
      rw [← q1, e] at this
      refine ⟨n, r1, r2, ?_, by rw [r3]; exact q1⟩
      cases e3 : (s.pl n).written
      · rw [e3] at this; exact absurd this (by decide)
      · rfl
  · have h1 := hr i (i + 1) (by omega) hi (by omega)
    have h2 : L[i] ≠ L[i + 1] := fun e => by
      have := (List.getElem_inj (h₀ := by omega) (h₁ := hi) hn).1 e
      omega
    have h3 : L[i].toNat ≠ L[i + 1].toNat := fun e => h2 (BitVec.eq_of_toNat_eq e)
    omega
def ones (T : BitVec 64 → Nat) : List (BitVec 64) → (BitVec 64 → Nat)
  | [] => T
  | A :: r => ones (updN T A 1) r
theorem ones_snoc (T : BitVec 64 → Nat) : ∀ (l : List (BitVec 64)) (A : BitVec 64), ones T (l ++ [A]) = updN (ones T l) A 1
  | [], _ => rfl
  | B :: r, A => ones_snoc (updN T B 1) r A
theorem ones_at (T : BitVec 64 → Nat) (A : BitVec 64) : ∀ l : List (BitVec 64), ones T l A = if A ∈ l then 1 else T A
  | [] => by simp [ones]
  | B :: r => by
    rw [ones, ones_at (updN T B 1) A r]
    by_cases e : A = B
    · subst e; simp [updN_same]
    · rw [updN_other _ _ e]; simp [e]
theorem few_ones {T : BitVec 64 → Nat} {N : Nat} (h : Few T N) : ∀ l : List (BitVec 64), Few (ones T l) (N + l.length) := by
  intro l
  induction l generalizing T N with
  | nil => exact h
  | cons A r ih =>
    have := ih (h.upd A 1)
    rw [List.length_cons, show N + (r.length + 1) = N + 1 + r.length by omega]
    exact this
theorem out_at {T : BitVec 64 → Nat} {L : List (BitVec 64)} (h : OutL T L) {i : Nat} (hi : i < L.length) : ones T (L.take i) L[i] = 2 := by
  rw [ones_at, if_neg, (h.two _).1 (List.getElem_mem hi)]
  intro hm
  obtain ⟨j, hj, e⟩ := List.mem_iff_getElem.1 hm
  rw [List.length_take] at hj
  rw [List.getElem_take] at e
  have := (List.getElem_inj (h₀ := by omega) (h₁ := hi) h.nodup).1 e
  omega
theorem out_end {T : BitVec 64 → Nat} {L : List (BitVec 64)} (h : OutL T L) (A : BitVec 64) : ones T L A ≠ 2 := by
  rw [ones_at]
  by_cases e : A ∈ L
  · rw [if_pos e]; decide
  · rw [if_neg e]; exact fun e2 => e ((h.two A).2 e2)
theorem has_flush (s : St) (L : BitVec 64) : hasS (flushS s) L = (false, false) := rfl
theorem under_flush (s : St) : underS (flushS s) (flushS s).ns = 0 := under_none (fun _ => rfl) _
end Go.Proofs.Ytpflodhnniochaa
