/-
  Plain laws for CacheSeeds.
-/
import Derived.Test.YtpflodhnniochaaCacheM
namespace Go.Proofs.Ytpflodhnniochaa
set_option linter.unusedVariables false
open Go.RowKit Go.Maps

/-- No line is the line 0. -/
def Inv (s : St) : Prop := (∀ i, (s.sl i).is = true → (s.sl i).line <<< 6 ≠ 0#64) ∧ (∀ n, (s.pl n).is = true → (s.pl n).line <<< 6 ≠ 0#64)
theorem find_seeded (s : St) (x L : BitVec 64) : ∀ k i, findS (seeded s x) L i k = findS s L i k
  | 0, _ => rfl
  | k + 1, i => by rw [findS, findS, find_seeded s x L k (i + 1)]; rfl
theorem free_seeded (s : St) (x : BitVec 64) : ∀ k i, freeS (seeded s x) i k = freeS s i k
  | 0, _ => rfl
  | k + 1, i => by rw [freeS, freeS, free_seeded s x k (i + 1)]; rfl
theorem under_seeded (s : St) (x : BitVec 64) : ∀ k, underS (seeded s x) k = underS s k
  | 0 => rfl
  | k + 1 => by rw [underS, underS, under_seeded s x k]; rfl
theorem empty_flags {s d : St} (h : ∀ n, (s.pl n).is = (d.pl n).is) : ∀ k n, emptyS s n k = emptyS d n k
  | 0, _ => rfl
  | k + 1, n => by rw [emptyS, emptyS, empty_flags h k (n + 1), h n]
theorem ask_seeded (s : St) (x L : BitVec 64) (wr : Bool) : askS (seeded s x) L wr = (seeded (askS s L wr).1 x, (askS s L wr).2) := by
  have e0 : (seeded s x).wh L = s.wh L := rfl
  have e1 : findS (seeded s x) L 0 (seeded s x).ns = findS s L 0 s.ns := find_seeded s x L _ _
  have e2 : freeS (seeded s x) 0 (seeded s x).ns = freeS s 0 s.ns := free_seeded s x _ _
  unfold askS
  rw [e0, e1, e2]
  cases s.wh L with
  | some n => rfl
  | none =>
    cases findS s L 0 s.ns with
    | some i => rfl
    | none =>
      cases freeS s 0 s.ns with
      | some i => rfl
      | none => rfl
theorem inv_ask {s : St} (h : Inv s) {L : BitVec 64} (hL : L <<< 6 ≠ 0#64) (wr : Bool) : Inv (askS s L wr).1 := by
  rcases ask_cases s L wr with ⟨n, hn, e⟩ | ⟨_, i, _, h1, _, e⟩ | ⟨_, _, i, _, _, e⟩ | ⟨_, _, e⟩ <;> rw [e]
  · refine ⟨h.1, fun j hj => ?_⟩
    by_cases e1 : j = n
    · subst e1; simp only [setPl, if_true] at hj ⊢; exact h.2 j hj
    · simp only [setPl, if_neg e1] at hj ⊢; exact h.2 j hj
  · refine ⟨fun j hj => ?_, h.2⟩
    by_cases e1 : j = i
    · subst e1; simp only [setSl, if_true] at hj ⊢; exact h.1 j hj
    · simp only [setSl, if_neg e1] at hj ⊢; exact h.1 j hj
  · refine ⟨fun j hj => ?_, h.2⟩
    by_cases e1 : j = i
    · subst e1; simp only [setSl, if_true]; exact hL
    · simp only [setSl, if_neg e1] at hj ⊢; exact h.1 j hj
  · exact h
/-- Alike but for who has gone. -/
structure Sim (s d : St) : Prop where
  sets : s.sets = d.sets
  ways : s.ways = d.ways
  ways1 : 1 ≤ s.ways ∧ s.ways ≤ 8
  sl : s.sl = d.sl
  pl : ∀ n, (s.pl n).is = (d.pl n).is
  inv : Inv s
  inv' : Inv d
def kd (e : Dn) : BitVec 64 × Bool := (e.at_, e.out == 0#64)
theorem empty_full (s : St) : ∀ k n, emptyS s n k = n + k → ∀ j, n ≤ j → j < n + k → (s.pl j).is = true
  | 0, n, _, j, h1, h2 => by omega
  | k + 1, n, h, j, h1, h2 => by
    rw [emptyS] at h
    split at h
    · rename_i e
      by_cases ej : j = n
      · subst ej; exact e
      · exact empty_full s k (n + 1) (by omega) j (by omega) (by omega)
    · omega
theorem gone_in {s : St} (h : 1 ≤ s.ways ∧ s.ways ≤ 8) (L : BitVec 64) : firstS s L ≤ goneS s L ∧ goneS s L < firstS s L + s.ways := by
  have e : (BitVec.ofNat 64 s.ways).toNat = s.ways := by rw [BitVec.toNat_ofNat, Nat.mod_eq_of_lt (by omega)]
  have h1 : ((stepSeed s.seed >>> 32) % BitVec.ofNat 64 s.ways).toNat < s.ways := by
    rw [BitVec.toNat_umod, e]
    exact Nat.mod_lt _ (by omega)
  unfold goneS
  omega
/-- A place that is filled, whoever was there. -/
theorem inv_fill {s : St} (h : Inv s) (n : Nat) {M : BitVec 64} (hM : M <<< 6 ≠ 0#64) (wr : Bool) (f : BitVec 64 → Option Nat) (x : BitVec 64) : Inv { s with pl := fun j => if j = n then ⟨M, true, wr⟩ else s.pl j, wh := f, seed := x } :=
  ⟨h.1, fun j hj => by
    by_cases e : j = n
    · subst e; simpa using hM
    · simp only [if_neg e] at hj ⊢; exact h.2 j hj⟩
theorem lay_sim {s d : St} (h : Sim s d) {M : BitVec 64} (hM : M <<< 6 ≠ 0#64) (wr : Bool) : Sim (layS s M wr).1 (layS d M wr).1 ∧ kd (layS s M wr).2 = kd (layS d M wr).2 := by
  have hf : firstS s M = firstS d M := by unfold firstS St.m; rw [h.sets, h.ways]
  have he : emptyS s (firstS s M) s.ways = emptyS d (firstS d M) d.ways := by rw [← hf, ← h.ways]; exact empty_flags h.pl _ _
  by_cases hc : emptyS s (firstS s M) s.ways = firstS s M + s.ways
  · have hc' : emptyS d (firstS d M) d.ways = firstS d M + d.ways := by rw [← he, hc, hf, h.ways]
    have g1 := gone_in h.ways1 M
    have g2 := gone_in (s := d) (by rw [← h.ways]; exact h.ways1) M
    have p1 := empty_full s _ _ hc _ g1.1 g1.2
    have p2 := empty_full d _ _ hc' _ g2.1 g2.2
    unfold layS
    rw [if_pos hc, if_pos hc']
    refine ⟨⟨h.sets, h.ways, h.ways1, h.sl, fun n => ?_, inv_fill h.inv _ hM wr _ _, inv_fill h.inv' _ hM wr _ _⟩, ?_⟩
    · show (if n = goneS s M then (⟨M, true, wr⟩ : Pl) else s.pl n).is = (if n = goneS d M then (⟨M, true, wr⟩ : Pl) else d.pl n).is
      have e1 : (if n = goneS s M then (⟨M, true, wr⟩ : Pl) else s.pl n).is = (s.pl n).is := by
        by_cases e : n = goneS s M
        · subst e; simp [p1]
        · simp [e]
      have e2 : (if n = goneS d M then (⟨M, true, wr⟩ : Pl) else d.pl n).is = (d.pl n).is := by
        by_cases e : n = goneS d M
        · subst e; simp [p2]
        · simp [e]
      rw [e1, e2, h.pl]
    · have q1 := h.inv.2 _ p1
      have q2 := h.inv'.2 _ p2
      unfold kd
      have r1 : ((s.pl (goneS s M)).line <<< 6 == 0#64) = false := by simpa using q1
      have r2 : ((d.pl (goneS d M)).line <<< 6 == 0#64) = false := by simpa using q2
      simp only [r1, r2]
  · have hc' : ¬ emptyS d (firstS d M) d.ways = firstS d M + d.ways := fun e => hc (by rw [he, e, hf, h.ways])
    unfold layS
    rw [if_neg hc, if_neg hc']
    refine ⟨⟨h.sets, h.ways, h.ways1, h.sl, fun n => ?_, inv_fill h.inv _ hM wr _ s.seed, inv_fill h.inv' _ hM wr _ d.seed⟩, rfl⟩
    show (if n = emptyS s (firstS s M) s.ways then (⟨M, true, wr⟩ : Pl) else s.pl n).is = (if n = emptyS d (firstS d M) d.ways then (⟨M, true, wr⟩ : Pl) else d.pl n).is
    rw [he]
    by_cases e : n = emptyS d (firstS d M) d.ways
    · simp [e]
    · simp [e, h.pl]
theorem sim_setSl {s d : St} (h : Sim s d) (i : Nat) (p : Sl) (hp : p.is = true → p.line <<< 6 ≠ 0#64) : Sim (setSl s i p) (setSl d i p) := by
  have hi : ∀ {t : St}, Inv t → Inv (setSl t i p) := fun ht => ⟨fun j hj => by
    by_cases e : j = i
    · subst e; simp only [setSl, if_true] at hj ⊢; exact hp hj
    · simp only [setSl, if_neg e] at hj ⊢; exact ht.1 j hj, ht.2⟩
  exact ⟨h.sets, h.ways, h.ways1, by unfold setSl; simp only [h.sl], h.pl, hi h.inv, hi h.inv'⟩
theorem tick1_sim {s d : St} (h : Sim s d) (i : Nat) : Sim (tick1 s i).1 (tick1 d i).1 ∧ (tick1 s i).2.map kd = (tick1 d i).2.map kd := by
  unfold tick1
  rw [← h.sl]
  split
  · rename_i h1
    have hL := h.inv.1 i h1
    split
    · have hs := sim_setSl h i { s.sl i with left := 0 } (fun _ => hL)
      have hl := lay_sim hs hL (s.sl i).write
      exact ⟨sim_setSl hl.1 i ⟨0#64, false, false, 0⟩ (fun e => by cases e), by simp only [List.map_cons, List.map_nil, hl.2]⟩
    · exact ⟨sim_setSl h i { s.sl i with left := (s.sl i).left - 1 } (fun _ => hL), rfl⟩
  · exact ⟨h, rfl⟩
theorem tick_sim {s d : St} (h : Sim s d) : ∀ k, Sim (tickS s k).1 (tickS d k).1 ∧ (tickS s k).2.map kd = (tickS d k).2.map kd
  | 0 => ⟨h, rfl⟩
  | k + 1 => by
    have ih := tick_sim h k
    have h1 := tick1_sim ih.1 k
    rw [tickS, tickS]
    exact ⟨h1.1, by rw [List.map_append, List.map_append, ih.2, h1.2]⟩
theorem sim_seeded {s : St} (h : Inv s) (hw : 1 ≤ s.ways ∧ s.ways ≤ 8) (x : BitVec 64) : Sim s (seeded s x) := ⟨rfl, rfl, hw, rfl, fun _ => rfl, h, h⟩
theorem lay_eq {s : St} (hi : Inv s) (hw : 1 ≤ s.ways ∧ s.ways ≤ 8) (x M : BitVec 64) (wr : Bool) (h0 : (layS s M wr).2.out = 0#64) : layS (seeded s x) M wr = (seeded (layS s M wr).1 x, (layS s M wr).2) := by
  have hf : firstS (seeded s x) M = firstS s M := rfl
  have hws : (seeded s x).ways = s.ways := rfl
  have he : emptyS (seeded s x) (firstS s M) s.ways = emptyS s (firstS s M) s.ways := empty_flags (s := seeded s x) (d := s) (fun _ => rfl) _ _
  by_cases hc : emptyS s (firstS s M) s.ways = firstS s M + s.ways
  · have g1 := gone_in hw M
    have p1 := empty_full s _ _ hc _ g1.1 g1.2
    unfold layS at h0
    rw [if_pos hc] at h0
    exact absurd h0 (hi.2 _ p1)
  · unfold layS
    rw [hf, hws, he, if_neg hc, if_neg hc]
    rfl
theorem tick1_eq {s : St} (hi : Inv s) (hw : 1 ≤ s.ways ∧ s.ways ≤ 8) (x : BitVec 64) (i : Nat) (h0 : ∀ e ∈ (tick1 s i).2, e.out = 0#64) : tick1 (seeded s x) i = (seeded (tick1 s i).1 x, (tick1 s i).2) := by
  have e0 : (seeded s x).sl i = s.sl i := rfl
  unfold tick1 at h0 ⊢
  rw [e0]
  split
  · rename_i h1
    rw [if_pos h1] at h0
    split
    · rename_i h2
      rw [if_pos h2] at h0
      have hs : Inv (setSl s i { s.sl i with left := 0 }) := (sim_setSl (sim_seeded hi hw s.seed) i { s.sl i with left := 0 } (fun _ => hi.1 i h1)).inv
      have hl := lay_eq hs hw x (s.sl i).line (s.sl i).write (h0 _ (by simp))
      have e1 : setSl (seeded s x) i { s.sl i with left := 0 } = seeded (setSl s i { s.sl i with left := 0 }) x := rfl
      rw [e1, hl]
      rfl
    · rfl
  · rfl
theorem tick_eq {s : St} (hi : Inv s) (hw : 1 ≤ s.ways ∧ s.ways ≤ 8) (x : BitVec 64) : ∀ k, (∀ e ∈ (tickS s k).2, e.out = 0#64) → tickS (seeded s x) k = (seeded (tickS s k).1 x, (tickS s k).2)
  | 0, _ => rfl
  | k + 1, h0 => by
    rw [tickS] at h0
    have ih := tick_eq hi hw x k (fun e he => h0 e (List.mem_append_left _ he))
    have hs := (tick_sim (sim_seeded hi hw x) k).1
    have h1 := tick1_eq hs.inv hs.ways1 x k (fun e he => h0 e (List.mem_append_right _ he))
    rw [tickS, tickS, ih]
    simp only []
    rw [h1]
theorem top_line (x : BitVec 64) : ((x ||| 9223372036854775808#64) / 64#64) <<< 6 ≠ 0#64 := by
  rw [mask6]
  intro h
  have h1 := congrArg (fun y => BitVec.getLsbD y 63) h
  simp at h1
end Go.Proofs.Ytpflodhnniochaa
