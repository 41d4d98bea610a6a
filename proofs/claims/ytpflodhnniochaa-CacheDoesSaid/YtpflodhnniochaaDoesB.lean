/-
  CacheDoes: what holds of every state that calls lead to: a line lies once, in its set.
-/
import Derived.Test.YtpflodhnniochaaDoesA
namespace Go.Proofs.Ytpflodhnniochaa
set_option linter.unusedVariables false
open Go.RowKit Go.Maps

structure Co (s : St) : Prop where
  ok : Ok s
  sep : ∀ i j, i < s.ns → j < s.ns → (s.sl i).is = true → (s.sl j).is = true → (s.sl i).line = (s.sl j).line → i = j
  out : ∀ i, i < s.ns → (s.sl i).is = true → s.wh (s.sl i).line = none
  back : ∀ n, n < s.n → (s.pl n).is = true → s.wh (s.pl n).line = some n
  pos : ∀ n, n < s.n → (s.pl n).is = true → firstS s (s.pl n).line ≤ n ∧ n < firstS s (s.pl n).line + s.ways
theorem co_start {sets ways ns delay : Nat} {seed : BitVec 64} (h : Ok (newS sets ways ns delay seed)) : Co (newS sets ways ns delay seed) :=
  ⟨h, fun i j _ _ e => Bool.noConfusion e, fun i _ e => Bool.noConfusion e, fun n _ e => Bool.noConfusion e, fun n _ e => Bool.noConfusion e⟩
theorem co_flush {s : St} (h : Co s) : Co (flushS s) :=
  ⟨ok_flush h.ok, fun i j _ _ e => Bool.noConfusion e, fun i _ e => Bool.noConfusion e, fun n _ e => Bool.noConfusion e, fun n _ e => Bool.noConfusion e⟩
theorem co_ask {s : St} (h : Co s) (L : BitVec 64) (wr : Bool) : Co (askS s L wr).1 := by
  rcases ask_cases s L wr with ⟨n, hn, e⟩ | ⟨hw, i, hi, his, hl, e⟩ | ⟨hw, hf, i, hi, his, e⟩ | ⟨hw, hall, e⟩
  · rw [e]
    obtain ⟨q1, q2, q3⟩ := h.ok.wh L n hn
    have hpl : ∀ m, ((setPl s n { s.pl n with written := (s.pl n).written || wr }).pl m).is = (s.pl m).is ∧ ((setPl s n { s.pl n with written := (s.pl n).written || wr }).pl m).line = (s.pl m).line := fun m => by
      by_cases e : m = n
      · subst e; simp [setPl]
      · simp [setPl, e]
    refine ⟨ok_setPl h.ok n _ (fun L' e => ⟨q2, (h.ok.wh L' n e).2.2⟩), h.sep, h.out, fun m hm hi => ?_, fun m hm hi => ?_⟩
    · show s.wh _ = _
      rw [(hpl m).2]; rw [(hpl m).1] at hi; exact h.back m hm hi
    · rw [(hpl m).2]; rw [(hpl m).1] at hi; exact h.pos m hm hi
  · rw [e]
    have hsl : ∀ m, ((setSl s i { s.sl i with write := (s.sl i).write || wr }).sl m).is = (s.sl m).is ∧ ((setSl s i { s.sl i with write := (s.sl i).write || wr }).sl m).line = (s.sl m).line := fun m => by
      by_cases e : m = i
      · subst e; simp [setSl]
      · simp [setSl, e]
    refine ⟨ok_setSl h.ok i _ (fun _ => h.ok.sl i hi his), fun j k hj hk h1 h2 h3 => ?_, fun j hj h1 => ?_, h.back, h.pos⟩
    · rw [(hsl j).1] at h1; rw [(hsl k).1] at h2; rw [(hsl j).2, (hsl k).2] at h3
      exact h.sep j k hj hk h1 h2 h3
    · show s.wh _ = _
      rw [(hsl j).2]; rw [(hsl j).1] at h1; exact h.out j hj h1
  · rw [e]
    have hno : ∀ j, j < s.ns → (s.sl j).is = true → (s.sl j).line ≠ L := fun j hj h1 h2 => by
      obtain ⟨m, hm⟩ := find_is s.ns 0 j (Nat.zero_le _) (by omega) h1 h2
      rw [hf] at hm
      cases hm
    have hs1 : (setSl s i ⟨L, true, wr, s.delay⟩).sl i = ⟨L, true, wr, s.delay⟩ := by simp [setSl]
    have hs2 : ∀ m, m ≠ i → (setSl s i ⟨L, true, wr, s.delay⟩).sl m = s.sl m := fun m e => by simp [setSl, e]
    refine ⟨ok_setSl h.ok i _ (fun _ => Nat.le_refl _), fun j k hj hk h1 h2 h3 => ?_, fun j hj h1 => ?_, h.back, h.pos⟩
    · by_cases e1 : j = i
      · by_cases e2 : k = i
        · rw [e1, e2]
        · rw [hs2 k e2] at h2 h3
          rw [e1, hs1] at h3
          exact absurd h3.symm (hno k hk h2)
      · by_cases e2 : k = i
        · rw [hs2 j e1] at h1 h3
          rw [e2, hs1] at h3
          exact absurd h3 (hno j hj h1)
        · rw [hs2 j e1] at h1 h3
          rw [hs2 k e2] at h2 h3
          exact h.sep j k hj hk h1 h2 h3
    · show s.wh _ = _
      by_cases e : j = i
      · rw [e, hs1]; exact hw
      · rw [hs2 j e] at h1 ⊢; exact h.out j hj h1
  · rw [e]; exact h
theorem co_left {s : St} (h : Co s) {i : Nat} (hi : i < s.ns) (n : Nat) (hn : n ≤ (s.sl i).left) : Co (setSl s i { s.sl i with left := n }) := by
  have hsl : ∀ m, ((setSl s i { s.sl i with left := n }).sl m).is = (s.sl m).is ∧ ((setSl s i { s.sl i with left := n }).sl m).line = (s.sl m).line := fun m => by
    by_cases e : m = i
    · subst e; simp [setSl]
    · simp [setSl, e]
  refine ⟨ok_setSl h.ok i _ (fun e => Nat.le_trans hn (h.ok.sl i hi e)), fun j k hj hk h1 h2 h3 => ?_, fun j hj h1 => ?_, h.back, h.pos⟩
  · rw [(hsl j).1] at h1; rw [(hsl k).1] at h2; rw [(hsl j).2, (hsl k).2] at h3
    exact h.sep j k hj hk h1 h2 h3
  · show s.wh _ = _
    rw [(hsl j).2]; rw [(hsl j).1] at h1; exact h.out j hj h1
/-- Behind a line that came. -/
theorem co_lands {s r : St} (h : Co s) {i n : Nat} (hi : i < s.ns) (his : (s.sl i).is = true) (hl : Lands s r (s.sl i).line (s.sl i).write n i) (hn : n < s.n)
    (hp : firstS s (s.sl i).line ≤ n ∧ n < firstS s (s.sl i).line + s.ways)
    (hwh : ((s.pl n).is = false ∧ r.wh = upd s.wh (s.sl i).line (some n)) ∨ ((s.pl n).is = true ∧ r.wh = upd (upd s.wh (s.pl n).line none) (s.sl i).line (some n))) : Co r := by
  have hMo := h.out i hi his
  have hw1 : r.wh (s.sl i).line = some n := by rcases hwh with ⟨_, e⟩ | ⟨_, e⟩ <;> rw [e] <;> exact upd_same _ _ _
  have hw2 : ∀ L, L ≠ (s.sl i).line → s.wh L = none → r.wh L = none := fun L hL e => by
    rcases hwh with ⟨_, e1⟩ | ⟨_, e1⟩ <;> rw [e1, upd_other _ _ hL]
    · exact e
    · by_cases e2 : L = (s.pl n).line
      · rw [e2]; exact upd_same _ _ _
      · rw [upd_other _ _ e2]; exact e
  have hw3 : ∀ L m, m ≠ n → s.wh L = some m → r.wh L = some m := fun L m hm e => by
    have hL : L ≠ (s.sl i).line := fun e' => by rw [e', hMo] at e; cases e
    rcases hwh with ⟨_, e1⟩ | ⟨e0, e1⟩ <;> rw [e1, upd_other _ _ hL]
    · exact e
    · have hb := h.back n hn e0
      rw [upd_other _ _ (fun e' => by rw [e', hb] at e; cases e; exact hm rfl)]
      exact e
  refine ⟨hl.ok, ?_, ?_, ?_, ?_⟩
  · intro j k hj hk h1 h2 h3
    rw [hl.ns] at hj hk
    have e1 : j ≠ i := fun e => by rw [e, hl.sl0] at h1; cases h1
    have e2 : k ≠ i := fun e => by rw [e, hl.sl0] at h2; cases h2
    rw [hl.sl j e1] at h1 h3; rw [hl.sl k e2] at h2 h3
    exact h.sep j k hj hk h1 h2 h3
  · intro j hj h1
    rw [hl.ns] at hj
    have e1 : j ≠ i := fun e => by rw [e, hl.sl0] at h1; cases h1
    rw [hl.sl j e1] at h1 ⊢
    exact hw2 _ (fun e => e1 (h.sep j i hj hi h1 his e)) (h.out j hj h1)
  · intro m hm h1
    rw [hl.n] at hm
    by_cases e : m = n
    · rw [e, hl.pl0]; exact hw1
    · rw [hl.pl m e] at h1 ⊢; exact hw3 _ m e (h.back m hm h1)
  · intro m hm h1
    rw [hl.n] at hm
    rw [first_same hl.sets hl.ways, hl.ways]
    by_cases e : m = n
    · rw [e, hl.pl0]; exact hp
    · rw [hl.pl m e] at h1 ⊢; exact h.pos m hm h1
theorem co_tick1 {s : St} (h : Co s) {i : Nat} (hi : i < s.ns) : Co (tick1 s i).1 := by
  unfold tick1
  by_cases his : (s.sl i).is = true
  · rw [if_pos his]
    by_cases h1 : (s.sl i).left = 1
    · rw [if_pos h1]
      have hs1 := co_left h hi 0 (Nat.zero_le _)
      have hf : ∀ L, firstS (setSl s i { s.sl i with left := 0 }) L = firstS s L := fun _ => rfl
      have hfl := first_le h.ok (s.sl i).line
      unfold layS
      by_cases hc : emptyS (setSl s i { s.sl i with left := 0 }) (firstS (setSl s i { s.sl i with left := 0 }) (s.sl i).line) (setSl s i { s.sl i with left := 0 }).ways = firstS (setSl s i { s.sl i with left := 0 }) (s.sl i).line + (setSl s i { s.sl i with left := 0 }).ways
      · rw [if_pos hc]
        have g1 := gone_in (s := setSl s i { s.sl i with left := 0 }) h.ok.ways (s.sl i).line
        have g2 := empty_full _ _ _ hc _ g1.1 g1.2
        rw [hf] at g1
        generalize goneS (setSl s i { s.sl i with left := 0 }) (s.sl i).line = n at g1 g2 ⊢
        have hn : n < s.n := Nat.lt_of_lt_of_le g1.2 hfl
        have g2' : (s.pl n).is = true := g2
        exact co_lands h hi his (n := n) (r := setSl (fillS (freed (seeded (setSl s i { s.sl i with left := 0 }) (stepSeed s.seed)) (s.pl n).line) n (s.sl i).line (s.sl i).write) i ⟨0#64, false, false, 0⟩)
          ⟨rfl, rfl, rfl, ok_setSl (ok_evict (s := seeded (setSl s i { s.sl i with left := 0 }) (stepSeed s.seed)) ⟨hs1.ok.sets, hs1.ok.ways, hs1.ok.ns, hs1.ok.delay, hs1.ok.wh, hs1.ok.sl⟩ hn _ _).1 i _ (fun e => by cases e), by simp [setSl, fillS, comes, setPl, freed, seeded], fun m e => by simp [setSl, fillS, comes, setPl, freed, seeded, e], by simp [setSl], fun j e => by simp [setSl, fillS, comes, setPl, freed, seeded, e]⟩
          hn g1 (.inr ⟨g2', rfl⟩)
      · rw [if_neg hc]
        have g1 := empty_le (setSl s i { s.sl i with left := 0 }) (setSl s i { s.sl i with left := 0 }).ways (firstS (setSl s i { s.sl i with left := 0 }) (s.sl i).line)
        have g2 := empty_not _ _ _ hc
        have g3 : emptyS (setSl s i { s.sl i with left := 0 }) (firstS (setSl s i { s.sl i with left := 0 }) (s.sl i).line) (setSl s i { s.sl i with left := 0 }).ways < firstS s (s.sl i).line + s.ways := Nat.lt_of_le_of_ne g1.2 hc
        replace g1 := g1.1
        rw [hf] at g1
        rw [hf] at g2 g3
        rw [hf]
        generalize emptyS (setSl s i { s.sl i with left := 0 }) (firstS s (s.sl i).line) (setSl s i { s.sl i with left := 0 }).ways = n at g1 g2 g3 ⊢
        have hn : n < s.n := Nat.lt_of_lt_of_le g3 hfl
        have g2' : (s.pl n).is = false := g2
        exact co_lands h hi his (n := n) (r := setSl (fillS (setSl s i { s.sl i with left := 0 }) n (s.sl i).line (s.sl i).write) i ⟨0#64, false, false, 0⟩)
          ⟨rfl, rfl, rfl, ok_setSl (ok_fill hs1.ok hn _ _ (fun L' e => by
            have := (h.ok.wh L' n e).2.1
            rw [g2'] at this
            cases this)) i _ (fun e => by cases e), by simp [setSl, fillS, comes, setPl], fun m e => by simp [setSl, fillS, comes, setPl, e], by simp [setSl], fun j e => by simp [setSl, fillS, comes, setPl, e]⟩
          hn ⟨g1, g3⟩ (.inl ⟨g2', rfl⟩)
    · rw [if_neg h1]
      exact co_left h hi _ (Nat.sub_le _ _)
  · rw [if_neg his]
    exact h
theorem co_tick {s : St} (h : Co s) : ∀ k, k ≤ s.ns → Co (tickS s k).1
  | 0, _ => h
  | k + 1, hk => by
    rw [tickS]
    exact co_tick1 (co_tick h k (by omega)) (by rw [tick_ns]; omega)

/-! Finding in a set. -/
theorem findQ_some {q : Nat → Sl} {L : BitVec 64} : ∀ (k i j : Nat), findQ q L i k = some j → i ≤ j ∧ j < i + k ∧ (q j).is = true ∧ (q j).line = L
  | 0, i, j, h => by cases h
  | k + 1, i, j, h => by
    rw [findQ] at h
    split at h
    · rename_i e
      cases h
      exact ⟨Nat.le_refl _, by omega, e.1, e.2⟩
    · have := findQ_some k (i + 1) j h
      exact ⟨by omega, by omega, this.2.2⟩
theorem findQ_none {q : Nat → Sl} {L : BitVec 64} : ∀ (k i : Nat), findQ q L i k = none → ∀ j, i ≤ j → j < i + k → ¬ ((q j).is = true ∧ (q j).line = L)
  | 0, i, h, j, h1, h2 => by omega
  | k + 1, i, h, j, h1, h2 => by
    rw [findQ] at h
    split at h
    · cases h
    · rename_i e
      by_cases e1 : j = i
      · subst e1; exact e
      · exact findQ_none k (i + 1) h j (by omega) (by omega)
theorem set_n {s : St} {i j : Nat} (hi : i < s.sets) (hj : j < s.ways) : i * s.ways + j < s.n := by
  have := Nat.mul_le_mul_right s.ways (show i + 1 ≤ s.sets from hi)
  rw [Nat.add_mul] at this
  unfold St.n
  omega
theorem find_yes {s : St} (h : Co s) {L : BitVec 64} {n : Nat} (hn : s.wh L = some n) : ∃ j, j < s.ways ∧ n = (L % s.m).toNat * s.ways + j ∧ findQ (setQ s (L % s.m).toNat) L 0 s.ways = some j := by
  obtain ⟨q1, q2, q3⟩ := h.ok.wh L n hn
  have hp := h.pos n q1 q2
  rw [q3] at hp
  unfold firstS at hp
  have hi := set_lt h.ok L
  generalize (L % s.m).toNat = i at hp hi ⊢
  cases hf : findQ (setQ s i) L 0 s.ways with
  | none =>
    exfalso
    have e : i * s.ways + (n - i * s.ways) = n := by omega
    refine findQ_none _ _ hf (n - i * s.ways) (Nat.zero_le _) (by omega) ⟨?_, ?_⟩
    · show (s.pl (i * s.ways + (n - i * s.ways))).is = true
      rw [e]; exact q2
    · show (s.pl (i * s.ways + (n - i * s.ways))).line = L
      rw [e]; exact q3
  | some j =>
    obtain ⟨-, r1, r2, r3⟩ := findQ_some _ _ _ hf
    have hj : j < s.ways := by omega
    have hb := h.back (i * s.ways + j) (set_n hi hj) r2
    have r3' : (s.pl (i * s.ways + j)).line = L := r3
    rw [r3', hn] at hb
    cases hb
    exact ⟨j, hj, rfl, rfl⟩
theorem find_no {s : St} (h : Co s) {L : BitVec 64} (hn : s.wh L = none) : findQ (setQ s (L % s.m).toNat) L 0 s.ways = none := by
  have hi := set_lt h.ok L
  generalize (L % s.m).toNat = i at hi ⊢
  cases hf : findQ (setQ s i) L 0 s.ways with
  | none => rfl
  | some j =>
    exfalso
    obtain ⟨-, r1, r2, r3⟩ := findQ_some _ _ _ hf
    have hj : j < s.ways := by omega
    have hb := h.back (i * s.ways + j) (set_n hi hj) r2
    have r3' : (s.pl (i * s.ways + j)).line = L := r3
    rw [r3', hn] at hb
    cases hb
theorem free_empty (s : St) (i : Nat) : ∀ k j, (freeQ (setQ s i) j k = none ∧ emptyS s (i * s.ways + j) k = i * s.ways + j + k) ∨ (∃ m, j ≤ m ∧ m < j + k ∧ freeQ (setQ s i) j k = some m ∧ emptyS s (i * s.ways + j) k = i * s.ways + m ∧ (s.pl (i * s.ways + m)).is = false)
  | 0, j => .inl ⟨rfl, rfl⟩
  | k + 1, j => by
    rw [freeQ, emptyS]
    cases e : (s.pl (i * s.ways + j)).is with
    | false =>
      have e' : (setQ s i j).is = false := e
      rw [if_pos e', if_neg (by decide)]
      exact .inr ⟨j, Nat.le_refl _, by omega, rfl, rfl, e⟩
    | true =>
      have e' : ¬ (setQ s i j).is = false := fun h => by
        have : (setQ s i j).is = true := e
        rw [this] at h; cases h
      rw [if_neg e', if_pos rfl]
      rcases free_empty s i k (j + 1) with ⟨h1, h2⟩ | ⟨m, h1, h2, h3, h4, h5⟩
      · exact .inl ⟨h1, by rw [show i * s.ways + j + 1 = i * s.ways + (j + 1) by omega, h2]; omega⟩
      · exact .inr ⟨m, by omega, by omega, h3, by rw [show i * s.ways + j + 1 = i * s.ways + (j + 1) by omega, h4], h5⟩
end Go.Proofs.Ytpflodhnniochaa
