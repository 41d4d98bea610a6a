/-
  Plain laws for CacheOnce: a tick; how many.
-/
import Derived.Test.YtpflodhnniochaaOnceB
namespace Go.Proofs.Ytpflodhnniochaa
set_option linter.unusedVariables false
open Go.RowKit Go.Maps

abbrev TP := (BitVec 64 → Nat) × (BitVec 64 → Nat)
/-- What the law does to its maps at a line that came. -/
def doD (q : TP) (d : Dn) : TP := (updN (if d.out = 0#64 then q.1 else updN q.1 d.out 0) d.at_ (q.2 d.at_), updN q.2 d.at_ 0)
/-- What the law asks of it. -/
structure OkD (m : BitVec 64) (q : TP) (d : Dn) : Prop where
  p : q.2 d.at_ ≠ 0
  p2 : q.2 d.at_ ≤ 2
  t : q.1 d.at_ = 0
  out : d.out ≠ 0#64 → q.1 d.out ≠ 0 ∧ d.written = decide (q.1 d.out = 2) ∧ (d.out / 64#64) % m = (d.at_ / 64#64) % m
  none_ : d.out = 0#64 → d.written = false
def run (q : TP) (ds : List Dn) : TP := ds.foldl doD q
theorem run_snoc (q : TP) (ds : List Dn) (d : Dn) : run q (ds ++ [d]) = doD (run q ds) d := by unfold run; rw [List.foldl_append]; rfl
def OkAll (m : BitVec 64) (q : TP) (ds : List Dn) : Prop := ∀ k d, ds[k]? = some d → OkD m (run q (ds.take k)) d
theorem okAll_nil (m : BitVec 64) (q : TP) : OkAll m q [] := fun k d h => by simp at h
theorem okAll_snoc {m : BitVec 64} {q : TP} {ds : List Dn} {d : Dn} (h : OkAll m q ds) (hd : OkD m (run q ds) d) : OkAll m q (ds ++ [d]) := by
  intro k e he
  rcases Nat.lt_trichotomy k ds.length with hk | hk | hk
  · rw [List.getElem?_append_left hk] at he
    rw [List.take_append_of_le_length (by omega)]
    exact h k e he
  · subst hk
    rw [List.getElem?_append_right (Nat.le_refl _)] at he
    simp at he
    subst he
    rw [List.take_append_of_le_length (Nat.le_refl _), List.take_length]
    exact hd
  · rw [List.getElem?_eq_none (by simp; omega)] at he
    cases he
theorem law_left {s : St} {T P : BitVec 64 → Nat} (h : Law s T P) {i : Nat} (hi : i < s.ns) (n : Nat) (hn : n ≤ (s.sl i).left) : Law (setSl s i { s.sl i with left := n }) T P := by
  have hsl : ∀ m, ((setSl s i { s.sl i with left := n }).sl m).is = (s.sl m).is ∧ ((setSl s i { s.sl i with left := n }).sl m).line = (s.sl m).line ∧ ((setSl s i { s.sl i with left := n }).sl m).write = (s.sl m).write := fun m => by
    by_cases e : m = i
    · subst e; simp [setSl]
    · simp [setSl, e]
  refine ⟨⟨ok_setSl h.con.ok i _ (fun e => Nat.le_trans hn (h.con.ok.sl i hi e)), fun j k hj hk h1 h2 h3 => ?_, fun j hj h1 => ?_, h.con.back, fun j hj h1 => ?_, h.con.topP, h.con.pos⟩, h.tA, h.tB, fun A hA => ?_, fun j hj h1 => ?_⟩
  · rw [(hsl j).1] at h1; rw [(hsl k).1] at h2; rw [(hsl j).2.1, (hsl k).2.1] at h3
    exact h.con.sep j k hj hk h1 h2 h3
  · rw [(hsl j).2.1]; rw [(hsl j).1] at h1; exact h.con.out j hj h1
  · rw [(hsl j).2.1]; rw [(hsl j).1] at h1; exact h.con.topS j hj h1
  · obtain ⟨j, q1, q2, q3⟩ := h.pA A hA
    exact ⟨j, q1, by rw [(hsl j).1]; exact q2, by rw [(hsl j).2.1]; exact q3⟩
  · rw [(hsl j).2.1, (hsl j).2.2]; rw [(hsl j).1] at h1; exact h.pB j hj h1
/-- The state behind a line that came: where it lies, who went. -/
structure Lands (s r : St) (M : BitVec 64) (wr : Bool) (n : Nat) (i : Nat) : Prop where
  sets : r.sets = s.sets
  ways : r.ways = s.ways
  ns : r.ns = s.ns
  ok : Ok r
  pl0 : r.pl n = ⟨M, true, wr⟩
  pl : ∀ m, m ≠ n → r.pl m = s.pl m
  sl0 : r.sl i = ⟨0#64, false, false, 0⟩
  sl : ∀ j, j ≠ i → r.sl j = s.sl j
theorem Lands.n {s r : St} {M : BitVec 64} {wr : Bool} {n i : Nat} (h : Lands s r M wr n i) : r.n = s.n := by unfold St.n; rw [h.sets, h.ways]
/-- Nobody goes. -/
theorem law_free {s r : St} {T P : BitVec 64 → Nat} (h : Law s T P) {i n : Nat} (hi : i < s.ns) (his : (s.sl i).is = true) (hl : Lands s r (s.sl i).line (s.sl i).write n i) (hn : n < s.n)
    (hp : firstS s (s.sl i).line ≤ n ∧ n < firstS s (s.sl i).line + s.ways) (hf : (s.pl n).is = false) (hwh : r.wh = upd s.wh (s.sl i).line (some n)) :
    OkD s.m (T, P) ⟨(s.sl i).line <<< 6, 0#64, false⟩ ∧ Law r (doD (T, P) ⟨(s.sl i).line <<< 6, 0#64, false⟩).1 (doD (T, P) ⟨(s.sl i).line <<< 6, 0#64, false⟩).2 := by
  have hM := h.con.topS i hi his
  have hMo := h.con.out i hi his
  have hPM := h.pB i hi his
  refine ⟨⟨by show P _ ≠ 0; rw [hPM]; exact vb_ne _, by show P _ ≤ 2; rw [hPM]; exact vb_le _, h.t0 hM hMo, fun e => absurd rfl e, fun _ => rfl⟩, ⟨hl.ok, ?_, ?_, ?_, ?_, ?_, ?_⟩, ?_, ?_, ?_, ?_⟩
  · intro j k hj hk h1 h2 h3
    rw [hl.ns] at hj hk
    have e1 : j ≠ i := fun e => by rw [e, hl.sl0] at h1; cases h1
    have e2 : k ≠ i := fun e => by rw [e, hl.sl0] at h2; cases h2
    rw [hl.sl j e1] at h1 h3; rw [hl.sl k e2] at h2 h3
    exact h.con.sep j k hj hk h1 h2 h3
  · intro j hj h1
    rw [hl.ns] at hj
    have e1 : j ≠ i := fun e => by rw [e, hl.sl0] at h1; cases h1
    rw [hl.sl j e1] at h1 ⊢
    rw [hwh, upd_other _ _ (fun e => e1 (h.con.sep j i hj hi h1 his e))]
    exact h.con.out j hj h1
  · intro m hm h1
    rw [hl.n] at hm
    by_cases e : m = n
    · rw [e, hl.pl0, hwh]; exact upd_same _ _ _
    · rw [hl.pl m e] at h1 ⊢
      have hb := h.con.back m hm h1
      rw [hwh, upd_other _ _ (fun e' => by rw [e', hMo] at hb; cases hb)]
      exact hb
  · intro j hj h1
    rw [hl.ns] at hj
    have e1 : j ≠ i := fun e => by rw [e, hl.sl0] at h1; cases h1
    rw [hl.sl j e1] at h1 ⊢
    exact h.con.topS j hj h1
  · intro m hm h1
    rw [hl.n] at hm
    by_cases e : m = n
    · rw [e, hl.pl0]; exact hM
    · rw [hl.pl m e] at h1 ⊢; exact h.con.topP m hm h1
  · intro m hm h1
    rw [hl.n] at hm
    rw [first_same hl.sets hl.ways, hl.ways]
    by_cases e : m = n
    · rw [e, hl.pl0]; exact hp
    · rw [hl.pl m e] at h1 ⊢; exact h.con.pos m hm h1
  · intro A hA
    simp only [doD, if_true] at hA
    by_cases e : A = (s.sl i).line <<< 6
    · exact ⟨(s.sl i).line, n, e, by rw [hwh]; exact upd_same _ _ _⟩
    · rw [updN_other _ _ e] at hA
      obtain ⟨L, m, q1, q2⟩ := h.tA A hA
      exact ⟨L, m, q1, by rw [hwh, upd_other _ _ (fun e' => e (by rw [q1, e']))]; exact q2⟩
  · intro L m hm
    simp only [doD, if_true]
    rw [hwh] at hm
    by_cases e : L = (s.sl i).line
    · rw [e, upd_same] at hm
      cases hm
      rw [e, updN_same, hPM, hl.pl0]
    · rw [upd_other _ _ e] at hm
      have hmn : m ≠ n := fun e' => by
        obtain ⟨-, q2, -⟩ := h.con.ok.wh L m hm
        rw [e', hf] at q2
        cases q2
      rw [updN_other _ _ (fun e' => e (top_inj (h.con.top hm) hM e')), h.tB L m hm, hl.pl m hmn]
  · intro A hA
    simp only [doD] at hA
    have e : A ≠ (s.sl i).line <<< 6 := fun e => by rw [e, updN_same] at hA; exact hA rfl
    rw [updN_other _ _ e] at hA
    obtain ⟨j, q1, q2, q3⟩ := h.pA A hA
    have hne : j ≠ i := fun e' => e (by rw [q3, e'])
    exact ⟨j, by rw [hl.ns]; exact q1, by rw [hl.sl j hne]; exact q2, by rw [hl.sl j hne]; exact q3⟩
  · intro j hj h1
    rw [hl.ns] at hj
    have e1 : j ≠ i := fun e => by rw [e, hl.sl0] at h1; cases h1
    simp only [doD]
    rw [hl.sl j e1] at h1 ⊢
    rw [updN_other _ _ (fun e' => e1 (h.con.sep j i hj hi h1 his (top_inj (h.con.topS j hj h1) hM e'))), h.pB j hj h1]
/-- Someone goes. -/
theorem law_gone {s r : St} {T P : BitVec 64 → Nat} (h : Law s T P) {i n : Nat} (hi : i < s.ns) (his : (s.sl i).is = true) (hl : Lands s r (s.sl i).line (s.sl i).write n i) (hn : n < s.n)
    (hp : firstS s (s.sl i).line ≤ n ∧ n < firstS s (s.sl i).line + s.ways) (hf : (s.pl n).is = true) (hwh : r.wh = upd (upd s.wh (s.pl n).line none) (s.sl i).line (some n)) :
    OkD s.m (T, P) ⟨(s.sl i).line <<< 6, (s.pl n).line <<< 6, (s.pl n).written⟩ ∧ Law r (doD (T, P) ⟨(s.sl i).line <<< 6, (s.pl n).line <<< 6, (s.pl n).written⟩).1 (doD (T, P) ⟨(s.sl i).line <<< 6, (s.pl n).line <<< 6, (s.pl n).written⟩).2 := by
  have hM := h.con.topS i hi his
  have hMo := h.con.out i hi his
  have hPM := h.pB i hi his
  have hK := h.con.topP n hn hf
  have hKb := h.con.back n hn hf
  have hTK := h.tB _ _ hKb
  have hKM : (s.pl n).line ≠ (s.sl i).line := fun e => by rw [e, hMo] at hKb; cases hKb
  have hK0 := top_ne hK
  have hset : (s.pl n).line % s.m = (s.sl i).line % s.m := by
    have hpos := h.con.pos n hn hf
    unfold firstS at hpos hp
    have hw := h.con.ok.ways.1
    apply BitVec.eq_of_toNat_eq
    generalize ((s.pl n).line % s.m).toNat = a at hpos ⊢
    generalize ((s.sl i).line % s.m).toNat = b at hp ⊢
    generalize s.ways = w at *
    rcases Nat.lt_trichotomy a b with q | q | q
    · have := Nat.mul_le_mul_right w (show a + 1 ≤ b from q)
      rw [Nat.add_mul] at this
      omega
    · exact q
    · have := Nat.mul_le_mul_right w (show b + 1 ≤ a from q)
      rw [Nat.add_mul] at this
      omega
  refine ⟨⟨by show P _ ≠ 0; rw [hPM]; exact vb_ne _, by show P _ ≤ 2; rw [hPM]; exact vb_le _, h.t0 hM hMo, fun _ => ⟨by show T _ ≠ 0; rw [hTK]; exact vb_ne _, by show _ = decide (T _ = 2); rw [hTK, vb_two], ?_⟩, fun e => absurd e hK0⟩, ⟨hl.ok, ?_, ?_, ?_, ?_, ?_, ?_⟩, ?_, ?_, ?_, ?_⟩
  · show ((s.pl n).line <<< 6) / 64#64 % s.m = ((s.sl i).line <<< 6) / 64#64 % s.m
    rw [top_back hK, top_back hM, hset]
  · intro j k hj hk h1 h2 h3
    rw [hl.ns] at hj hk
    have e1 : j ≠ i := fun e => by rw [e, hl.sl0] at h1; cases h1
    have e2 : k ≠ i := fun e => by rw [e, hl.sl0] at h2; cases h2
    rw [hl.sl j e1] at h1 h3; rw [hl.sl k e2] at h2 h3
    exact h.con.sep j k hj hk h1 h2 h3
  · intro j hj h1
    rw [hl.ns] at hj
    have e1 : j ≠ i := fun e => by rw [e, hl.sl0] at h1; cases h1
    rw [hl.sl j e1] at h1 ⊢
    rw [hwh, upd_other _ _ (fun e => e1 (h.con.sep j i hj hi h1 his e))]
    by_cases e : (s.sl j).line = (s.pl n).line
    · rw [e, upd_same]
    · rw [upd_other _ _ e]; exact h.con.out j hj h1
  · intro m hm h1
    rw [hl.n] at hm
    by_cases e : m = n
    · rw [e, hl.pl0, hwh]; exact upd_same _ _ _
    · rw [hl.pl m e] at h1 ⊢
      have hb := h.con.back m hm h1
      rw [hwh, upd_other _ _ (fun e' => by rw [e', hMo] at hb; cases hb), upd_other _ _ (fun e' => by rw [e', hKb] at hb; cases hb; exact e rfl)]
      exact hb
  · intro j hj h1
    rw [hl.ns] at hj
    have e1 : j ≠ i := fun e => by rw [e, hl.sl0] at h1; cases h1
    rw [hl.sl j e1] at h1 ⊢
    exact h.con.topS j hj h1
  · intro m hm h1
    rw [hl.n] at hm
    by_cases e : m = n
    · rw [e, hl.pl0]; exact hM
    · rw [hl.pl m e] at h1 ⊢; exact h.con.topP m hm h1
  · intro m hm h1
    rw [hl.n] at hm
    rw [first_same hl.sets hl.ways, hl.ways]
    by_cases e : m = n
    · rw [e, hl.pl0]; exact hp
    · rw [hl.pl m e] at h1 ⊢; exact h.con.pos m hm h1
  · intro A hA
    simp only [doD, if_neg hK0] at hA
    by_cases e : A = (s.sl i).line <<< 6
    · exact ⟨(s.sl i).line, n, e, by rw [hwh]; exact upd_same _ _ _⟩
    · rw [updN_other _ _ e] at hA
      have e2 : A ≠ (s.pl n).line <<< 6 := fun e2 => by rw [e2, updN_same] at hA; exact hA rfl
      rw [updN_other _ _ e2] at hA
      obtain ⟨L, m, q1, q2⟩ := h.tA A hA
      exact ⟨L, m, q1, by rw [hwh, upd_other _ _ (fun e' => e (by rw [q1, e'])), upd_other _ _ (fun e' => e2 (by rw [q1, e']))]; exact q2⟩
  · intro L m hm
    simp only [doD, if_neg hK0]
    rw [hwh] at hm
    by_cases e : L = (s.sl i).line
    · rw [e, upd_same] at hm
      cases hm
      rw [e, updN_same, hPM, hl.pl0]
    · rw [upd_other _ _ e] at hm
      by_cases e2 : L = (s.pl n).line
      · rw [e2, upd_same] at hm; cases hm
      · rw [upd_other _ _ e2] at hm
        have hmn : m ≠ n := fun e' => by
          obtain ⟨-, -, q3⟩ := h.con.ok.wh L m hm
          rw [e'] at q3
          exact e2 q3.symm
        rw [updN_other _ _ (fun e' => e (top_inj (h.con.top hm) hM e')), updN_other _ _ (fun e' => e2 (top_inj (h.con.top hm) hK e')), h.tB L m hm, hl.pl m hmn]
  · intro A hA
    simp only [doD] at hA
    have e : A ≠ (s.sl i).line <<< 6 := fun e => by rw [e, updN_same] at hA; exact hA rfl
    rw [updN_other _ _ e] at hA
    obtain ⟨j, q1, q2, q3⟩ := h.pA A hA
    have hne : j ≠ i := fun e' => e (by rw [q3, e'])
    exact ⟨j, by rw [hl.ns]; exact q1, by rw [hl.sl j hne]; exact q2, by rw [hl.sl j hne]; exact q3⟩
  · intro j hj h1
    rw [hl.ns] at hj
    have e1 : j ≠ i := fun e => by rw [e, hl.sl0] at h1; cases h1
    simp only [doD]
    rw [hl.sl j e1] at h1 ⊢
    rw [updN_other _ _ (fun e' => e1 (h.con.sep j i hj hi h1 his (top_inj (h.con.topS j hj h1) hM e'))), h.pB j hj h1]
theorem law_tick1 {s : St} {T P : BitVec 64 → Nat} (h : Law s T P) {i : Nat} (hi : i < s.ns) : (tick1 s i).1.sets = s.sets ∧ OkAll s.m (T, P) (tick1 s i).2 ∧ Law (tick1 s i).1 (run (T, P) (tick1 s i).2).1 (run (T, P) (tick1 s i).2).2 := by
  unfold tick1
  by_cases his : (s.sl i).is = true
  · rw [if_pos his]
    by_cases h1 : (s.sl i).left = 1
    · rw [if_pos h1]
      have hs1 := law_left h hi 0 (Nat.zero_le _)
      have hns : (setSl s i { s.sl i with left := 0 }).n = s.n := rfl
      have hf : ∀ L, firstS (setSl s i { s.sl i with left := 0 }) L = firstS s L := fun _ => rfl
      have hfl := first_le h.con.ok (s.sl i).line
      unfold layS
      by_cases hc : emptyS (setSl s i { s.sl i with left := 0 }) (firstS (setSl s i { s.sl i with left := 0 }) (s.sl i).line) (setSl s i { s.sl i with left := 0 }).ways = firstS (setSl s i { s.sl i with left := 0 }) (s.sl i).line + (setSl s i { s.sl i with left := 0 }).ways
      · rw [if_pos hc]
        have g1 := gone_in (s := setSl s i { s.sl i with left := 0 }) h.con.ok.ways (s.sl i).line
        have g2 := empty_full _ _ _ hc _ g1.1 g1.2
        rw [hf] at g1
        generalize goneS (setSl s i { s.sl i with left := 0 }) (s.sl i).line = n at g1 g2 ⊢
        have hn : n < s.n := Nat.lt_of_lt_of_le g1.2 hfl
        have g2' : (s.pl n).is = true := g2
        have hg := law_gone h hi his (n := n) (r := setSl (fillS (freed (seeded (setSl s i { s.sl i with left := 0 }) (stepSeed s.seed)) (s.pl n).line) n (s.sl i).line (s.sl i).write) i ⟨0#64, false, false, 0⟩)
          ⟨rfl, rfl, rfl, ok_setSl (ok_evict (s := seeded (setSl s i { s.sl i with left := 0 }) (stepSeed s.seed)) ⟨hs1.con.ok.sets, hs1.con.ok.ways, hs1.con.ok.ns, hs1.con.ok.delay, hs1.con.ok.wh, hs1.con.ok.sl⟩ hn _ _).1 i _ (fun e => by cases e), by simp [setSl, fillS, comes, setPl, freed, seeded], fun m e => by simp [setSl, fillS, comes, setPl, freed, seeded, e], by simp [setSl], fun j e => by simp [setSl, fillS, comes, setPl, freed, seeded, e]⟩
          hn g1 g2' rfl
        exact ⟨rfl, fun k d hd => by
          cases k with
          | zero => simp at hd; subst hd; exact hg.1
          | succ k => simp at hd, hg.2⟩
      · rw [if_neg hc]
        have g1 := empty_le (setSl s i { s.sl i with left := 0 }) (setSl s i { s.sl i with left := 0 }).ways (firstS (setSl s i { s.sl i with left := 0 }) (s.sl i).line)
        have g2 := empty_not _ _ _ hc
        have g3 : emptyS (setSl s i { s.sl i with left := 0 }) (firstS (setSl s i { s.sl i with left := 0 }) (s.sl i).line) (setSl s i { s.sl i with left := 0 }).ways < firstS s (s.sl i).line + s.ways := Nat.lt_of_le_of_ne g1.2 hc
        replace g1 := g1.1
        rw [hf] at g1
        rw [hf] at g2 g3
        rw [hf]
        generalize emptyS (setSl s i { s.sl i with left := 0 }) (firstS s (s.sl i).line) (setSl s i { s.sl i with left := 0 }).ways = n at g1 g2 g3 ⊢
        have hn : n < s.n := Nat.lt_of_lt_of_le g3 hfl
        have g2' : (s.pl n).is = false := g2
        have hg := law_free h hi his (n := n) (r := setSl (fillS (setSl s i { s.sl i with left := 0 }) n (s.sl i).line (s.sl i).write) i ⟨0#64, false, false, 0⟩)
          ⟨rfl, rfl, rfl, ok_setSl (ok_fill hs1.con.ok hn _ _ (fun L' e => by
            have := (h.con.ok.wh L' n e).2.1
            rw [g2'] at this
            cases this)) i _ (fun e => by cases e), by simp [setSl, fillS, comes, setPl], fun m e => by simp [setSl, fillS, comes, setPl, e], by simp [setSl], fun j e => by simp [setSl, fillS, comes, setPl, e]⟩
          hn ⟨g1, g3⟩ g2' rfl
        exact ⟨rfl, fun k d hd => by
          cases k with
          | zero => simp at hd; subst hd; exact hg.1
          | succ k => simp at hd, hg.2⟩
    · rw [if_neg h1]
      exact ⟨rfl, okAll_nil _ _, law_left h hi _ (Nat.sub_le _ _)⟩
  · rw [if_neg his]
    exact ⟨rfl, okAll_nil _ _, h⟩
theorem okAll_append {m : BitVec 64} {q : TP} {ds es : List Dn} (h : OkAll m q ds) (h' : OkAll m (run q ds) es) : OkAll m q (ds ++ es) := by
  intro k e he
  by_cases hk : k < ds.length
  · rw [List.getElem?_append_left hk] at he
    rw [List.take_append_of_le_length (by omega)]
    exact h k e he
  · rw [List.getElem?_append_right (by omega)] at he
    have := h' _ e he
    have e1 : (ds ++ es).take k = ds ++ es.take (k - ds.length) := by rw [List.take_append, List.take_of_length_le (by omega)]
    rw [e1]
    unfold run at this ⊢
    rw [List.foldl_append]
    exact this
theorem law_tick {s : St} {T P : BitVec 64 → Nat} (h : Law s T P) : ∀ k, k ≤ s.ns → (tickS s k).1.sets = s.sets ∧ OkAll s.m (T, P) (tickS s k).2 ∧ Law (tickS s k).1 (run (T, P) (tickS s k).2).1 (run (T, P) (tickS s k).2).2
  | 0, _ => ⟨rfl, okAll_nil _ _, h⟩
  | k + 1, hk => by
    obtain ⟨i1, i2, i3⟩ := law_tick h k (by omega)
    obtain ⟨j1, j2, j3⟩ := law_tick1 i3 (i := k) (by rw [tick_ns]; omega)
    rw [tickS]
    have hm : (tickS s k).1.m = s.m := by unfold St.m; rw [i1]
    rw [hm] at j2
    refine ⟨j1.trans i1, okAll_append i2 j2, ?_⟩
    have e : run (T, P) ((tickS s k).2 ++ (tick1 (tickS s k).1 k).2) = run (run (T, P) (tickS s k).2) (tick1 (tickS s k).1 k).2 := by unfold run; rw [List.foldl_append]
    rw [e]
    exact j3
/-! How many. -/
theorem law_few {s : St} {T P : BitVec 64 → Nat} (h : Law s T P) : Few T s.n := by
  intro ka hn hk
  have hex : ∀ A ∈ ka, ∃ n, n < s.n ∧ ∃ L : BitVec 64, A = L <<< 6 ∧ s.wh L = some n := fun A hA => by
    obtain ⟨L, n, q1, q2⟩ := h.tA A (hk A hA)
    exact ⟨n, (h.con.ok.wh L n q2).1, L, q1, q2⟩
  have key : ∀ l : List (BitVec 64), l.Nodup → (∀ A ∈ l, ∃ n, n < s.n ∧ ∃ L : BitVec 64, A = L <<< 6 ∧ s.wh L = some n) →
      ∃ ns : List Nat, ns.length = l.length ∧ ns.Pairwise (· ≠ ·) ∧ (∀ x ∈ ns, x < s.n) ∧ ∀ x ∈ ns, ∃ A ∈ l, ∃ L : BitVec 64, A = L <<< 6 ∧ s.wh L = some x := by
    intro l
    induction l with
    | nil => intro _ _; exact ⟨[], rfl, List.Pairwise.nil, by simp, by simp⟩
    | cons A r ih =>
      intro hd hx
      obtain ⟨d1, d2⟩ := List.nodup_cons.1 hd
      obtain ⟨ns, e1, e2, e3, e4⟩ := ih d2 (fun B hB => hx B (by simp [hB]))
      obtain ⟨n, hn, L, hL, hw⟩ := hx A (by simp)
      refine ⟨n :: ns, by simp [e1], List.pairwise_cons.2 ⟨fun x hxn e => ?_, e2⟩, fun x hxn => ?_, fun x hxn => ?_⟩
      · subst e
        obtain ⟨B, hB, L', hL', hw'⟩ := e4 n hxn
        have : L = L' := (h.con.ok.wh L n hw).2.2.symm.trans (h.con.ok.wh L' n hw').2.2
        exact d1 (by rw [hL, this, ← hL']; exact hB)
      · rcases List.mem_cons.1 hxn with rfl | hxn
        · exact hn
        · exact e3 x hxn
      · rcases List.mem_cons.1 hxn with rfl | hxn
        · exact ⟨A, by simp, L, hL, hw⟩
        · obtain ⟨B, hB, r4⟩ := e4 x hxn
          exact ⟨B, by simp [hB], r4⟩
  obtain ⟨ns, e1, e2, e3, -⟩ := key ka hn hex
  rw [← e1]
  exact pigeon s.n ns e2 e3
def usedA (s : St) : Nat → List (BitVec 64)
  | 0 => []
  | k + 1 => (if (s.sl k).is then [(s.sl k).line <<< 6] else []) ++ usedA s k
theorem used_length (s : St) : ∀ k, (usedA s k).length = underS s k
  | 0 => rfl
  | k + 1 => by
    rw [usedA, underS, List.length_append, used_length s k]
    split <;> simp <;> omega
theorem used_mem (s : St) (A : BitVec 64) : ∀ k, A ∈ usedA s k ↔ ∃ i, i < k ∧ (s.sl i).is = true ∧ A = (s.sl i).line <<< 6
  | 0 => by simp [usedA]
  | k + 1 => by
    rw [usedA, List.mem_append, used_mem s A k]
    constructor
    · rintro (h | ⟨i, h1, h2⟩)
      · split at h
        · rename_i e
          exact ⟨k, by omega, e, by simpa using h⟩
        · simp at h
      · exact ⟨i, by omega, h2⟩
    · rintro ⟨i, h1, h2, h3⟩
      by_cases e : i = k
      · left
        subst e
        rw [if_pos h2]
        simpa using h3
      · exact .inr ⟨i, by omega, h2, h3⟩
theorem used_nodup {s : St} (h : Con s) : ∀ k, k ≤ s.ns → (usedA s k).Nodup
  | 0, _ => List.Pairwise.nil
  | k + 1, hk => by
    rw [usedA]
    split
    · rename_i e
      refine List.nodup_cons.2 ⟨fun hm => ?_, used_nodup h k (by omega)⟩
      obtain ⟨i, q1, q2, q3⟩ := (used_mem s _ k).1 hm
      have := h.sep k i (by omega) (by omega) e q2 (top_inj (h.topS k (by omega) e) (h.topS i (by omega) q2) q3)
      omega
    · exact used_nodup h k (by omega)
theorem law_num {s : St} {T P : BitVec 64 → Nat} (h : Law s T P) : Num P (underS s s.ns) := by
  refine ⟨usedA s s.ns, used_nodup h.con _ (Nat.le_refl _), fun A => ?_, used_length s _⟩
  rw [used_mem]
  exact ⟨fun ⟨i, q1, q2, q3⟩ => by rw [q3, h.pB i q1 q2]; exact vb_ne _, fun hA => h.pA A hA⟩
theorem few_run {q : TP} {N : Nat} (h : Few q.1 N) : ∀ (ds : List Dn), Few (run q ds).1 (N + ds.length) := by
  intro ds
  induction ds generalizing q N with
  | nil => exact h
  | cons d r ih =>
    have h1 : Few (doD q d).1 (N + 1) := by
      unfold doD
      simp only []
      split
      · exact h.upd _ _
      · exact (h.del _).upd _ _
    have := ih h1
    rw [List.length_cons, show N + (r.length + 1) = N + 1 + r.length by omega]
    exact this
end Go.Proofs.Ytpflodhnniochaa
