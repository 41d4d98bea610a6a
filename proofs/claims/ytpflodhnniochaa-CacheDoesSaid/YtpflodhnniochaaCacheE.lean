/-
  Walk: lay.
-/
import Derived.Test.YtpflodhnniochaaCacheD
namespace Go.Proofs.Ytpflodhnniochaa
set_option linter.unusedVariables false
open Go.RowKit Go.Maps

structure Dn where
  at_ : BitVec 64
  out : BitVec 64
  written : Bool
def dnV (d : Dn) : Array Value := #[.int .u64 (U d.at_), .int .u64 (U d.out), .bool d.written]
/-- The first place from n on that is empty. -/
def emptyS (s : St) : Nat → Nat → Nat
  | n, 0 => n
  | n, k + 1 => if (s.pl n).is then emptyS s (n + 1) k else n
def firstS (s : St) (L : BitVec 64) : Nat := (L % s.m).toNat * s.ways
/-- The next seed; nothing unfolds it. -/
noncomputable def stepSeed (x : BitVec 64) : BitVec 64 := Classical.choose (⟨_, rfl⟩ : ∃ y, y = 6364136223846793005#64 * x + 1442695040888963407#64)
theorem stepSeed_eq (x : BitVec 64) : stepSeed x = 6364136223846793005#64 * x + 1442695040888963407#64 := Classical.choose_spec (⟨_, rfl⟩ : ∃ y, y = 6364136223846793005#64 * x + 1442695040888963407#64)
/-- A place is filled. -/
def comes (s : St) (L : BitVec 64) (n : Nat) : St := { s with wh := upd s.wh L (some n) }
def fillS (s : St) (n : Nat) (L : BitVec 64) (wr : Bool) : St := comes (setPl s n ⟨L, true, wr⟩) L n
/-- The place that is cleared for a line. -/
noncomputable def goneS (s : St) (L : BitVec 64) : Nat := firstS s L + ((stepSeed s.seed >>> 32) % BitVec.ofNat 64 s.ways).toNat
def seeded (s : St) (x : BitVec 64) : St := { s with seed := x }
def freed (s : St) (L : BitVec 64) : St := { s with wh := upd s.wh L none }
noncomputable def layS (s : St) (L : BitVec 64) (wr : Bool) : St × Dn :=
  if emptyS s (firstS s L) s.ways = firstS s L + s.ways then
    (fillS (freed (seeded s (stepSeed s.seed)) (s.pl (goneS s L)).line) (goneS s L) L wr, ⟨L <<< 6, (s.pl (goneS s L)).line <<< 6, (s.pl (goneS s L)).written⟩)
  else (fillS s (emptyS s (firstS s L) s.ways) L wr, ⟨L <<< 6, 0#64, false⟩)
theorem m_toNat {s : St} (h : Ok s) : s.m.toNat = s.sets := by
  have := h.sets_le
  unfold St.m
  rw [BitVec.toNat_ofNat, Nat.mod_eq_of_lt (by omega)]
theorem rem_lt {s : St} (h : Ok s) (L : BitVec 64) : (L % s.m).toNat < s.sets := by
  have := h.sets_le
  rw [BitVec.toNat_umod, m_toNat h]
  exact Nat.mod_lt _ (by omega)
theorem first_le {s : St} (h : Ok s) (L : BitVec 64) : firstS s L + s.ways ≤ s.n := by
  have h1 := rem_lt h L
  have h2 := Nat.mul_le_mul_right s.ways (show (L % s.m).toNat + 1 ≤ s.sets from h1)
  rw [Nat.add_mul] at h2
  unfold firstS St.n
  omega
theorem empty_le (s : St) : ∀ (k n : Nat), n ≤ emptyS s n k ∧ emptyS s n k ≤ n + k
  | 0, n => ⟨Nat.le_refl _, Nat.le_refl _⟩
  | k + 1, n => by
    have := empty_le s k (n + 1)
    rw [emptyS]
    split <;> omega
theorem empty_not (s : St) : ∀ (k n : Nat), emptyS s n k ≠ n + k → (s.pl (emptyS s n k)).is = false
  | 0, n, h => absurd rfl h
  | k + 1, n, h => by
    rw [emptyS] at h ⊢
    split
    · rename_i e
      rw [if_pos e] at h
      exact empty_not s k (n + 1) (by omega)
    · rename_i e
      simpa using e

theorem first_val {s : St} (h : Ok s) (L : BitVec 64) : wrap64 (S (L % BitVec.ofNat 64 s.sets) * (s.ways : Int)) = ((firstS s L : Nat) : Int) := by
  have h1 := rem_lt h L
  have h2 := first_le h L
  have h3 := h.n_le
  have h4 := h.sets_le
  have e : S (L % BitVec.ofNat 64 s.sets) = (((L % s.m).toNat : Nat) : Int) := by
    unfold S
    rw [BitVec.toInt_eq_toNat_of_lt (by show 2 * (L % s.m).toNat < _; omega)]
    rfl
  rw [e, ← Int.natCast_mul]
  show wrap64 ((firstS s L : Nat) : Int) = _
  unfold wrap64
  omega

/-- What holds where a region ends; no panic, no leap. -/
def AtEnd (R : Act → World → Prop) : Exit → Act → World → Prop
  | .normal, a, w => R a w
  | _, _, _ => False
theorem atEnd_imp {R : Act → World → Prop} {Q : Exit → Act → World → Prop} (h : ∀ a w, R a w → Q .normal a w) : ∀ e a w, AtEnd R e a w → Q e a w := fun e a w k => by
  cases e <;> first | exact h a w k | exact False.elim k
theorem wrap_small {f k n : Nat} (h : f + k ≤ n) (hn : n ≤ 512) : wrap64 ((f : Int) + (k : Int)) = (f : Int) + (k : Int) := by
  unfold wrap64; omega
theorem wrap_small2 {f n : Nat} (h : f < n) (hn : n ≤ 512) : wrap64 ((f : Int) + 1) = (f : Int) + 1 := by
  unfold wrap64; omega
theorem heap_set3 {w : World} {b : Nat} {T : TypeId} {x0 x1 x2 : Value} (v0 v1 v2 : Value) (h : w.heap[b]? = some (.cells #[x0, x1, x2] T (0, 0))) :
    (((w.setCell ⟨b, 0, none⟩ v0).setCell ⟨b, 1, none⟩ v1).setCell ⟨b, 2, none⟩ v2).heap[b]? = some (.cells #[v0, v1, v2] T (0, 0)) :=
  heap_setCell_same _ b 2 _ _ _ (heap_setCell_same _ b 1 _ _ _ (heap_setCell_same w b 0 _ _ _ h))
theorem ok_fill {s : St} (h : Ok s) {n : Nat} (hn : n < s.n) (L : BitVec 64) (wr : Bool) (hw : ∀ L', s.wh L' ≠ some n) : Ok (fillS s n L wr) := by
  refine ⟨h.sets, h.ways, h.ns, h.delay, fun L' m e => ?_, h.sl⟩
  by_cases e1 : L' = L
  · subst e1
    simp only [fillS, comes, setPl, upd_same, Option.some.injEq] at e
    subst e
    exact ⟨hn, by simp [fillS, comes, setPl]⟩
  · simp only [fillS, comes, setPl, upd_other _ _ e1] at e
    have hm : m ≠ n := fun e2 => hw L' (e2 ▸ e)
    have := h.wh L' m e
    exact ⟨this.1, by simpa [fillS, comes, setPl, hm] using this.2⟩

theorem Held.setSeed {w : World} {g : G} {s : St} (h : Held w g s) (x : BitVec 64) : Held (w.setCell ⟨g.c, 3, none⟩ (.int .u64 (U x))) g (seeded s x) :=
  ⟨⟨h.ok.sets, h.ok.ways, h.ok.ns, h.ok.delay, h.ok.wh, h.ok.sl⟩, h.ap, heap_setCell_same w g.c 3 _ _ _ h.c, h.a.kept (heap_setCell_ne _ _ h.ap.ca.symm), h.m.kept (heap_setCell_ne _ _ h.ap.cm.symm), h.s.kept (heap_setCell_ne _ _ h.ap.cs.symm)⟩
theorem seeded_n (s : St) (x : BitVec 64) : (seeded s x).n = s.n := rfl
theorem Held.cs {w : World} {g : G} {s : St} {x : BitVec 64} (h : Held w g (seeded s x)) : w.cell? ⟨g.c, 1, none⟩ = some (.int .i64 (s.ways : Nat)) ∧ w.cell? ⟨g.c, 3, none⟩ = some (.int .u64 (U x)) ∧ w.cell? ⟨g.c, 4, none⟩ = some (.slice (some ⟨g.a, 0, none⟩) s.n g.ka) := ⟨h.cf.c1, h.cf.c3, h.cf.c4⟩
theorem Held.ca {w : World} {g : G} {s : St} {x : BitVec 64} (h : Held w g (seeded s x)) {n : Nat} (hn : n < s.n) : w.cell? ⟨g.a, n * 3, none⟩ = some (.int .u64 (U (s.pl n).line)) ∧ w.cell? ⟨g.a, n * 3 + 1, none⟩ = some (.bool (s.pl n).is) ∧ w.cell? ⟨g.a, n * 3 + 2, none⟩ = some (.bool (s.pl n).written) :=
  ⟨h.a.cell n 0 hn (by decide), h.a.cell n 1 hn (by decide), h.a.cell n 2 hn (by decide)⟩
theorem seeded_pl (s : St) (x : BitVec 64) : (seeded s x).pl = s.pl := rfl
theorem freed_n (s : St) (L : BitVec 64) : (freed s L).n = s.n := rfl
theorem setPl_n (s : St) (n : Nat) (p : Pl) : (setPl s n p).n = s.n := rfl
theorem Held.fs {w : World} {g : G} {s : St} {L : BitVec 64} (h : Held w g (freed s L)) {n : Nat} (hn : n < s.n) : w.cell? ⟨g.c, 4, none⟩ = some (.slice (some ⟨g.a, 0, none⟩) s.n g.ka) ∧
    w.cell? ⟨g.a, n * 3, none⟩ = some (.int .u64 (U (s.pl n).line)) ∧ w.cell? ⟨g.a, n * 3 + 1, none⟩ = some (.bool (s.pl n).is) ∧ w.cell? ⟨g.a, n * 3 + 2, none⟩ = some (.bool (s.pl n).written) :=
  ⟨h.cf.c4, h.a.cell n 0 hn (by decide), h.a.cell n 1 hn (by decide), h.a.cell n 2 hn (by decide)⟩
theorem ok_freed {s : St} (h : Ok s) (L : BitVec 64) : Ok (freed s L) := ⟨h.sets, h.ways, h.ns, h.delay, fun L' n e => by
  by_cases e1 : L' = L
  · subst e1; rw [show (freed s L').wh L' = none from upd_same _ _ _] at e; cases e
  · exact h.wh L' n (by rw [← upd_other s.wh none e1]; exact e), h.sl⟩
theorem free_not {s : St} (h : Ok s) (n : Nat) (L' : BitVec 64) : (freed s (s.pl n).line).wh L' ≠ some n := fun e => by
  have h1 := (ok_freed h (s.pl n).line).wh L' n e
  have h2 : (s.pl n).line = L' := h1.2.2
  rw [show (freed s (s.pl n).line).wh L' = none from by rw [h2]; exact upd_same _ _ _] at e
  cases e
theorem ok_evict {s : St} (h : Ok s) {n : Nat} (hn : n < s.n) (L : BitVec 64) (wr : Bool) : Ok (fillS (freed s (s.pl n).line) n L wr) ∧ Ok (setPl (freed s (s.pl n).line) n ⟨L, true, wr⟩) :=
  ⟨ok_fill (ok_freed h _) hn L wr (free_not h n), ok_setPl (ok_freed h _) _ _ (fun L' e => absurd e (free_not h n L'))⟩
theorem ways_ne {s : St} (h : Ok s) : ¬ U (BitVec.ofNat 64 s.ways) = 0 := by
  have h1 := h.ways
  unfold U
  rw [BitVec.toNat_ofNat, Nat.mod_eq_of_lt (by omega)]
  omega
theorem gone_lt {s : St} (h : Ok s) (x : BitVec 64) : (x % BitVec.ofNat 64 s.ways).toNat < s.ways := by
  have h1 := h.ways
  have e : (BitVec.ofNat 64 s.ways).toNat = s.ways := by rw [BitVec.toNat_ofNat, Nat.mod_eq_of_lt (by omega)]
  rw [BitVec.toNat_umod, e]
  exact Nat.mod_lt _ (by omega)
theorem gone_val {s : St} (h : Ok s) {f : Nat} (hf : f + s.ways ≤ s.n) (x : BitVec 64) : wrap64 ((f : Int) + S (x % BitVec.ofNat 64 s.ways)) = ((f + (x % BitVec.ofNat 64 s.ways).toNat : Nat) : Int) := by
  have h1 := gone_lt h x
  have h2 := h.n_le
  have e : S (x % BitVec.ofNat 64 s.ways) = (((x % BitVec.ofNat 64 s.ways).toNat : Nat) : Int) := by
    unfold S
    exact BitVec.toInt_eq_toNat_of_lt (by have := h.ways; omega)
  rw [e, ← Int.natCast_add]
  unfold wrap64
  omega
/-- A line is let go. -/
theorem Held.gone {w : World} {g : G} {s : St} (h : Held w g s) {w' : World} {L : BitVec 64} (ht : w.mapTurned w' g.m) (hp : HasMap w' g.m s.m (upd s.wh L none)) : Held w' g (freed s L) :=
  ⟨⟨h.ok.sets, h.ok.ways, h.ok.ns, h.ok.delay, fun L' n e => by
      by_cases e1 : L' = L
      · subst e1; rw [show (freed s L').wh L' = none from upd_same _ _ _] at e; cases e
      · exact h.ok.wh L' n (by rw [← upd_other s.wh none e1]; exact e), h.ok.sl⟩, h.ap, (ht.grown.block _ (Array.getElem?_eq_some_iff.1 h.c).1 (fun e => h.ap.cm (Option.some.inj e))).trans h.c,
    h.a.kept (ht.grown.block _ h.a.lt (fun e => h.ap.am (Option.some.inj e))), hp, h.s.kept (ht.grown.block _ h.s.lt (fun e => h.ap.ms.symm (Option.some.inj e)))⟩

/-! A map that is written at the end of a region that draws. -/
noncomputable def after {α : Type} (m : Sem α) (w : World) : World := match m.run Try.prog w with | .ok _ w' => w' | _ => w
theorem after_eq {α : Type} {m : Sem α} {w w' : World} {x : α} (h : m.run Try.prog w = .ok x w') : after m w = w' := by unfold after; rw [h]
noncomputable def delM (g : G) (s : St) (L : BitVec 64) : Sem Value := Builtin.delete_ #[56, 66] 0 #[.map (some g.m), kv s.m L]
noncomputable def putM (g : G) (s : St) (L : BitVec 64) (n : Nat) : Sem Unit := Instr.mapUpdate 56 (.map (some g.m)) (kv s.m L) (.int .i64 (n : Nat))
theorem freed_twice (s : St) (L : BitVec 64) : freed (freed s L) L = freed s L := by
  simp only [freed]
  congr 1
  funext L'
  by_cases e : L' = L <;> simp [upd, e]
theorem del_held {w : World} {g : G} {s : St} (h : Held w g s) (L : BitVec 64) :
    (delM g s L).run Try.prog w = .ok (.tuple #[]) (after (delM g s L) w) ∧ Held (after (delM g s L) w) g (freed s L) ∧ Kept g.own w (after (delM g s L) w) := by
  obtain ⟨w', hrun, hp, ht⟩ := h.m.drop L 0
  have e : after (delM g s L) w = w' := after_eq hrun
  rw [e]
  exact ⟨hrun, h.gone ht hp, (Kept.refl _ _).turned ht (.inl (.inr (.inr (.inl rfl))))⟩
def Going (g : G) (s : St) (L : BitVec 64) (w w' : World) : Prop := Kept g.own w w' ∧ (Held w' g s ∨ Held w' g (freed s L))
theorem Going.start {g : G} {s : St} {L : BitVec 64} {w : World} (h : Held w g s) : Going g s L w w.drew := ⟨(Kept.refl _ _).drew, .inl h.drew⟩
theorem Going.still {g : G} {s : St} {L : BitVec 64} {w w1 w2 : World} (h : Going g s L w w1) (k : Still w1 w2) : Going g s L w w2 := ⟨h.1.still k, h.2.imp (fun h => h.still k) (fun h => h.still k)⟩
theorem Going.done {g : G} {s : St} {L : BitVec 64} {w w' : World} (h : Going g s L w w') : Held (after (delM g s L) w') g (freed s L) ∧ Kept g.own w (after (delM g s L) w') := by
  rcases h.2 with k | k
  · exact ⟨(del_held k L).2.1, h.1.trans (del_held k L).2.2⟩
  · have := del_held k L
    rw [freed_twice] at this
    exact ⟨this.2.1, h.1.trans this.2.2⟩
theorem Going.del {g : G} {s : St} {L : BitVec 64} {w w' : World} (h : Going g s L w w') : Going g s L w (after (delM g s L) w') := ⟨h.done.2, .inr h.done.1⟩
theorem Going.run {g : G} {s : St} {n : Nat} {w w' : World} (hn : n < s.n) (h : Going g s (s.pl n).line w w') : Going g s (s.pl n).line w w' ∧ w'.cell? ⟨g.c, 5, none⟩ = some (.map (some g.m)) ∧ w'.cell? ⟨g.c, 4, none⟩ = some (.slice (some ⟨g.a, 0, none⟩) s.n g.ka) ∧
    w'.cell? ⟨g.a, n * 3, none⟩ = some (.int .u64 (U (s.pl n).line)) ∧ (Builtin.delete_ #[56, 66] 0 #[.map (some g.m), kv s.m (s.pl n).line]).run Try.prog w' = .ok (.tuple #[]) (after (delM g s (s.pl n).line) w') := by
  rcases h.2 with k | k
  · exact ⟨h, k.cf.c5, k.cf.c4, k.a.cell n 0 hn (by decide), (del_held k _).1⟩
  · exact ⟨h, k.cf.c5, k.cf.c4, k.a.cell n 0 hn (by decide), (del_held k _).1⟩
theorem put_held {w : World} {g : G} {s : St} (h : Held w g s) (L : BitVec 64) {n : Nat} (hn : n < s.n) (hok : Ok (comes s L n)) :
    (putM g s L n).run Try.prog w = .ok () (after (putM g s L n) w) ∧ Held (after (putM g s L n) w) g (comes s L n) ∧ Kept g.own w (after (putM g s L n) w) := by
  obtain ⟨w', hrun, hp, ht⟩ := h.m.put h.ok.fits h.ok.n_le.2 L n (by have := h.ok.n_le; omega)
  have e : after (putM g s L n) w = w' := after_eq hrun
  rw [e]
  exact ⟨hrun, ⟨hok, h.ap, (ht.grown.block _ (Array.getElem?_eq_some_iff.1 h.c).1 (fun e => h.ap.cm (Option.some.inj e))).trans h.c,
    h.a.kept (ht.grown.block _ h.a.lt (fun e => h.ap.am (Option.some.inj e))), hp, h.s.kept (ht.grown.block _ h.s.lt (fun e => h.ap.ms.symm (Option.some.inj e)))⟩, (Kept.refl _ _).turned ht (.inl (.inr (.inr (.inl rfl))))⟩
def Coming (g : G) (s : St) (L : BitVec 64) (n : Nat) (w w' : World) : Prop := Kept g.own w w' ∧ (Held w' g s ∨ Held w' g (comes s L n))
theorem Coming.start {g : G} {s : St} {L : BitVec 64} {n : Nat} {w : World} (h : Held w g s) : Coming g s L n w w.drew := ⟨(Kept.refl _ _).drew, .inl h.drew⟩
theorem Coming.still {g : G} {s : St} {L : BitVec 64} {n : Nat} {w w1 w2 : World} (h : Coming g s L n w w1) (k : Still w1 w2) : Coming g s L n w w2 := ⟨h.1.still k, h.2.imp (fun h => h.still k) (fun h => h.still k)⟩
theorem comes_twice (s : St) (L : BitVec 64) (n : Nat) : comes (comes s L n) L n = comes s L n := by
  simp only [comes]
  congr 1
  funext L'
  by_cases e : L' = L <;> simp [upd, e]
theorem Coming.done {g : G} {s : St} {L : BitVec 64} {n : Nat} {w w' : World} (hn : n < s.n) (hok : Ok (comes s L n)) (h : Coming g s L n w w') :
    Held (after (putM g s L n) w') g (comes s L n) ∧ Kept g.own w (after (putM g s L n) w') ∧ (putM g s L n).run Try.prog w' = .ok () (after (putM g s L n) w') := by
  rcases h.2 with k | k
  · have := put_held k L hn hok
    exact ⟨this.2.1, h.1.trans this.2.2, this.1⟩
  · have := put_held k L hn (by rw [comes_twice]; exact hok)
    rw [comes_twice] at this
    exact ⟨this.2.1, h.1.trans this.2.2, this.1⟩
theorem Coming.run {g : G} {s : St} {L : BitVec 64} {n : Nat} {w w' : World} (hn : n < s.n) (hok : Ok (comes s L n)) (h : Coming g s L n w w') :
    Coming g s L n w w' ∧ w'.cell? ⟨g.c, 5, none⟩ = some (.map (some g.m)) ∧ (Instr.mapUpdate 56 (.map (some g.m)) (kv s.m L) (.int .i64 (n : Nat))).run Try.prog w' = .ok () (after (putM g s L n) w') := by
  refine ⟨h, ?_, (h.done hn hok).2.2⟩
  rcases h.2 with k | k
  · exact k.cf.c5
  · exact k.cf.c5
theorem Coming.put {g : G} {s : St} {L : BitVec 64} {n : Nat} {w w' : World} (hn : n < s.n) (hok : Ok (comes s L n)) (h : Coming g s L n w w') : Coming g s L n w (after (putM g s L n) w') :=
  ⟨(h.done hn hok).2.1, .inr (h.done hn hok).1⟩
theorem Going.key_any {g : G} {s : St} {L : BitVec 64} {w w' : World} (h : Going g s L w w') (L' : BitVec 64) :
    Calls Try.prog 26 #[.pointer (some ⟨g.c, 0, none⟩), .int .u64 (U L')] w' fun e w2 => e = .returned (kv s.m L') ∧ Still w' w2 := by
  rcases h.2 with k | k
  · exact Go.Proofs.Ytpflodhnniochaa.key_any _ g _ L' k
  · exact Go.Proofs.Ytpflodhnniochaa.key_any _ g (freed s L) L' k
theorem Coming.key_any {g : G} {s : St} {L : BitVec 64} {n : Nat} {w w' : World} (h : Coming g s L n w w') (L' : BitVec 64) :
    Calls Try.prog 26 #[.pointer (some ⟨g.c, 0, none⟩), .int .u64 (U L')] w' fun e w2 => e = .returned (kv s.m L') ∧ Still w' w2 := by
  rcases h.2 with k | k
  · exact Go.Proofs.Ytpflodhnniochaa.key_any _ g _ L' k
  · exact Go.Proofs.Ytpflodhnniochaa.key_any _ g (comes s L n) L' k

set_option maxRecDepth 100000 in
set_option maxHeartbeats 4000000 in
theorem lay_any (w : World) (g : G) (s : St) (L : BitVec 64) (wr' : Bool) (h : Held w g s) :
    Calls Try.prog 30 #[.pointer (some ⟨g.c, 0, none⟩), .int .u64 (U L), .bool wr'] w fun e w' =>
      e = .returned (.agg (dnV (layS s L wr').2)) ∧ Held w' g (layS s L wr').1 ∧ Kept g.own w w' := by
  have hlt := h.lt (.inl rfl)
  have hz := m_ne h.ok
  have c0 := h.cf.c0
  have c1 := h.cf.c1
  go_enter Try.func30, Try.ntmps30
  go_wp2
  go_quiet (fail)
  go_wp2
  simp only [first_val h.ok]
  have hfl := first_le h.ok L
  have hnl := h.ok.n_le
  have hwl := h.ok.ways
  have hans : Hid (∀ n, n = emptyS s (firstS s L) s.ways → layS s L wr' = if n = firstS s L + s.ways then
    (fillS (freed (seeded s (stepSeed s.seed)) (s.pl (goneS s L)).line) (goneS s L) L wr', ⟨L <<< 6, (s.pl (goneS s L)).line <<< 6, (s.pl (goneS s L)).written⟩)
    else (fillS s n L wr', ⟨L <<< 6, 0#64, false⟩)) := hide (fun n e => by rw [e]; rfl)
  have hgone : Hid (goneS s L = firstS s L + ((stepSeed s.seed >>> 32) % BitVec.ofNat 64 s.ways).toNat) := hide rfl
  generalize hw1 : (((w.alloc (Obj.cells #[Value.int IntKind.u64 0, Value.int IntKind.u64 0, Value.bool false] 40)).alloc (Obj.cells #[Value.int IntKind.u64 (U (L <<< 6)), Value.int IntKind.u64 0, Value.bool false] 40)).drewN nq) = w1
  have hK : Kept g.own w w1 := by subst hw1; exact (((Kept.refl _ w).alloc _).alloc _).drewN _
  have hh : Held w1 g s := by subst hw1; exact ((h.alloc _).alloc _).keep fun _ _ => rfl
  have b6 : w1.heap[w.heap.size]? = some (.cells #[Value.int IntKind.u64 0, Value.int IntKind.u64 0, Value.bool false] 40 (0, 0)) := by subst hw1; exact (Below.heap_alloc _ _ _ (by simp)).trans (heap_alloc_new _ _)
  have b7 : w1.heap[w.heap.size + 1]? = some (.cells #[Value.int IntKind.u64 (U (L <<< 6)), Value.int IntKind.u64 0, Value.bool false] 40 (0, 0)) := by subst hw1; exact heap_alloc2_new _ _ _
  clear hw1 c0 c1
  have hown : ∀ k, g.own k → k < w.heap.size := fun k hk => h.lt hk
  have hbw : w.heap.size ≤ w.heap.size := Nat.le_refl _
  generalize hbe : w.heap.size = b at b6 b7 hown ⊢
  rw [hbe] at hlt
  replace hbw : w.heap.size ≤ b := by omega
  clear hbe
  generalize firstS s L = f at *
  have hfw : f ≤ f + s.ways := by omega
  have hwr := hide (wrap_small hfl hnl.2)
  go_loopw [9] (fun iv wr => ∃ n : Nat, f ≤ n ∧ n ≤ f + s.ways ∧ iv = .int .i64 n ∧ wr = w1 ∧ emptyS s f s.ways = emptyS s n (f + s.ways - n)) (fun iv _ => f + s.ways - (intOf iv).toNat)
  case atStart => exact ⟨f, Nat.le_refl _, hfw, rfl, rfl, by rw [Nat.add_sub_cancel_left]⟩
  case round =>
    obtain ⟨n, hn1, hn2, rfl, rfl, he⟩ := hrel
    have he := hide he
    have c1 := hh.cf.c1
    have c4 := hh.cf.c4
    have dz := hh.a.frozen
    by_cases hlt2 : n < f + s.ways
    · have hn3 : n < s.n := by omega
      have d0 := hh.a.cell n 0 hn3 (by decide)
      have d1 := hh.a.cell n 1 hn3 (by decide)
      have d2 := hh.a.cell n 2 hn3 (by decide)
      simp only [plV, Nat.add_zero] at d0 d1 d2
      have hb : 0 ≤ (n : Int) := by omega
      have hb2 : ((n : Nat) : Int) < (s.n : Nat) := by omega
      have hb3 : (n : Int) < (f : Int) + (s.ways : Int) := by omega
      cases i1 : (s.pl n).is with
      | true =>
        have he2 : Hid (emptyS s f s.ways = emptyS s (n + 1) (f + s.ways - (n + 1))) := hide (by
          rw [he.out, show f + s.ways - n = (f + s.ways - (n + 1)) + 1 by omega, emptyS, if_pos i1])
        have q1 : f ≤ n + 1 := by omega
        have q2 : n + 1 ≤ f + s.ways := hlt2
        have q3 := meas_succ2 hlt2
        clear hwr
        obtain ⟨hnl1, hnl2⟩ := hnl
        rw [i1] at d1
        go_wp2
        go_roundw
        case rel => exact ⟨n + 1, q1, q2, by simp, trivial, he2.out⟩
        case measure => exact q3
      | false =>
        have he2 : emptyS s f s.ways = n := by
          rw [he.out, show f + s.ways - n = (f + s.ways - n - 1) + 1 by omega, emptyS, if_neg (by simp [i1])]
        have hans2 := hide ((hans.out n he2.symm).trans (if_neg (by omega)))
        have hne : ¬ (n : Int) = (f : Int) + (s.ways : Int) := by omega
        rw [i1] at d1
        have hok : Ok (setPl s n ⟨L, true, wr'⟩) := ok_setPl h.ok _ _ (fun L' e => by have := (h.ok.wh _ _ e).2.1; rw [i1] at this; cases this)
        have hA := hh.newA hn3 L true wr' hok
        have hK3 := (((Kept.refl g.own wr).setCell ⟨g.a, n * 3, none⟩ (.int .u64 (U L)) (.inl (.inr (.inl rfl)))).setCell ⟨g.a, n * 3 + 1, none⟩ (.bool true) (.inl (.inr (.inl rfl)))).setCell ⟨g.a, n * 3 + 2, none⟩ (.bool wr') (.inl (.inr (.inl rfl)))
        clear he he2 hans hgone
        have hwn : ∀ L', s.wh L' ≠ some n := fun L' e => by have := (h.ok.wh _ _ e).2.1; rw [i1] at this; cases this
        have hok2 := ok_fill h.ok hn3 L wr' hwn
        have hn6 : ¬ g.own b := fun e => by have := hown b e; omega
        have hn7 : ¬ g.own (b + 1) := fun e => by have := hown _ e; omega
        have hn1024 : n < 1024 := by omega
        clear hwr
        obtain ⟨hnl1, hnl2⟩ := hnl
        go_wp2
        generalize (((wr.setCell ⟨g.a, n * 3, none⟩ (.int .u64 (U L))).setCell ⟨g.a, n * 3 + 1, none⟩ (.bool true)).setCell ⟨g.a, n * 3 + 2, none⟩ (.bool wr')) = w2 at hA hK3 ⊢
        have hKw := hK.trans hK3
        have b6w := (hK3.block b (Array.getElem?_eq_some_iff.1 b6).1 hn6).trans b6
        have b7w := (hK3.block (b + 1) (Array.getElem?_eq_some_iff.1 b7).1 hn7).trans b7
        clear hh hn1024 c1 c4 dz d0 d1 d2 hok hK3 b6 b7 hK
        have hn4 : n < (setPl s n ⟨L, true, wr'⟩).n := hn3
        have hok3 : Ok (comes (setPl s n ⟨L, true, wr'⟩) L n) := hok2
        have hans3 := hide hans2.out
        unfold fillS at hans3
        clear hans2 hok2
        generalize setPl s n ⟨L, true, wr'⟩ = s1 at hA hn4 hok3 hans3
        clear hfl hwl hz hwn hfw he
        go_region_held3 (fun w' => Coming g s1 L n w2 w' ∧ w'.cell? ⟨g.c, 5, none⟩ = some (.map (some g.m)) ∧ (Instr.mapUpdate 56 (.map (some g.m)) (kv s1.m L) (.int .i64 (n : Nat))).run Try.prog w' = .ok () (after (putM g s1 L n) w'))
          (first | assumption | exact (Coming.start hA).run hn4 hok3 | exact (Coming.put hn4 hok3 (And.left (a := Coming g s1 L n w2 _) (by assumption))).run hn4 hok3 | exact (Coming.still (And.left (a := Coming g s1 L n w2 _) (by assumption)) hm).run hn4 hok3)
          (first
          | (go_at_call 26; refine (Coming.key_any (And.left (a := Coming g s1 L n w2 _) (by assumption)) _).mono ?_; rintro e w' ⟨rfl, hm⟩))
        generalize hwe : after (putM g s1 L n) _ = we
        have hd : Held we g (comes s1 L n) ∧ Kept g.own w2 we := by
          rw [← hwe]
          exact ⟨((Coming.still (Coming.start (L := L) (n := n) hA) hm).done hn4 hok3).1, ((Coming.still (Coming.start (L := L) (n := n) hA) hm).done hn4 hok3).2.1⟩
        obtain ⟨hd1, hd2⟩ := hd
        have b6' := (hd2.block b (Array.getElem?_eq_some_iff.1 b6w).1 hn6).trans b6w
        have b7' := (hd2.block (b + 1) (Array.getElem?_eq_some_iff.1 b7w).1 hn7).trans b7w
        have hKe := hKw.trans hd2
        clear hwe b6w b7w hd2
        have p0 : we.cell? ⟨b + 1, 0, none⟩ = some (.int .u64 (U (L <<< 6))) := by simp [World.cell?, b7']
        have p1 : we.cell? ⟨b + 1, 1, none⟩ = some ((.int .u64 0)) := by simp [World.cell?, b7']
        have p2 : we.cell? ⟨b + 1, 2, none⟩ = some ((.bool false)) := by simp [World.cell?, b7']
        have q0 : we.cell? ⟨b, 0, none⟩ = some (.int .u64 0) := by simp [World.cell?, b6']
        have q1 : we.cell? ⟨b, 1, none⟩ = some (.int .u64 0) := by simp [World.cell?, b6']
        have q2 : we.cell? ⟨b, 2, none⟩ = some (.bool false) := by simp [World.cell?, b6']
        have q3 : ∀ o, we.frozen? ⟨b, o, none⟩ = false := fun o => by simp [World.frozen?, b6']
        go_wp2
        (try simp only [Exit.inBlock, Exit.then])
        exact bodyPost_ret (results_cell_row rfl _ _ b _ _ (0, 0) _ rfl (heap_set3 _ _ _ b6') Try.underlying40 rfl (by kernel_rfl)) rfl
          ⟨by rw [hans3.out]; rfl, by rw [hans3.out]; exact ((hd1.setCell _ _ hn6).setCell _ _ hn6).setCell _ _ hn6, ((hKe.setCell _ _ (.inr hbw)).setCell _ _ (.inr hbw)).setCell _ _ (.inr hbw)⟩
    · obtain rfl : n = f + s.ways := by omega
      have he2 : emptyS s f s.ways = f + s.ways := by rw [he.out, Nat.sub_self, emptyS]
      have hans2 := hide ((hans.out _ he2.symm).trans (if_pos rfl))
      clear he2 he hans
      have cz := hh.fz
      have c3 := hh.cf.c3
      have hS := fun x => hh.setSeed x
      have hKS : ∀ x, Kept g.own wr (wr.setCell ⟨g.c, 3, none⟩ (.int .u64 (U x))) := fun x => (Kept.refl _ _).setCell _ _ (.inl (.inl rfl))
      have hS := hide hS
      have hKS := hide hKS
      have heq : ((f + s.ways : Nat) : Int) = (f : Int) + (s.ways : Int) := Int.natCast_add _ _
      have hn6 : ¬ g.own b := fun e => by have := hown b e; omega
      have hn7 : ¬ g.own (b + 1) := fun e => by have := hown _ e; omega
      clear hwr
      obtain ⟨hnl1, hnl2⟩ := hnl
      go_wp2
      clear heq
      generalize hy : 6364136223846793005#64 * s.seed = y
      generalize hx : y + 1442695040888963407#64 = x
      have hx2 : stepSeed s.seed = x := by rw [← hx, ← hy, stepSeed_eq]
      clear hx hy
      have hS := hS.out x
      have hKS := hKS.out x
      generalize wr.setCell ⟨g.c, 3, none⟩ (.int .u64 (U x)) = w2 at hS hKS ⊢
      clear c1 c3 c4 cz dz
      obtain ⟨c1, c3, c4⟩ := hS.cs
      have hz2 := ways_ne h.ok
      go_quiet (fail)
      simp only [gone_val h.ok hfl]
      have hgone := hgone.out
      rw [hx2] at hgone
      rw [← hgone]
      have hans2 := hans2.out
      have hgl : goneS s L < s.n := by rw [hgone]; have := gone_lt h.ok (x >>> 32); omega
      clear hgone hfw hn1 hn2 hlt2
      rw [hx2] at hans2
      have hans2 := hide hans2
      generalize goneS s L = n at *
      have hh3 : Held (w2.drewN nq) g (seeded s x) := hS.keep fun _ _ => rfl
      have hK3 : Kept g.own wr (w2.drewN nq) := hKS.drewN nq
      generalize w2.drewN nq = w3 at hh3 hK3 ⊢
      clear c1 c3 c4 hS hKS
      obtain ⟨c1, c3, c4⟩ := hh3.cs
      obtain ⟨d0, d1, d2⟩ := hh3.ca hgl
      have b6' := (hK3.block b (Array.getElem?_eq_some_iff.1 b6).1 hn6).trans b6
      have b7' := (hK3.block (b + 1) (Array.getElem?_eq_some_iff.1 b7).1 hn7).trans b7
      have p1 : w3.cell? ⟨b + 1, 1, none⟩ = some (.int .u64 0) := by simp [World.cell?, b7']
      have p2 : w3.cell? ⟨b + 1, 2, none⟩ = some (.bool false) := by simp [World.cell?, b7']
      have pz : ∀ o, w3.frozen? ⟨b + 1, o, none⟩ = false := fun o => by simp [World.frozen?, b7']
      have hb2 : ((n : Nat) : Int) < (s.n : Nat) := by omega
      have hb : 0 ≤ (n : Int) := by omega
      go_wp2
      refine Code.wp_mono (Q := AtEnd fun a w' => a = ⟨#[Value.pointer (some { block := g.c, off := 0 }), Value.int IntKind.u64 (U L), Value.bool wr', undef, undef, undef, Value.pointer (some { block := b, off := 0 }), Value.pointer (some { block := b + 1, off := 0 }), Value.int IntKind.i64 ↑f, Value.int IntKind.i64 ↑n, Value.int IntKind.u64 (U L), Value.int IntKind.u64 (U (L <<< 6)), Value.agg #[Value.int IntKind.u64 (U (L <<< 6)), Value.int IntKind.u64 0, Value.bool false], Value.int IntKind.u64 (U L), Value.pointer (some { block := g.c, off := 0 }), Value.pointer (some { block := g.c, off := 0 }), Value.pointer (some { block := g.c, off := 0 }), Value.int IntKind.i64 ↑s.sets, Value.int IntKind.u64 (U (BitVec.ofNat 64 s.sets)), Value.int IntKind.u64 (U (L % BitVec.ofNat 64 s.sets)), Value.int IntKind.i64 (S (L % BitVec.ofNat 64 s.sets)), Value.pointer (some { block := g.c, off := 0 }), Value.pointer (some { block := g.c, off := 0 }), Value.pointer (some { block := g.c, off := 1 }), Value.int IntKind.i64 ↑s.ways, Value.int IntKind.i64 ↑f, Value.int IntKind.i64 ↑f, Value.int IntKind.i64 ↑(f + s.ways), Value.int IntKind.i64 ↑f, Value.pointer (some { block := g.c, off := 0 }), Value.pointer (some { block := g.c, off := 0 }), Value.pointer (some { block := g.c, off := 1 }), Value.int IntKind.i64 ↑s.ways, Value.int IntKind.i64 (↑f + ↑s.ways), Value.bool false, Value.bool false, undef, undef, undef, undef, undef, undef, undef, undef, Value.bool false, u45, u46, Value.int IntKind.i64 ↑(f + s.ways), Value.int IntKind.i64 ↑f, Value.pointer (some { block := g.c, off := 0 }), Value.pointer (some { block := g.c, off := 0 }), Value.pointer (some { block := g.c, off := 1 }), Value.int IntKind.i64 ↑s.ways, Value.int IntKind.i64 (↑f + ↑s.ways), Value.bool true, Value.pointer (some { block := g.c, off := 0 }), Value.pointer (some { block := g.c, off := 0 }), Value.pointer (some { block := g.c, off := 0 }), Value.pointer (some { block := g.c, off := 3 }), Value.int IntKind.u64 (U s.seed), Value.int IntKind.u64 (U y), Value.int IntKind.u64 (U x), Value.pointer (some { block := g.c, off := 0 }), Value.pointer (some { block := g.c, off := 3 }), Value.int IntKind.i64 ↑f, Value.pointer (some { block := g.c, off := 0 }), Value.pointer (some { block := g.c, off := 0 }), Value.pointer (some { block := g.c, off := 3 }), Value.int IntKind.u64 (U x), Value.int IntKind.u64 (U (x >>> 32)), Value.pointer (some { block := g.c, off := 0 }), Value.pointer (some { block := g.c, off := 0 }), Value.pointer (some { block := g.c, off := 1 }), Value.int IntKind.i64 ↑s.ways, Value.int IntKind.u64 (U (BitVec.ofNat 64 s.ways)), Value.int IntKind.u64 (U (x >>> 32 % BitVec.ofNat 64 s.ways)), Value.int IntKind.i64 (S (x >>> 32 % BitVec.ofNat 64 s.ways)), Value.int IntKind.i64 ↑n, Value.pointer (some { block := g.c, off := 0 }), Value.pointer (some { block := g.c, off := 0 }), Value.pointer (some { block := g.c, off := 4 }), Value.slice (some { block := g.a, off := 0 }) s.n g.ka, Value.int IntKind.i64 ↑n, Value.pointer (some { block := g.a, off := n * 3 }), Value.pointer (some { block := g.a, off := n * 3 }), Value.int IntKind.u64 (U (s.pl n).line), Value.int IntKind.u64 (U ((s.pl n).line <<< 6)), Value.pointer (some { block := g.c, off := 0 }), Value.pointer (some { block := g.c, off := 0 }), Value.pointer (some { block := g.c, off := 4 }), Value.slice (some { block := g.a, off := 0 }) s.n g.ka, Value.int IntKind.i64 ↑n, Value.pointer (some { block := g.a, off := n * 3 }), Value.pointer (some { block := g.a, off := n * 3 + 2 }), Value.bool (s.pl n).written, Value.pointer (some { block := b + 1, off := 1 }), Value.pointer (some { block := b + 1, off := 2 }), undef, undef, undef, undef, undef, undef, undef, undef, undef, undef, undef, undef, undef, undef, undef, undef, undef, undef, undef, undef, undef, undef, undef, undef, undef, undef, undef, undef, undef, undef, undef, undef], []⟩ ∧ w' = ((w3.setCell ⟨b + 1, 1, none⟩ (.int .u64 (U ((s.pl n).line <<< 6)))).setCell ⟨b + 1, 2, none⟩ (.bool (s.pl n).written)).drew) ?imp ?reg
      case reg =>
        clear hans2 hh3 hK3 he hgl b6 b7 b6' b7' hn6 hn7 hK hh hS hKS hgone
        as_aux_lemma =>
          go_region
          all_goals exact ⟨rfl, rfl⟩
      case imp =>
        refine atEnd_imp ?_
        rintro a w4 ⟨rfl, rfl⟩
        have hw1 : w.heap.size ≤ b + 1 := by omega
        have hw2 : wr.heap.size ≤ wr.heap.size := Nat.le_refl _
        have hh4 := ((hh3.setCell ⟨b + 1, 1, none⟩ (.int .u64 (U ((s.pl n).line <<< 6))) hn7).setCell ⟨b + 1, 2, none⟩ (.bool (s.pl n).written) hn7).drew
        have hK4 : Kept g.own w _ := (((hK.trans hK3).setCell ⟨b + 1, 1, none⟩ (.int .u64 (U ((s.pl n).line <<< 6))) (.inr hw1)).setCell ⟨b + 1, 2, none⟩ (.bool (s.pl n).written) (.inr hw1)).drew
        have b7x : (((w3.setCell ⟨b + 1, 1, none⟩ (.int .u64 (U ((s.pl n).line <<< 6)))).setCell ⟨b + 1, 2, none⟩ (.bool (s.pl n).written)).drew).heap[b + 1]? = some (.cells #[Value.int IntKind.u64 (U (L <<< 6)), .int .u64 (U ((s.pl n).line <<< 6)), .bool (s.pl n).written] 40 (0, 0)) :=
          heap_setCell_same _ (b + 1) 2 _ _ _ (heap_setCell_same _ (b + 1) 1 _ _ _ b7')
        have b6x : (((w3.setCell ⟨b + 1, 1, none⟩ (.int .u64 (U ((s.pl n).line <<< 6)))).setCell ⟨b + 1, 2, none⟩ (.bool (s.pl n).written)).drew).heap[b]? = some (.cells #[Value.int IntKind.u64 0, Value.int IntKind.u64 0, Value.bool false] 40 (0, 0)) :=
          (heap_setCell_ne _ _ (by simp)).trans ((heap_setCell_ne _ _ (by simp)).trans b6')
        generalize (((w3.setCell ⟨b + 1, 1, none⟩ (.int .u64 (U ((s.pl n).line <<< 6)))).setCell ⟨b + 1, 2, none⟩ (.bool (s.pl n).written)).drew) = w4 at hh4 hK4 b7x b6x ⊢
        clear b6 b7 b6' b7' hh3 hK3 c1 c3 c4 d0 d1 d2 p1 p2 pz hS hKS hK he
        obtain ⟨c1, c3, c4⟩ := hh4.cs
        obtain ⟨d0, d1, d2⟩ := hh4.ca hgl
        have c5 := hh4.cf.c5
        have hans3 := hide hans2.out
        have hgl4 : n < (seeded s x).n := by rw [seeded_n]; exact hgl
        have hpl := seeded_pl s x
        clear c4 hS hKS hgone hans2
        generalize seeded s x = s2 at hh4 hgl4 hans3 hpl
        have hokx := hide (ok_evict hh4.ok hgl4 L wr').1
        have hok1 := hide (ok_evict hh4.ok hgl4 L wr').2
        have c4 := hh4.cf.c4
        rw [← hpl]
        rw [← hpl] at d0 d1 d2 b7x hans3
        clear hpl
        clear hh hz hz2 hwl hfl hnl1 hw2
        as_aux_lemma =>
          go_wp2
          go_region_held3 (fun w' => Going g s2 (s2.pl n).line w4 w' ∧ w'.cell? ⟨g.c, 5, none⟩ = some (.map (some g.m)) ∧ w'.cell? ⟨g.c, 4, none⟩ = some (.slice (some ⟨g.a, 0, none⟩) s2.n g.ka) ∧
              w'.cell? ⟨g.a, n * 3, none⟩ = some (.int .u64 (U (s2.pl n).line)) ∧ (Builtin.delete_ #[56, 66] 0 #[.map (some g.m), kv s2.m (s2.pl n).line]).run Try.prog w' = .ok (.tuple #[]) (after (delM g s2 (s2.pl n).line) w'))
            (first | assumption | exact (Going.start hh4).run hgl4 | exact (Going.del (And.left (a := Going g s2 (s2.pl n).line w4 _) (by assumption))).run hgl4 | exact (Going.still (And.left (a := Going g s2 (s2.pl n).line w4 _) (by assumption)) hm).run hgl4)
            (first
            | (go_at_call 26; refine (Going.key_any (And.left (a := Going g s2 (s2.pl n).line w4 _) (by assumption)) _).mono ?_; rintro e w' ⟨rfl, hm⟩))
          generalize hwe : after (delM g s2 (s2.pl n).line) _ = w5
          have hd : Held w5 g (freed s2 (s2.pl n).line) ∧ Kept g.own w4 w5 := by
            rw [← hwe]
            exact (Going.still (Going.start hh4) hm).done
          obtain ⟨hh5, hK5⟩ := hd
          clear hwe hm
          have b6y := (hK5.block b (Array.getElem?_eq_some_iff.1 b6x).1 hn6).trans b6x
          have b7y := (hK5.block (b + 1) (Array.getElem?_eq_some_iff.1 b7x).1 hn7).trans b7x
          as_aux_lemma =>
            have hnf : n < (freed s2 (s2.pl n).line).n := by rw [freed_n]; exact hgl4
            obtain ⟨c4, d0, d1, d2⟩ := hh5.fs hgl4
            have dz := hh5.a.frozen
            have hb2 : ((n : Nat) : Int) < (s2.n : Nat) := by omega
            have hok1 := hok1.out
            have hA := hh5.newA hnf L true wr' hok1
            have hK3 := (((hK4.trans hK5).setCell ⟨g.a, n * 3, none⟩ (.int .u64 (U L)) (.inl (.inr (.inl rfl)))).setCell ⟨g.a, n * 3 + 1, none⟩ (.bool true) (.inl (.inr (.inl rfl)))).setCell ⟨g.a, n * 3 + 2, none⟩ (.bool wr') (.inl (.inr (.inl rfl)))
            have hne1 : ∀ k, ¬ g.own k → ∀ o, k ≠ (⟨g.a, o, none⟩ : Addr).block := fun k hk o e => hk (.inr (.inl e))
            have b6w : (((w5.setCell ⟨g.a, n * 3, none⟩ (.int .u64 (U L))).setCell ⟨g.a, n * 3 + 1, none⟩ (.bool true)).setCell ⟨g.a, n * 3 + 2, none⟩ (.bool wr')).heap[b]? = _ :=
              (heap_setCell_ne _ _ (hne1 _ hn6 _)).trans ((heap_setCell_ne _ _ (hne1 _ hn6 _)).trans ((heap_setCell_ne _ _ (hne1 _ hn6 _)).trans b6y))
            have b7w : (((w5.setCell ⟨g.a, n * 3, none⟩ (.int .u64 (U L))).setCell ⟨g.a, n * 3 + 1, none⟩ (.bool true)).setCell ⟨g.a, n * 3 + 2, none⟩ (.bool wr')).heap[b + 1]? = _ :=
              (heap_setCell_ne _ _ (hne1 _ hn7 _)).trans ((heap_setCell_ne _ _ (hne1 _ hn7 _)).trans ((heap_setCell_ne _ _ (hne1 _ hn7 _)).trans b7y))
            clear c1 c3 c5 hh4 hK4 b6x b7x b6y b7y hne1 hK5
            go_wp2
            generalize (((w5.setCell ⟨g.a, n * 3, none⟩ (.int .u64 (U L))).setCell ⟨g.a, n * 3 + 1, none⟩ (.bool true)).setCell ⟨g.a, n * 3 + 2, none⟩ (.bool wr')) = w2 at hA hK3 b6w b7w ⊢
            have hKw := hK3
            have hn4 : n < (setPl (freed s2 (s2.pl n).line) n ⟨L, true, wr'⟩).n := by rw [setPl_n, freed_n]; exact hgl4
            have hok3 : Ok (comes (setPl (freed s2 (s2.pl n).line) n ⟨L, true, wr'⟩) L n) := hokx.out
            have hans3 := hide hans3.out
            unfold fillS at hans3
            clear hokx hok1 c4 d0 d1 d2 dz hh5 hK3 hnf
            have hans3 : Hid (layS s L wr' = (comes (setPl (freed s2 (s2.pl n).line) n ⟨L, true, wr'⟩) L n, ⟨L <<< 6, (s2.pl n).line <<< 6, (s2.pl n).written⟩)) := hans3
            generalize setPl (freed s2 (s2.pl n).line) n ⟨L, true, wr'⟩ = s1 at hA hn4 hok3 hans3
            as_aux_lemma =>
              go_region_held3 (fun w' => Coming g s1 L n w2 w' ∧ w'.cell? ⟨g.c, 5, none⟩ = some (.map (some g.m)) ∧ (Instr.mapUpdate 56 (.map (some g.m)) (kv s1.m L) (.int .i64 (n : Nat))).run Try.prog w' = .ok () (after (putM g s1 L n) w'))
                (first | assumption | exact (Coming.start hA).run hn4 hok3 | exact (Coming.put hn4 hok3 (And.left (a := Coming g s1 L n w2 _) (by assumption))).run hn4 hok3 | exact (Coming.still (And.left (a := Coming g s1 L n w2 _) (by assumption)) hm).run hn4 hok3)
                (first
                | (go_at_call 26; refine (Coming.key_any (And.left (a := Coming g s1 L n w2 _) (by assumption)) _).mono ?_; rintro e w' ⟨rfl, hm⟩))
              generalize hwe : after (putM g s1 L n) _ = we
              have hd : Held we g (comes s1 L n) ∧ Kept g.own w2 we := by
                rw [← hwe]
                exact ⟨((Coming.still (Coming.start (L := L) (n := n) hA) hm).done hn4 hok3).1, ((Coming.still (Coming.start (L := L) (n := n) hA) hm).done hn4 hok3).2.1⟩
              obtain ⟨hd1, hd2⟩ := hd
              have b6' := (hd2.block b (Array.getElem?_eq_some_iff.1 b6w).1 hn6).trans b6w
              have b7' := (hd2.block (b + 1) (Array.getElem?_eq_some_iff.1 b7w).1 hn7).trans b7w
              have hKe := hKw.trans hd2
              clear hwe b6w b7w hd2
              have p0 : we.cell? ⟨b + 1, 0, none⟩ = some (.int .u64 (U (L <<< 6))) := by simp [World.cell?, b7']
              have p1 : we.cell? ⟨b + 1, 1, none⟩ = some (.int .u64 (U ((s2.pl n).line <<< 6))) := by simp [World.cell?, b7']
              have p2 : we.cell? ⟨b + 1, 2, none⟩ = some (.bool (s2.pl n).written) := by simp [World.cell?, b7']
              have q0 : we.cell? ⟨b, 0, none⟩ = some (.int .u64 0) := by simp [World.cell?, b6']
              have q1 : we.cell? ⟨b, 1, none⟩ = some (.int .u64 0) := by simp [World.cell?, b6']
              have q2 : we.cell? ⟨b, 2, none⟩ = some (.bool false) := by simp [World.cell?, b6']
              have q3 : ∀ o, we.frozen? ⟨b, o, none⟩ = false := fun o => by simp [World.frozen?, b6']
              go_wp2
              (try simp only [Exit.inBlock, Exit.then])
              exact bodyPost_ret (results_cell_row rfl _ _ b _ _ (0, 0) _ rfl (heap_set3 _ _ _ b6') Try.underlying40 rfl (by kernel_rfl)) rfl
                ⟨by rw [hans3.out]; rfl, by rw [hans3.out]; exact ((hd1.setCell _ _ hn6).setCell _ _ hn6).setCell _ _ hn6, ((hKe.setCell _ _ (.inr hbw)).setCell _ _ (.inr hbw)).setCell _ _ (.inr hbw)⟩
end Go.Proofs.Ytpflodhnniochaa
