/-
  The reference's cache: cells that are written; Ask.
-/
import Derived.Test.YtpflodhnniochaaDoesB
namespace Go.Proofs.Ytpflodhnniochaa
set_option linter.unusedVariables false
open Go.RowKit Go.Maps

def plS (p : Pl) : Sl := ⟨p.line, p.is, p.written, 0⟩
theorem setQ_setPl {s : St} {i k i' j' : Nat} (p : Pl) (hk : k < s.ways) (hj : j' < s.ways) : setQ (setPl s (i * s.ways + k) p) i' j' = if i' = i ∧ j' = k then plS p else setQ s i' j' := by
  unfold setQ setPl
  simp only []
  by_cases e : i' = i ∧ j' = k
  · obtain ⟨rfl, rfl⟩ := e
    simp [plS]
  · rw [if_neg e, if_neg (fun e' => e (by have := (place_eq hj hk).1 e'; exact this))]
theorem HeldR.rows {w w' : World} {g : R} {s : St} {i k : Nat} {p : Pl} (h : HeldR w g s) (hi : i < s.sets) (hk : k < s.ways)
    (ho : ∀ b, b ≠ g.row i → w'.heap[b]? = w.heap[b]?)
    (hr : Row w' (g.row i) 76 4 s.ways (fun i' j' => if i' = k then slV (fun _ => plS p) 0 j' else slV (setQ s i) i' j')) : HeldR w' g (setPl s (i * s.ways + k) p) := by
  refine ⟨h.ap, (ho _ (h.ap.cr i hi)).trans h.c, h.a.kept (ho _ (h.ap.ar i hi)), fun i' hi' => ?_, h.s.kept (ho _ (h.ap.sr i hi))⟩
  by_cases e : i' = i
  · subst e
    refine hr.same fun a b ha hb => ?_
    show _ = slV (setQ (setPl s (i' * s.ways + k) p) i') a b
    have hq := setQ_setPl (i := i') (i' := i') p hk ha
    by_cases e2 : a = k
    · subst e2
      rw [if_pos rfl]
      rw [if_pos ⟨rfl, rfl⟩] at hq
      unfold slV
      rw [hq]
    · rw [if_neg e2]
      rw [if_neg (fun e3 => e2 e3.2)] at hq
      unfold slV
      rw [hq]
  · have hne : g.row i' ≠ g.row i := fun e2 => e (h.ap.rr i' i hi' hi e2)
    refine ((h.r i' hi').kept (ho _ hne)).same fun a b ha hb => ?_
    have hq := setQ_setPl (i := i) (i' := i') p hk (show a < s.ways from ha)
    rw [if_neg (fun e3 => e e3.1)] at hq
    show slV (setQ s i') a b = slV (setQ (setPl s (i * s.ways + k) p) i') a b
    unfold slV
    rw [hq]
theorem HeldR.setP {w : World} {g : R} {s : St} (h : HeldR w g s) {i k j : Nat} {v : Value} (hi : i < s.sets) (hk : k < s.ways) (hj : j < 4) (p : Pl) (hp : ∀ j', j' < 4 → (if j' = j then v else slV (setQ s i) k j') = slV (fun _ => plS p) 0 j') :
    HeldR (w.setCell ⟨g.row i, k * 4 + j, none⟩ v) g (setPl s (i * s.ways + k) p) := by
  refine h.rows hi hk (fun b hb => heap_setCell_ne _ _ hb) (((h.r i hi).set k j v hk hj).same fun a b ha hb => ?_)
  by_cases e : a = k
  · subst e
    have := hp b hb
    by_cases e2 : b = j
    · subst e2
      rw [if_pos ⟨rfl, rfl⟩, if_pos rfl, ← this, if_pos rfl]
    · rw [if_neg (fun e3 => e2 e3.2), if_pos rfl, ← this, if_neg e2]
  · rw [if_neg (fun e3 => e e3.1), if_neg e]
theorem HeldR.newP {w : World} {g : R} {s : St} (h : HeldR w g s) {i k : Nat} (hi : i < s.sets) (hk : k < s.ways) (L : BitVec 64) (is wr : Bool) :
    HeldR ((((w.setCell ⟨g.row i, k * 4, none⟩ (.int .u64 (U L))).setCell ⟨g.row i, k * 4 + 1, none⟩ (.bool is)).setCell ⟨g.row i, k * 4 + 2, none⟩ (.bool wr)).setCell ⟨g.row i, k * 4 + 3, none⟩ (.int .i64 0)) g (setPl s (i * s.ways + k) ⟨L, is, wr⟩) := by
  refine h.rows hi hk (fun b hb => by rw [heap_setCell_ne _ _ hb, heap_setCell_ne _ _ hb, heap_setCell_ne _ _ hb, heap_setCell_ne _ _ hb]) (((((((h.r i hi).set k 0 _ hk (by decide)).set k 1 _ hk (by decide)).set k 2 _ hk (by decide)).set k 3 _ hk (by decide)).same fun a b ha hb => ?_))
  by_cases e : a = k
  · subst e
    rcases (by omega : b = 0 ∨ b = 1 ∨ b = 2 ∨ b = 3) with rfl | rfl | rfl | rfl <;> simp [slV, plS]
  · rw [if_neg (fun e2 => e e2.1), if_neg (fun e2 => e e2.1), if_neg (fun e2 => e e2.1), if_neg (fun e2 => e e2.1), if_neg e]
theorem HeldR.written {w : World} {g : R} {s : St} (h : HeldR w g s) {i k : Nat} (hi : i < s.sets) (hk : k < s.ways) (b : Bool) : HeldR (w.setCell ⟨g.row i, k * 4 + 2, none⟩ (.bool b)) g (setPl s (i * s.ways + k) { s.pl (i * s.ways + k) with written := b }) := by
  refine h.setP hi hk (by decide) _ (fun j' hj => ?_)
  rcases (by omega : j' = 0 ∨ j' = 1 ∨ j' = 2 ∨ j' = 3) with rfl | rfl | rfl | rfl <;> rfl
theorem HeldR.slots {w w' : World} {g : R} {s : St} {n : Nat} {p : Sl} (h : HeldR w g s) (ho : ∀ b, b ≠ g.s → w'.heap[b]? = w.heap[b]?)
    (hr : Row w' g.s 76 4 s.ns (fun i' j' => if i' = n then slV (fun _ => p) 0 j' else slV s.sl i' j')) : HeldR w' g (setSl s n p) := by
  refine ⟨h.ap, (ho _ h.ap.cs).trans h.c, h.a.kept (ho _ h.ap.as_), fun i hi => (h.r i hi).kept (ho _ (fun e => h.ap.sr i hi e.symm)), hr.same fun a b ha hb => ?_⟩
  by_cases e : a = n
  · subst e; simp only [setSl, slV, if_true]
  · rw [if_neg e]; simp only [setSl, slV, if_neg e]
theorem HeldR.setS {w : World} {g : R} {s : St} (h : HeldR w g s) {n j : Nat} {v : Value} (hn : n < s.ns) (hj : j < 4) (p : Sl) (hp : ∀ j', j' < 4 → (if j' = j then v else slV s.sl n j') = slV (fun _ => p) 0 j') :
    HeldR (w.setCell ⟨g.s, n * 4 + j, none⟩ v) g (setSl s n p) := by
  refine h.slots (fun b hb => heap_setCell_ne _ _ hb) ((h.s.set n j v hn hj).same fun a b ha hb => ?_)
  by_cases e : a = n
  · subst e
    have := hp b hb
    by_cases e2 : b = j
    · subst e2
      rw [if_pos ⟨rfl, rfl⟩, if_pos rfl, ← this, if_pos rfl]
    · rw [if_neg (fun e3 => e2 e3.2), if_pos rfl, ← this, if_neg e2]
  · rw [if_neg (fun e3 => e e3.1), if_neg e]
theorem HeldR.write {w : World} {g : R} {s : St} (h : HeldR w g s) {n : Nat} (hn : n < s.ns) (b : Bool) : HeldR (w.setCell ⟨g.s, n * 4 + 2, none⟩ (.bool b)) g (setSl s n { s.sl n with write := b }) := by
  refine h.setS hn (by decide) _ (fun j' hj => ?_)
  rcases (by omega : j' = 0 ∨ j' = 1 ∨ j' = 2 ∨ j' = 3) with rfl | rfl | rfl | rfl <;> rfl
theorem HeldR.left {w : World} {g : R} {s : St} (h : HeldR w g s) {n : Nat} (hn : n < s.ns) (m : Nat) : HeldR (w.setCell ⟨g.s, n * 4 + 3, none⟩ (.int .i64 (m : Nat))) g (setSl s n { s.sl n with left := m }) := by
  refine h.setS hn (by decide) _ (fun j' hj => ?_)
  rcases (by omega : j' = 0 ∨ j' = 1 ∨ j' = 2 ∨ j' = 3) with rfl | rfl | rfl | rfl <;> rfl
theorem HeldR.newS {w : World} {g : R} {s : St} (h : HeldR w g s) {n : Nat} (hn : n < s.ns) (L : BitVec 64) (is wr : Bool) (left : Nat) :
    HeldR ((((w.setCell ⟨g.s, n * 4, none⟩ (.int .u64 (U L))).setCell ⟨g.s, n * 4 + 1, none⟩ (.bool is)).setCell ⟨g.s, n * 4 + 2, none⟩ (.bool wr)).setCell ⟨g.s, n * 4 + 3, none⟩ (.int .i64 (left : Nat))) g (setSl s n ⟨L, is, wr, left⟩) := by
  refine h.slots (fun b hb => by rw [heap_setCell_ne _ _ hb, heap_setCell_ne _ _ hb, heap_setCell_ne _ _ hb, heap_setCell_ne _ _ hb]) ((((((h.s.set n 0 _ hn (by decide)).set n 1 _ hn (by decide)).set n 2 _ hn (by decide)).set n 3 _ hn (by decide)).same fun a b ha hb => ?_))
  by_cases e : a = n
  · subst e
    rcases (by omega : b = 0 ∨ b = 1 ∨ b = 2 ∨ b = 3) with rfl | rfl | rfl | rfl <;> simp [slV]
  · rw [if_neg (fun e2 => e e2.1), if_neg (fun e2 => e e2.1), if_neg (fun e2 => e e2.1), if_neg (fun e2 => e e2.1), if_neg e]
theorem HeldR.setSeed {w : World} {g : R} {s : St} (h : HeldR w g s) (x : BitVec 64) : HeldR (w.setCell ⟨g.c, 3, none⟩ (.int .u64 (U x))) g (seeded s x) :=
  ⟨h.ap, heap_setCell_same _ _ _ _ _ _ h.c, h.a.kept (heap_setCell_ne _ _ h.ap.ca.symm), fun i hi => (h.r i hi).kept (heap_setCell_ne _ _ (h.ap.cr i hi).symm), h.s.kept (heap_setCell_ne _ _ h.ap.cs.symm)⟩
theorem ask_yes {s : St} {L : BitVec 64} {n : Nat} (h : s.wh L = some n) (wr : Bool) : askS s L wr = (setPl s n { s.pl n with written := (s.pl n).written || wr }, 1) := by unfold askS; rw [h]
theorem ask_slot {s : St} {L : BitVec 64} {i : Nat} (h : s.wh L = none) (hf : findS s L 0 s.ns = some i) (wr : Bool) : askS s L wr = (setSl s i { s.sl i with write := (s.sl i).write || wr }, 2) := by unfold askS; rw [h]; simp only []; rw [hf]
theorem ask_free {s : St} {L : BitVec 64} {i : Nat} (h : s.wh L = none) (hf : findS s L 0 s.ns = none) (he : freeS s 0 s.ns = some i) (wr : Bool) : askS s L wr = (setSl s i ⟨L, true, wr, s.delay⟩, 2) := by unfold askS; rw [h]; simp only []; rw [hf]; simp only []; rw [he]
theorem ask_no {s : St} {L : BitVec 64} (h : s.wh L = none) (hf : findS s L 0 s.ns = none) (he : freeS s 0 s.ns = none) (wr : Bool) : askS s L wr = (s, 3) := by unfold askS; rw [h]; simp only []; rw [hf]; simp only []; rw [he]

set_option maxRecDepth 100000 in
set_option maxHeartbeats 4000000 in
theorem AskR_any (w : World) (g : R) (s : St) (x : BitVec 64) (wr' : Bool) (h : HeldR w g s) (hc : Co s) :
    Calls Try.prog 12 #[.pointer (some ⟨g.c, 0, none⟩), .int .u64 (U x), .bool wr'] w fun e w' =>
      e = .returned (.int .i64 (askS s (x / 64#64) wr').2) ∧ HeldR w' g (askS s (x / 64#64) wr').1 ∧ Kept (g.own s.sets) w w' := by
  have hw8 := hc.ok.ways.2
  have hn8 := hc.ok.ns.2
  go_enter Try.func12, Try.ntmps12
  go_wp2_with fail
  go_at_call 27
  refine (Set_any w g s _ h hc.ok).mono ?_
  rintro e w1 ⟨rfl, k1⟩
  have h1 := h.still k1
  have hi := set_lt hc.ok (x / 64#64)
  have hrow := h1.r _ hi
  generalize hL : x / 64#64 = L at *
  have hfy := hide (fun (n : Nat) (hn : s.wh L = some n) => find_yes hc hn)
  have hfn := hide (fun (hn : s.wh L = none) => find_no hc hn)
  generalize (L % s.m).toNat = i at hi hrow hfy hfn ⊢
  have H1 := h1
  have hK1 : ∀ b v j, g.own s.sets b → Kept (g.own s.sets) w (w1.setCell ⟨b, j, none⟩ v) := fun b v j hb => (k1.mono (fun _ e => e.elim)).setCell _ _ (.inl hb)
  replace hK1 := hide hK1
  clear h
  replace hL := hide hL
  unfold aR
  go_wp2_with fail
  go_at_call 28
  refine (Find_any w1 _ _ _ _ _ L hrow hw8).mono ?_
  rintro e w' ⟨rfl, rfl⟩
  cases hwh : s.wh L with
  | some n =>
    obtain ⟨j, hj, rfl, hf⟩ := hfy.out n hwh
    rw [hf]
    have hb : 0 ≤ (j : Int) := by omega
    have hb2 : (j : Int) < (s.ways : Int) := by omega
    have d2 := hrow.cell j 2 hj (by decide)
    have dz := hrow.frozen
    simp only [slV] at d2
    have hans : askS s L wr' = (setPl s (i * s.ways + j) { s.pl (i * s.ways + j) with written := (s.pl (i * s.ways + j)).written || wr' }, 1) := by simp only [askS, hwh]
    have hw := fun b => H1.written hi hj b
    have hK : ∀ v, Kept (g.own s.sets) w (w1.setCell ⟨g.row i, j * 4 + 2, none⟩ v) := fun v => hK1.out _ _ _ (.inr (.inr (.inr ⟨i, hi, rfl⟩)))
    replace hans := hide hans
    clear hfy hfn hrow hf hwh hK1
    unfold optV
    have d3 : w1.cell? ⟨g.row i, j * 4 + 2, none⟩ = some (.bool (s.pl (i * s.ways + j)).written) := d2
    clear d2
    cases hwr : (s.pl (i * s.ways + j)).written
    all_goals
      rw [hwr] at d3
      go_wp2
      go_ret
      rw [hL.out, hans.out, hwr]
      exact ⟨rfl, hw _, hK _⟩
  | none =>
    rw [hfn.out hwh]
    have hrs := H1.s
    have c1 := H1.cf.c1
    replace hwh := hide hwh
    clear hfy hfn hrow hi
    unfold optV
    go_wp2_with fail
    go_at_call 28
    refine (Find_any w1 _ _ _ _ _ L hrs hn8).mono ?_
    rw [findQ_slots]
    rintro e w' ⟨rfl, rfl⟩
    cases hf : findS s L 0 s.ns with
    | some j =>
      obtain ⟨-, hj, -, -⟩ := find_some _ _ _ hf
      replace hj : j < s.ns := by omega
      have hb : 0 ≤ (j : Int) := by omega
      have hb2 : (j : Int) < (s.ns : Int) := by omega
      have d3 : w1.cell? ⟨g.s, j * 4 + 2, none⟩ = some (.bool (s.sl j).write) := hrs.cell j 2 hj (by decide)
      have dz := hrs.frozen
      have hans := hide (ask_slot hwh.out hf wr')
      have hw := fun b => H1.write hj b
      have hK : ∀ v, Kept (g.own s.sets) w (w1.setCell ⟨g.s, j * 4 + 2, none⟩ v) := fun v => hK1.out _ _ _ (.inr (.inr (.inl rfl)))
      clear hf hrs hK1
      unfold optV
      cases hwr : (s.sl j).write
      all_goals
        rw [hwr] at d3
        go_wp2
        go_region
        all_goals
          go_wp2
          go_ret
          rw [hL.out, hans.out, hwr]
          exact ⟨rfl, (hw _).drew, (hK _).drew⟩
    | none =>
      unfold optV
      replace hf := hide hf
      go_wp2_with fail
      go_at_call 29
      refine (Empty_any w1 _ _ _ _ _ hrs hn8).mono ?_
      rw [freeQ_slots]
      rintro e w' ⟨rfl, rfl⟩
      cases he : freeS s 0 s.ns with
      | none =>
        have hans := hide (ask_no hwh.out hf.out he wr')
        unfold optV
        clear he hrs c1
        go_wp2
        go_ret
        rw [hL.out, hans.out]
        exact ⟨rfl, H1, k1.mono (fun _ e => e.elim)⟩
      | some j =>
        obtain ⟨-, hj, -⟩ := free_some _ _ _ he
        replace hj : j < s.ns := by omega
        have hb : 0 ≤ (j : Int) := by omega
        have hb2 : (j : Int) < (s.ns : Int) := by omega
        have d0 := hrs.cell j 0 hj (by decide)
        have d1 := hrs.cell j 1 hj (by decide)
        have d2 := hrs.cell j 2 hj (by decide)
        have d3 := hrs.cell j 3 hj (by decide)
        simp only [slV, Nat.add_zero] at d0 d1 d2 d3
        have dz := hrs.frozen
        have c2 := H1.cf.c2
        have hans := hide (ask_free hwh.out hf.out he wr')
        have hw := H1.newS hj L true wr' s.delay
        have hK : Kept (g.own s.sets) w ((((w1.setCell ⟨g.s, j * 4, none⟩ (.int .u64 (U L))).setCell ⟨g.s, j * 4 + 1, none⟩ (.bool true)).setCell ⟨g.s, j * 4 + 2, none⟩ (.bool wr')).setCell ⟨g.s, j * 4 + 3, none⟩ (.int .i64 (s.delay : Nat))) :=
          ((((k1.mono (fun _ e => e.elim)).setCell _ _ (.inl (.inr (.inr (.inl rfl))))).setCell _ _ (.inl (.inr (.inr (.inl rfl))))).setCell _ _ (.inl (.inr (.inr (.inl rfl))))).setCell _ _ (.inl (.inr (.inr (.inl rfl))))
        unfold optV
        clear he hrs hK1
        have hc1 := H1.drew.cf.c1
        have hc2 := H1.drew.cf.c2
        have hc3 := hw.drew.cf.c1
        have hc4 : _ = some (Value.int .i64 (s.delay : Nat)) := hw.drew.cf.c2
        replace hw := hide hw
        replace hK := hide hK
        go_wp2
        go_region_held3 (fun w' => w'.cell? ⟨g.c, 1, none⟩ = some (.slice (some ⟨g.s, 0, none⟩) s.ns g.ks) ∧ w'.cell? ⟨g.c, 2, none⟩ = some (.int .i64 (s.delay : Nat)))
          (first | assumption | exact ⟨hc1, hc2⟩ | exact ⟨hc3, hc4⟩)
          (fail)
        all_goals
          clear hc1 hc2 hc3 hc4
          go_wp2
          go_ret
          rw [hL.out, hans.out]
          exact ⟨rfl, hw.out.drew, hK.out.drew⟩
end Go.Proofs.Ytpflodhnniochaa
