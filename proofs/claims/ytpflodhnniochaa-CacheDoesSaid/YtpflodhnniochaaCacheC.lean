/-
  Walks: key; Ask.
-/
import Derived.Test.YtpflodhnniochaaCacheB
namespace Go.Proofs.Ytpflodhnniochaa
set_option linter.unusedVariables false
open Go.RowKit Go.Maps

theorem m_ne {s : St} (h : Ok s) : ¬ U (BitVec.ofNat 64 s.sets) = 0 := by
  have h1 := h.sets_le
  unfold U
  rw [BitVec.toNat_ofNat, Nat.mod_eq_of_lt (by omega)]
  omega
theorem key_any (w : World) (g : G) (s : St) (L : BitVec 64) (h : Held w g s) :
    Calls Try.prog 26 #[.pointer (some ⟨g.c, 0, none⟩), .int .u64 (U L)] w fun e w' => e = .returned (kv s.m L) ∧ Still w w' := by
  have hlt := h.lt (.inl rfl)
  have hz := m_ne h.ok
  have c0 := h.cf.c0
  go_enter Try.func26, Try.ntmps26
  go_wp2
  (try simp only [Exit.inBlock, Exit.then])
  exact bodyPost_ret (results_cell_row rfl _ _ w.heap.size _ _ (0, 0) _ rfl (heap_alloc_new _ _) Try.underlying66 rfl (by kernel_rfl)) rfl ⟨rfl, (Kept.refl _ w).alloc _⟩

/-! What Ask does. -/
/-- The first slot from i on that holds the line. -/
def findS (s : St) (L : BitVec 64) : Nat → Nat → Option Nat
  | _, 0 => none
  | i, k + 1 => if (s.sl i).is = true ∧ (s.sl i).line = L then some i else findS s L (i + 1) k
/-- The first free slot from i on. -/
def freeS (s : St) : Nat → Nat → Option Nat
  | _, 0 => none
  | i, k + 1 => if (s.sl i).is = false then some i else freeS s (i + 1) k
def setPl (s : St) (i : Nat) (p : Pl) : St := { s with pl := fun j => if j = i then p else s.pl j }
def setSl (s : St) (i : Nat) (p : Sl) : St := { s with sl := fun j => if j = i then p else s.sl j }
/-- Ask for a line. -/
def askS (s : St) (L : BitVec 64) (wr : Bool) : St × Int :=
  match s.wh L with
  | some n => (setPl s n { s.pl n with written := (s.pl n).written || wr }, 1)
  | none =>
    match findS s L 0 s.ns with
    | some i => (setSl s i { s.sl i with write := (s.sl i).write || wr }, 2)
    | none =>
      match freeS s 0 s.ns with
      | some i => (setSl s i ⟨L, true, wr, s.delay⟩, 2)
      | none => (s, 3)

/-! A cell that is written. -/
theorem Held.setA {w : World} {g : G} {s : St} (h : Held w g s) {n j : Nat} {v : Value} (hn : n < s.n) (hj : j < 3) (p : Pl) (hp : ∀ j', j' < 3 → (if j' = j then v else plV s.pl n j') = plV (fun _ => p) 0 j')
    (hok : Ok (setPl s n p)) : Held (w.setCell ⟨g.a, n * 3 + j, none⟩ v) g (setPl s n p) := by
  refine ⟨hok, h.ap, ?_, ?_, ?_, ?_⟩
  · exact (heap_setCell_ne _ _ h.ap.ca).trans h.c
  · refine (h.a.set n j v hn hj).same fun i' j' hi hj' => ?_
    by_cases e : i' = n
    · subst e
      have := hp j' hj'
      rw [show (plV (setPl s i' p).pl i' j') = plV (fun _ => p) 0 j' by simp only [setPl, plV, if_true], ← this]
      by_cases e2 : j' = j <;> simp [e2]
    · rw [if_neg (fun e2 => e e2.1)]
      simp only [setPl, plV, if_neg e]
  · exact h.m.kept (heap_setCell_ne _ _ h.ap.am.symm)
  · exact h.s.kept (heap_setCell_ne _ _ h.ap.as_.symm)
theorem Held.setS {w : World} {g : G} {s : St} (h : Held w g s) {n j : Nat} {v : Value} (hn : n < s.ns) (hj : j < 4) (p : Sl) (hp : ∀ j', j' < 4 → (if j' = j then v else slV s.sl n j') = slV (fun _ => p) 0 j')
    (hok : Ok (setSl s n p)) : Held (w.setCell ⟨g.s, n * 4 + j, none⟩ v) g (setSl s n p) := by
  refine ⟨hok, h.ap, ?_, ?_, ?_, ?_⟩
  · exact (heap_setCell_ne _ _ h.ap.cs).trans h.c
  · exact h.a.kept (heap_setCell_ne _ _ h.ap.as_)
  · exact h.m.kept (heap_setCell_ne _ _ h.ap.ms)
  · refine (h.s.set n j v hn hj).same fun i' j' hi hj' => ?_
    by_cases e : i' = n
    · subst e
      have := hp j' hj'
      rw [show (slV (setSl s i' p).sl i' j') = slV (fun _ => p) 0 j' by simp only [setSl, slV, if_true], ← this]
      by_cases e2 : j' = j <;> simp [e2]
    · rw [if_neg (fun e2 => e e2.1)]
      simp only [setSl, slV, if_neg e]
theorem ok_setPl {s : St} (h : Ok s) (n : Nat) (p : Pl) (hp : ∀ L, s.wh L = some n → p.is = true ∧ p.line = L) : Ok (setPl s n p) := by
  refine ⟨h.sets, h.ways, h.ns, h.delay, fun L m e => ⟨(h.wh L m e).1, ?_⟩, h.sl⟩
  by_cases e1 : m = n
  · subst e1; simpa [setPl] using hp L e
  · simpa [setPl, e1] using (h.wh L m e).2
theorem ok_setSl {s : St} (h : Ok s) (n : Nat) (p : Sl) (hp : p.is = true → p.left ≤ s.delay) : Ok (setSl s n p) := by
  refine ⟨h.sets, h.ways, h.ns, h.delay, h.wh, fun i hi e => ?_⟩
  by_cases e1 : i = n
  · subst e1; simp only [setSl, if_true] at e ⊢; exact hp e
  · simp only [setSl, if_neg e1] at e ⊢; exact h.sl i hi e
theorem Held.written {w : World} {g : G} {s : St} (h : Held w g s) {n : Nat} {L : BitVec 64} (hn : s.wh L = some n) (b : Bool) : Held (w.setCell ⟨g.a, n * 3 + 2, none⟩ (.bool b)) g (setPl s n { s.pl n with written := b }) := by
  obtain ⟨h1, h2, h3⟩ := h.ok.wh _ _ hn
  refine h.setA h1 (by decide) _ (fun j' hj => ?_) (ok_setPl h.ok _ _ fun L' e => ⟨h2, (h.ok.wh _ _ e).2.2⟩)
  rcases (by omega : j' = 0 ∨ j' = 1 ∨ j' = 2) with rfl | rfl | rfl <;> rfl
theorem Held.write {w : World} {g : G} {s : St} (h : Held w g s) {n : Nat} (hn : n < s.ns) (b : Bool) : Held (w.setCell ⟨g.s, n * 4 + 2, none⟩ (.bool b)) g (setSl s n { s.sl n with write := b }) := by
  refine h.setS hn (by decide) _ (fun j' hj => ?_) (ok_setSl h.ok _ _ fun e => h.ok.sl n hn e)
  rcases (by omega : j' = 0 ∨ j' = 1 ∨ j' = 2 ∨ j' = 3) with rfl | rfl | rfl | rfl <;> rfl

theorem Held.newS {w : World} {g : G} {s : St} (h : Held w g s) {n : Nat} (hn : n < s.ns) (L : BitVec 64) (is wr : Bool) (left : Nat) (hl : is = true → left ≤ s.delay) :
    Held ((((w.setCell ⟨g.s, n * 4, none⟩ (.int .u64 (U L))).setCell ⟨g.s, n * 4 + 1, none⟩ (.bool is)).setCell ⟨g.s, n * 4 + 2, none⟩ (.bool wr)).setCell ⟨g.s, n * 4 + 3, none⟩ (.int .i64 (left : Nat))) g (setSl s n ⟨L, is, wr, left⟩) := by
  have hne : ∀ b, b ≠ g.s → ((((w.setCell ⟨g.s, n * 4, none⟩ (.int .u64 (U L))).setCell ⟨g.s, n * 4 + 1, none⟩ (.bool is)).setCell ⟨g.s, n * 4 + 2, none⟩ (.bool wr)).setCell ⟨g.s, n * 4 + 3, none⟩ (.int .i64 (left : Nat))).heap[b]? = w.heap[b]? := fun b hb => by
    rw [heap_setCell_ne _ _ hb, heap_setCell_ne _ _ hb, heap_setCell_ne _ _ hb, heap_setCell_ne _ _ hb]
  refine ⟨ok_setSl h.ok _ _ hl, h.ap, (hne _ h.ap.cs).trans h.c, h.a.kept (hne _ h.ap.as_), h.m.kept (hne _ h.ap.ms), ?_⟩
  refine ((((h.s.set n 0 _ hn (by decide)).set n 1 _ hn (by decide)).set n 2 _ hn (by decide)).set n 3 _ hn (by decide)).same fun i' j' hi hj => ?_
  by_cases e : i' = n
  · subst e
    rcases (by omega : j' = 0 ∨ j' = 1 ∨ j' = 2 ∨ j' = 3) with rfl | rfl | rfl | rfl <;> simp [setSl, slV]
  · rw [if_neg (fun e2 => e e2.1), if_neg (fun e2 => e e2.1), if_neg (fun e2 => e e2.1), if_neg (fun e2 => e e2.1)]
    simp only [setSl, slV, if_neg e]
theorem Held.newA {w : World} {g : G} {s : St} (h : Held w g s) {n : Nat} (hn : n < s.n) (L : BitVec 64) (is wr : Bool) (hok : Ok (setPl s n ⟨L, is, wr⟩)) :
    Held (((w.setCell ⟨g.a, n * 3, none⟩ (.int .u64 (U L))).setCell ⟨g.a, n * 3 + 1, none⟩ (.bool is)).setCell ⟨g.a, n * 3 + 2, none⟩ (.bool wr)) g (setPl s n ⟨L, is, wr⟩) := by
  have hne : ∀ b, b ≠ g.a → (((w.setCell ⟨g.a, n * 3, none⟩ (.int .u64 (U L))).setCell ⟨g.a, n * 3 + 1, none⟩ (.bool is)).setCell ⟨g.a, n * 3 + 2, none⟩ (.bool wr)).heap[b]? = w.heap[b]? := fun b hb => by
    rw [heap_setCell_ne _ _ hb, heap_setCell_ne _ _ hb, heap_setCell_ne _ _ hb]
  refine ⟨hok, h.ap, (hne _ h.ap.ca).trans h.c, ?_, h.m.kept (hne _ h.ap.am.symm), h.s.kept (hne _ h.ap.as_.symm)⟩
  refine (((h.a.set n 0 _ hn (by decide)).set n 1 _ hn (by decide)).set n 2 _ hn (by decide)).same fun i' j' hi hj => ?_
  by_cases e : i' = n
  · subst e
    rcases (by omega : j' = 0 ∨ j' = 1 ∨ j' = 2) with rfl | rfl | rfl <;> simp [setPl, plV]
  · rw [if_neg (fun e2 => e e2.1), if_neg (fun e2 => e e2.1), if_neg (fun e2 => e e2.1)]
    simp only [setPl, plV, if_neg e]

/-- The cache is as it was; the map's answer. -/
def Same (g : G) (s : St) (w w' : World) : Prop := Still w w' ∧ Held w' g s
theorem Same.start {g : G} {s : St} {w : World} (h : Held w g s) : Same g s w w.drew := ⟨(Kept.refl _ w).drew, h.drew⟩
theorem Same.more {g : G} {s : St} {w w1 w2 : World} (h : Same g s w w1) (k : Still w1 w2) : Same g s w w2 := ⟨h.1.trans k, h.2.still k⟩
theorem Same.look {g : G} {s : St} {w w' : World} (h : Same g s w w') (L : BitVec 64) : Same g s w w' ∧ w'.cell? ⟨g.c, 5, none⟩ = some (.map (some g.m)) ∧
    (Instr.lookup 56 (.map (some g.m)) (kv s.m L) true).run Try.prog w' = .ok (.tuple #[.int .i64 (((s.wh L).getD 0 : Nat) : Int), .bool (s.wh L).isSome]) w' :=
  ⟨h, h.2.cf.c5, h.2.m.look L⟩

theorem wrap_succ' {k n : Nat} (h : k < n) (hn : n ≤ 8) : wrap64 ((k : Int) + 1) = k + 1 := by
  unfold wrap64
  omega
theorem meas_succ' {k n : Nat} (h : k < n) (hw : wrap64 ((k : Int) + 1) = k + 1) : n - (intOf (Value.int .i64 (wrap64 ((k : Int) + 1)))).toNat < n - (intOf (Value.int .i64 (k : Int))).toNat := by
  rw [hw]
  show n - ((k : Int) + 1).toNat < n - (k : Int).toNat
  clear hw
  omega

set_option maxRecDepth 100000 in
set_option maxHeartbeats 2000000 in
theorem Ask_any (w : World) (g : G) (s : St) (x : BitVec 64) (wr' : Bool) (h : Held w g s) :
    Calls Try.prog 11 #[.pointer (some ⟨g.c, 0, none⟩), .int .u64 (U x), .bool wr'] w fun e w' =>
      e = .returned (.int .i64 (askS s (x / 64#64) wr').2) ∧ Held w' g (askS s (x / 64#64) wr').1 ∧ Kept g.own w w' := by
  have hlt := h.lt (.inl rfl)
  go_enter Try.func11, Try.ntmps11
  go_wp2_with fail
  go_region_held3 (fun w' => Same g s w w' ∧ w'.cell? ⟨g.c, 5, none⟩ = some (.map (some g.m)) ∧ (Instr.lookup 56 (.map (some g.m)) (kv s.m (x / 64#64)) true).run Try.prog w' = .ok (.tuple #[.int .i64 (((s.wh (x / 64#64)).getD 0 : Nat) : Int), .bool (s.wh (x / 64#64)).isSome]) w')
    (first | assumption | exact (Same.start h).look _ | exact (Same.more (And.left (by assumption)) hm).look _)
    (first
    | (go_at_call 26; refine (key_any _ g s _ (And.left (a := Same g s w _) (by assumption)).2).mono ?_; rintro e w' ⟨rfl, hm⟩))
  obtain ⟨hst, hh⟩ := And.left (a := Same g s w _) (by assumption)
  rename_i hall
  clear hall
  cases hwh : s.wh (x / 64#64) with
  | some n =>
    obtain ⟨hn1, hn2, hn3⟩ := h.ok.wh _ _ hwh
    have c4 := hh.cf.c4
    have d0 : ∀ o, w'.frozen? ⟨g.a, o, none⟩ = false := hh.a.frozen
    have d2 := hh.a.cell n 2 hn1 (by decide)
    simp only [plV] at d2
    have hb : ¬ ((n : Nat) : Int) < 0 := by omega
    have hb2 : ((n : Nat) : Int) < (s.n : Nat) := by omega
    have hk : ∀ v, Kept g.own w ((w'.setCell ⟨g.a, n * 3 + 2, none⟩ v).drew) := fun v => ((hst.mono (fun _ e => e.elim)).setCell _ _ (.inl (.inr (.inl rfl)))).drew
    have hw := fun b => (hh.written hwh b).drew
    have hans : askS s (x / 64#64) wr' = (setPl s n { s.pl n with written := (s.pl n).written || wr' }, 1) := by simp only [askS, hwh]
    have hans := hide hans
    cases hwr : (s.pl n).written with
    | true =>
      rw [hwr] at d2
      go_wp2
      go_region
      all_goals
        go_wp2
        go_ret
        have hans := hans.out
        rw [hwr] at hans
        rw [hans]
        exact ⟨rfl, hw _, hk _⟩
    | false =>
      rw [hwr] at d2
      go_wp2
      go_region
      all_goals
        go_wp2
        go_ret
        have hans := hans.out
        rw [hwr] at hans
        rw [hans]
        exact ⟨rfl, hw _, hk _⟩
  | none =>
    have c6 := hh.cf.c6
    go_wp2
    go_loopw [50] (fun iv wr => ∃ k : Nat, k ≤ s.ns ∧ iv = .int .i64 k ∧ wr = w' ∧ findS s (x / 64#64) 0 s.ns = findS s (x / 64#64) k (s.ns - k)) (fun iv _ => s.ns - (intOf iv).toNat)
    case atStart => exact ⟨0, Nat.zero_le _, rfl, rfl, rfl⟩
    case round =>
      obtain ⟨k, hk, rfl, rfl, hf⟩ := hrel
      have hf := hide hf
      by_cases hlt : k < s.ns
      · have hw1 := wrap_succ' hlt h.ok.ns.2
        have e0 := hh.s.cell k 0 hlt (by decide)
        have e1 := hh.s.cell k 1 hlt (by decide)
        have e2 := hh.s.cell k 2 hlt (by decide)
        have e9 := hh.s.frozen (k * 4 + 2)
        simp only [slV, Nat.add_zero] at e0 e1 e2
        have hb : 0 ≤ (k : Int) := by omega
        have hb2 : ((k : Nat) : Int) < (s.ns : Nat) := by omega
        by_cases his : (s.sl k).is = true ∧ (s.sl k).line = x / 64#64
        · obtain ⟨i1, i2⟩ := his
          have hans : Hid (askS s (x / 64#64) wr' = (setSl s k { s.sl k with write := (s.sl k).write || wr' }, 2)) := hide (by
            have e : findS s (x / 64#64) k (s.ns - k) = some k := by
              rw [show s.ns - k = (s.ns - k - 1) + 1 by omega, findS, if_pos ⟨i1, i2⟩]
            simp only [askS, hwh, hf.out, e])
          have hw := fun b => hh.write hlt b
          have hk2 : ∀ v, Kept g.own w (wr.setCell ⟨g.s, k * 4 + 2, none⟩ v) := fun v => (hst.mono (fun _ e => e.elim)).setCell _ _ (.inl (.inr (.inr (.inr rfl))))
          rw [i1] at e1
          rw [i2] at e0
          cases hwr : (s.sl k).write <;> rw [hwr] at e2
          all_goals
            go_wp2
            go_ret
            have hans := hans.out
            rw [hwr] at hans
            rw [hans]
            exact ⟨rfl, hw _, hk2 _⟩
        · have hf2 : Hid (findS s (x / 64#64) 0 s.ns = findS s (x / 64#64) (k + 1) (s.ns - (k + 1))) := hide (by
            rw [hf.out, show s.ns - k = (s.ns - (k + 1)) + 1 by omega, findS, if_neg his])
          have hms := meas_succ' hlt hw1
          cases i1 : (s.sl k).is with
          | false =>
            rw [i1] at e1
            go_wp2
            go_roundw
            case rel => exact ⟨k + 1, by omega, by simp [hw1], trivial, hf2.out⟩
            case measure => exact hms
          | true =>
            have i2 : ¬ U (s.sl k).line = U (x / 64#64) := fun e => his ⟨i1, U_inj.1 e⟩
            have i3 : (U (s.sl k).line == U (x / 64#64)) = false := by simpa using i2
            rw [i1] at e1
            go_wp2
            go_roundw
            case rel => exact ⟨k + 1, by omega, by simp [hw1], trivial, hf2.out⟩
            case measure => exact hms
      · obtain rfl : k = s.ns := by omega
        have hf2 : Hid (findS s (x / 64#64) 0 s.ns = none) := hide (by rw [hf.out, Nat.sub_self, findS])
        clear hf
        go_wp2
        go_loopw [87] (fun iv wq => ∃ k : Nat, k ≤ s.ns ∧ iv = .int .i64 k ∧ wq = wr ∧ freeS s 0 s.ns = freeS s k (s.ns - k)) (fun iv _ => s.ns - (intOf iv).toNat)
        case atStart => exact ⟨0, Nat.zero_le _, rfl, rfl, rfl⟩
        case round =>
          obtain ⟨k, hk, rfl, rfl, hf⟩ := hrel
          have hf := hide hf
          by_cases hlt : k < s.ns
          · have hw1 := wrap_succ' hlt h.ok.ns.2
            have e0 := hh.s.cell k 0 hlt (by decide)
            have e1 := hh.s.cell k 1 hlt (by decide)
            have e2 := hh.s.cell k 2 hlt (by decide)
            have e3 := hh.s.cell k 3 hlt (by decide)
            have e9 := hh.s.frozen
            have c2 := hh.cf.c2
            simp only [slV, Nat.add_zero] at e0 e1 e2 e3
            have hb : 0 ≤ (k : Int) := by omega
            have hb2 : ((k : Nat) : Int) < (s.ns : Nat) := by omega
            cases i1 : (s.sl k).is with
            | false =>
              rw [i1] at e1
              have hans : Hid (askS s (x / 64#64) wr' = (setSl s k ⟨x / 64#64, true, wr', s.delay⟩, 2)) := hide (by
                have e : freeS s 0 s.ns = some k := by rw [hf.out, show s.ns - k = (s.ns - k - 1) + 1 by omega, freeS, if_pos i1]
                simp only [askS, hwh, hf2.out, e])
              have hw := (hh.newS hlt (x / 64#64) true wr' s.delay (fun _ => Nat.le_refl _)).drew
              have hst2 := ((((hst.mono (T := g.own) (fun _ e => e.elim)).setCell ⟨g.s, k * 4, none⟩ (.int .u64 (U (x / 64#64))) (.inl (.inr (.inr (.inr rfl))))).setCell ⟨g.s, k * 4 + 1, none⟩ (.bool true) (.inl (.inr (.inr (.inr rfl))))).setCell ⟨g.s, k * 4 + 2, none⟩ (.bool wr') (.inl (.inr (.inr (.inr rfl))))).setCell ⟨g.s, k * 4 + 3, none⟩ (.int .i64 (s.delay : Nat)) (.inl (.inr (.inr (.inr rfl))))
              go_wp2
              go_region
              all_goals
                go_wp2
                go_ret
                rw [hans.out]
                exact ⟨rfl, hw, hst2.drew⟩
            | true =>
              have hf3 : Hid (freeS s 0 s.ns = freeS s (k + 1) (s.ns - (k + 1))) := hide (by
                rw [hf.out, show s.ns - k = (s.ns - (k + 1)) + 1 by omega, freeS, if_neg (by simp [i1])])
              have hms := meas_succ' hlt hw1
              rw [i1] at e1
              go_wp2
              go_roundw
              case rel => exact ⟨k + 1, by omega, by simp [hw1], trivial, hf3.out⟩
              case measure => exact hms
          · obtain rfl : k = s.ns := by omega
            have hans : Hid (askS s (x / 64#64) wr' = (s, 3)) := hide (by
              have e : freeS s 0 s.ns = none := by rw [hf.out, Nat.sub_self, freeS]
              simp only [askS, hwh, hf2.out, e])
            have hk2 : Kept g.own w wr := hst.mono (fun _ e => e.elim)
            clear hf
            go_wp2
            go_ret
            rw [hans.out]
            exact ⟨rfl, hh, hk2⟩
end Go.Proofs.Ytpflodhnniochaa
