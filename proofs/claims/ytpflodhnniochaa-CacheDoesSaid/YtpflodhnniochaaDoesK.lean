/-
  The reference's Copy.
-/
import Derived.Test.YtpflodhnniochaaDoesJ
namespace Go.Proofs.Ytpflodhnniochaa
set_option linter.unusedVariables false
open Go.RowKit Go.Maps

/-- A row's cells, one by one. -/
def lineCells (q : Nat → Sl) (n : Nat) : List Value := (List.range (n * 4)).map fun x => slV q (x / 4) (x % 4)
theorem lineCells_length (q : Nat → Sl) (n : Nat) : (lineCells q n).length = n * 4 := by simp [lineCells]
theorem lineCells_at (q : Nat → Sl) {n i j : Nat} (hi : i < n) (hj : j < 4) : (lineCells q n)[i * 4 + j]? = some (slV q i j) := by
  have h1 : i * 4 + j < n * 4 := by omega
  have h2 : (i * 4 + j) / 4 = i := by omega
  have h3 : (i * 4 + j) % 4 = j := by omega
  simp [lineCells, h1, h2, h3]
theorem lineCells_one (q : Nat → Sl) (n : Nat) : ∀ u ∈ lineCells q n, u.oneCell' = true := by
  intro u hu
  obtain ⟨x, -, rfl⟩ := List.mem_map.1 hu
  have : x % 4 = 0 ∨ x % 4 = 1 ∨ x % 4 = 2 ∨ x % 4 = 3 := by omega
  rcases this with e | e | e | e <;> rw [e] <;> rfl
theorem line_before {W : World} {b n : Nat} {q : Nat → Sl} (h : Row W b 76 4 n (slV q)) :
    (W.alloc (.cells #[] 76)).drew.ownsRow W.heap.size 76 4 (.slice (some ⟨W.heap.size, 0, none⟩) 0 0) 0 [] ∧
    (∀ j u, (lineCells q n)[j]? = some u → (W.alloc (.cells #[] 76)).drew.cell? ((⟨b, 0, none⟩ : Addr).add j) = some u) ∧
    W.heap.size ≤ (W.alloc (.cells #[] 76)).drew.heap.size ∧ (W.alloc (.cells #[] 76)).drew.heap.size = W.heap.size + 1 := by
  refine ⟨World.ownsRow_made W #[] 0 (Nat.le_refl _) (Nat.zero_le _) rfl, fun j u hj => ?_, by simp, by simp⟩
  have hlt : j < n * 4 := by
    rw [← lineCells_length q n]
    exact (List.getElem?_eq_some_iff.1 hj).1
  have hj2 := lineCells_at q (n := n) (i := j / 4) (j := j % 4) (by omega) (by omega)
  rw [show j / 4 * 4 + j % 4 = j by omega, hj] at hj2
  cases hj2
  have := (h.kept (Below.heap_alloc W (.cells #[] 76) b h.lt)).cell (j / 4) (j % 4) (by omega) (by omega)
  rw [show j / 4 * 4 + j % 4 = j by omega] at this
  have e : (⟨b, 0, none⟩ : Addr).add j = ⟨b, j, none⟩ := by unfold Addr.add; split <;> simp_all
  rw [e]
  exact this
theorem line_behind {W w8 : World} {n g8 cap8 : Nat} {q : Nat → Sl} (hn : 0 < n) (ho : w8.ownsRow W.heap.size 76 4 (.slice (some ⟨g8, 0, none⟩) (0 + n) cap8) (0 + n) ([] ++ lineCells q n))
    (hg : (W.alloc (.cells #[] 76)).drew.grownBy w8 (Value.slice (some ⟨W.heap.size, 0, none⟩) 0 0).ownBlock) : Row w8 g8 76 4 n (slV q) ∧ Still W w8 ∧ W.heap.size ≤ g8 ∧ g8 < w8.heap.size := by
  rw [Nat.zero_add, List.nil_append] at ho
  obtain ⟨b, cap, e1, e2, e3⟩ := row_ofR ho hn (fun i j hi hj => lineCells_at q hi hj)
  simp only [Value.slice.injEq, Option.some.injEq, Addr.mk.injEq, true_and, and_true] at e1
  obtain ⟨rfl, rfl⟩ := e1
  exact ⟨e3, (((Kept.refl _ W).alloc _).drew).grown hg (fun p hp => .inr (by cases hp; exact Nat.le_refl _)), e2, e3.lt⟩
theorem HeldR.rs {w : World} {g : R} {s : St} (h : HeldR w g s) : HeldR w g s ∧ w.cell? ⟨g.c, 1, none⟩ = some (.slice (some ⟨g.s, 0, none⟩) s.ns g.ks) ∧ w.cell? ⟨g.c, 2, none⟩ = some (.int .i64 (s.delay : Nat)) ∧ w.cell? ⟨g.c, 3, none⟩ = some (.int .u64 (U s.seed)) := ⟨h, h.cf.c1, h.cf.c2, h.cf.c3⟩
set_option maxRecDepth 100000 in
set_option maxHeartbeats 8000000 in
theorem CopyR_any (w : World) (g : R) (s : St) (h : HeldR w g s) (hok : Ok s) :
    Calls Try.prog 24 #[.pointer (some ⟨g.c, 0, none⟩)] w fun e w' =>
      ∃ g' : R, e = .returned (.pointer (some ⟨g'.c, 0, none⟩)) ∧ HeldR w' g' s ∧ Still w w' ∧ ∀ b, g'.own s.sets b → w.heap.size ≤ b := by
  obtain ⟨i0, hi, hz0, hz1, hz2⟩ := info_parts infoRow
  obtain ⟨iL, hiL, hzL0, hzL1, hzL2⟩ := info_parts infoLn
  have hn8 := hok.ns
  have hw8 := hok.ways
  have hs8 := hok.sets_le
  obtain ⟨HO1, HN1, HB1, HS1⟩ := line_before h.s
  have c1 := h.cf.c1
  have c2 := h.cf.c2
  have c3 := h.cf.c3
  have hgc : g.c < w.heap.size := h.lt (.inl rfl)
  have q1 : 0 + s.ns ≤ maxLen := by rw [maxLen_is]; omega
  have q2 : (0 + s.ns) * 24 ≤ 140737488355328 := by omega
  have q4 : 0 < s.ns := hn8.1
  have hlc := lineCells_one s.sl s.ns
  have hll := lineCells_length s.sl s.ns
  replace hlc := hide hlc
  replace hll := hide hll
  replace HS1 := hide HS1
  replace HN1 := hide HN1
  have hst : ∀ w8, World.grownBy (w.alloc (.cells #[] 76)).drew w8 (Value.slice (some ⟨w.heap.size, 0, none⟩) 0 0).ownBlock → Still w w8 := fun w8 hg => (((Kept.refl _ w).alloc _).drew).grown hg (fun p hp => .inr (by cases hp; exact Nat.le_refl _))
  replace hst := hide hst
  have hh := hide h
  go_enter Try.func24, Try.ntmps24
  go_wp2_with fail
  clear c1 c2 c3
  go_region_held3 (fun w' => HeldR w' g s ∧ w'.cell? ⟨g.c, 1, none⟩ = some (.slice (some ⟨g.s, 0, none⟩) s.ns g.ks) ∧ w'.cell? ⟨g.c, 2, none⟩ = some (.int .i64 (s.delay : Nat)) ∧ w'.cell? ⟨g.c, 3, none⟩ = some (.int .u64 (U s.seed)))
   (first | assumption | exact hh.out.drew.rs | exact ((hh.out.alloc _).drew).rs | exact (hh.out.still (hst.out _ hg8)).rs | exact ((hh.out.still (hst.out _ hg8)).alloc _).rs)
   (first
    | (refine step_append_lies _ (by rfl) _ _ 61 (by rfl) w.heap.size 76 iL _ 4 24 Try.underlying61 hiL hzL0 hzL1 hzL2 rfl (by decide) (.slice (some ⟨w.heap.size, 0, none⟩) 0 0) 0 [] (by rfl) HO1 ⟨g.s, 0, none⟩ s.ns g.ks (lineCells s.sl s.ns) (by rfl) hll.out HN1.out hlc.out q4 q1 q2 HB1 _ HS1.out ?_; intro g8 cap8 w8 hown8 hg8 hat8 hlt8))
  all_goals
    obtain ⟨hrow8, k8, hB8, hl8⟩ := line_behind q4 hown8 hg8
    clear hown8 hg8 hat8 hlt8
    have hN0 : NewAt (w8.alloc (.cells #[.slice none 0 0, .slice (some ⟨g8, 0, none⟩) s.ns cap8, .int .i64 (s.delay : Nat), .int .u64 (U s.seed)] 64)) w.heap.size w8.heap.size g8 cap8 s.ns s.delay s.seed s.ways 0 (.slice none 0 0) (fun _ => 0) (fun _ => 0) (setQ s) s.sl :=
      ⟨⟨hB8, k8.size, by omega⟩, heap_alloc_new _ _, hrow8.kept (Below.heap_alloc _ _ _ hl8), World.ownsRow_nil _ _ _ _, ⟨(by intro e; cases e), (by intro e; cases e)⟩, fun j hj => absurd hj (Nat.not_lt_zero _), fun j k hj => absurd hj (Nat.not_lt_zero _)⟩
    have hS0 : Still w (w8.alloc (.cells #[.slice none 0 0, .slice (some ⟨g8, 0, none⟩) s.ns cap8, .int .i64 (s.delay : Nat), .int .u64 (U s.seed)] 64)) := k8.alloc _
    clear HO1 HN1 HB1 HS1 q1 q2 q4 hlc hll hst hrow8 k8 hB8 hl8 hh
    generalize w8.alloc (.cells #[.slice none 0 0, .slice (some ⟨g8, 0, none⟩) s.ns cap8, .int .i64 (s.delay : Nat), .int .u64 (U s.seed)] 64) = w1 at hN0 hS0 ⊢
    generalize w8.heap.size = cb at hN0 ⊢
    go_wp2_with fail
    go_loopw [4] (fun iv wr => ∃ (i : Nat) (v : Value) (row kr : Nat → Nat), i ≤ s.sets ∧ iv = .int .i64 i ∧ NewAt wr w.heap.size cb g8 cap8 s.ns s.delay s.seed s.ways i v row kr (setQ s) s.sl ∧ Still w wr) (fun iv _ => s.sets - (intOf iv).toNat)
    case atStart => exact ⟨0, _, _, _, Nat.zero_le _, rfl, hN0, hS0⟩
    case round =>
      obtain ⟨i, v, row, kr, hi', rfl, hN, hS⟩ := hrel
      clear hN0 hS0
      have hhr := h.still hS
      have a0 := hhr.cf.c0
      by_cases hlt : i < s.sets
      · have hms := hide (meas_succ2 hlt)
        have hi1 : i + 1 ≤ s.sets := hlt
        have hb : 0 ≤ (i : Int) := by omega
        have hb2 : (i : Int) < (s.sets : Int) := by omega
        obtain ⟨c0, cz⟩ := hN.cell0
        have hcl : cb < wr.heap.size := (Array.getElem?_eq_some_iff.1 hN.c).1
        have aa := hhr.setAt hlt
        have hgc2 : g.c < wr.heap.size := hhr.lt (.inl rfl)
        have hga2 : g.a < wr.heap.size := hhr.lt (.inr (.inl rfl))
        obtain ⟨HO1, HN1, HB1, HS1⟩ := line_before (hhr.r i hlt)
        have q1 : 0 + s.ways ≤ maxLen := by rw [maxLen_is]; omega
        have q2 : (0 + s.ways) * 24 ≤ 140737488355328 := by omega
        have q4 : 0 < s.ways := hw8.1
        have q5 : i + 1 ≤ maxLen := by rw [maxLen_is]; omega
        have q6 : (i + 1) * 24 ≤ 140737488355328 := by omega
        have hlc := lineCells_one (setQ s i) s.ways
        have hll := lineCells_length (setQ s i) s.ways
        have q0 : w.heap.size ≤ wr.heap.size := hS.size
        have hA : ∀ g8 cap8 w8, w8.ownsRow wr.heap.size 76 4 (.slice (some ⟨g8, 0, none⟩) (0 + s.ways) cap8) (0 + s.ways) ([] ++ lineCells (setQ s i) s.ways) → World.grownBy (wr.alloc (.cells #[] 76)).drew w8 (Value.slice (some ⟨wr.heap.size, 0, none⟩) 0 0).ownBlock →
            (Row w8 g8 76 4 s.ways (slV (setQ s i)) ∧ Still wr w8 ∧ wr.heap.size ≤ g8 ∧ g8 < w8.heap.size) ∧ w8.cell? ⟨cb, 0, none⟩ = some v ∧ cb < w8.heap.size ∧
            (w8.alloc (.cells #[.slice (some ⟨g8, 0, none⟩) s.ways cap8] 61)).ownsRow w.heap.size 61 1 v i (rowsV row kr s.ways i) ∧ w.heap.size ≤ (w8.alloc (.cells #[.slice (some ⟨g8, 0, none⟩) s.ways cap8] 61)).heap.size := fun g8 cap8 w8 ho hg => by
          have hl := line_behind q4 ho hg
          have hN8 := hN.still hl.2.1
          exact ⟨hl, hN8.cell0.1, Nat.lt_of_lt_of_le hcl hl.2.1.size, (hN8.still ((Kept.refl _ w8).alloc _)).o, by rw [World.size_alloc]; exact Nat.le_succ_of_le (Nat.le_trans q0 hl.2.1.size)⟩
        have hB : ∀ (g8 cap8 : Nat) (w8 w9 : World), Still wr w8 → World.grownBy (w8.alloc (.cells #[.slice (some ⟨g8, 0, none⟩) s.ways cap8] 61)) w9 v.ownBlock → w9.cell? ⟨cb, 0, none⟩ = some v ∧ w9.frozen? ⟨cb, 0, none⟩ = false := fun g8 cap8 w8 w9 k8 hg => by
          have k9 := k8.alloc (.cells #[.slice (some ⟨g8, 0, none⟩) s.ways cap8] 61)
          have hc := ((hg.block cb (Nat.lt_of_lt_of_le hcl k9.size) (fun e => hN.vb.1 e.symm)).trans (k9.block cb hcl (fun e => e))).trans hN.c
          exact ⟨by simp [World.cell?, hc], by simp [World.frozen?, hc]⟩
        replace hA := hide hA
        replace hB := hide hB
        replace hN := hide hN
        replace hS := hide hS
        replace hlc := hide hlc
        replace hll := hide hll
        replace HS1 := hide HS1
        replace HN1 := hide HN1
        clear hhr
        go_wp2_with fail
        go_region_law (first
          | (refine step_append_lies _ (by rfl) _ _ 61 (by rfl) wr.heap.size 76 iL _ 4 24 Try.underlying61 hiL hzL0 hzL1 hzL2 rfl (by decide) (.slice (some ⟨wr.heap.size, 0, none⟩) 0 0) 0 [] (by rfl) HO1 ⟨g.row i, 0, none⟩ s.ways (g.kr i) (lineCells (setQ s i) s.ways) (by rfl) hll.out HN1.out hlc.out q4 q1 q2 HB1 _ HS1.out ?_; intro g8 cap8 w8 hown8 hg8 hat8 hlt8; obtain ⟨hl8, z0, hcl8, HO2, HB2⟩ := hA.out _ _ _ hown8 hg8)
          | (refine step_append_lies _ (by rfl) _ _ 62 (by rfl) w.heap.size 61 i0 _ 1 24 Try.underlying62 hi hz0 hz1 hz2 rfl (by decide) v i _ (by rfl) HO2 ⟨w8.heap.size, 0, none⟩ 1 1 [.slice (some ⟨g8, 0, none⟩) s.ways cap8] (by rfl) rfl (cell_one w8 _ _) (by simp [Value.oneCell']) (by decide) q5 q6 HB2 _ (World.size_alloc _ _) ?_; intro g9 cap9 w9 hown9 hg9 hat9 hlt9; obtain ⟨z9, z9z⟩ := hB.out _ _ _ _ hl8.2.1 hg9))
        all_goals
          have hN9 := hN.out.next (w' := w8.alloc (.cells #[.slice (some ⟨g8, 0, none⟩) s.ways cap8] 61)) (rb := g8) (c := cap8) q0 hl8.2.2.1 (by rw [World.size_alloc]; exact Nat.lt_succ_of_lt hl8.2.2.2) (hl8.2.1.alloc _) (hl8.1.kept (Below.heap_alloc _ _ _ hl8.2.2.2)) hg9 hown9 (hat9.imp id fun e => e.trans (World.size_alloc _ _).symm)
          have hS9 : Still w (w9.setCell ⟨cb, 0, none⟩ (.slice (some ⟨g9, 0, none⟩) (i + 1) cap9)) := ((hS.out.trans (hl8.2.1.alloc _)).grown hg9 (fun p hp => .inr (World.ownsRow.lt hN.out.o p hp).1)).setCell _ _ (.inr hN.out.lo.2.1)
          replace hN9 := hide hN9
          replace hS9 := hide hS9
          clear hA hB hN hS HO1 HO2 hown8 hown9 hg8 hg9 hat8 hat9 hlt8 hlt9 z0 z9 z9z c0 cz q1 q2 q4 q5 q6 HS1 HN1 HB1 HB2 hlc hll hl8 hcl8 aa a0
          go_wp2_with fail
          go_roundw
          case rel => exact ⟨i + 1, _, _, _, hi1, by simp, hN9.out, hS9.out⟩
          case measure => exact hms.out
      · obtain rfl : i = s.sets := by omega
        obtain ⟨g', rfl, hH, ho⟩ := NewAt.done hN hs8.1
        clear hN hhr
        go_wp2_with fail
        go_ret
        exact ⟨g', rfl, hH, hS, ho⟩
end Go.Proofs.Ytpflodhnniochaa
