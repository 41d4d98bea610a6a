/-
  Insert.
-/
import Derived.Test.YtaeggnnijafooaaIssueB
import Derived.LoopN
namespace Go.Proofs.Ytaeggnnijafooaa
set_option linter.unusedVariables false
open Go.RowKit Go.Maps

/-- An entry's value. -/
def enV (e : En) : Value := .agg #[.int .i64 e.tag, .int .i64 e.unit, .int .i64 e.a, .int .i64 e.b, .int .i64 e.c]
theorem Held.qm {w : World} {g : G} {size : Int} {s : List En} (h : Held w g size s) : g.q ≠ g.m := by
  intro e
  obtain ⟨D, ⟨es, clock, hb, _⟩, _⟩ := h.m
  have := h.q
  rw [e, hb] at this
  cases this
theorem Held.sq {w : World} {g : G} {size : Int} {s : List En} (h : Held w g size s) {e : En} (he : e ∈ s) : g.q ≠ g.bl e.tag := by
  intro e'
  obtain ⟨D, ⟨es, clock, hb, _⟩, _⟩ := h.sets e he
  have := h.q
  rw [e', hb] at this
  cases this
def G.with (g : G) (t : Int) (B : Nat) : G := { g with bl := fun x => if x = t then B else g.bl x }
theorem Held.insert {w w5 w6 : World} {g : G} {size : Int} {s : List En} {u : En} (h : Held w g size s) (k : Still w w5) {B : Nat} (hB : w.heap.size ≤ B) (hs : HasSet w5 B (waits u))
    (ht : w5.mapTurned w6 g.m) (hq : HasQ w6 g.m (insS u s) (g.with u.tag B).bl) (hok : insOk size s u = true) : Held w6 (g.with u.tag B) size (insS u s) ∧ Kept (g.own s) w w6 ∧ ∀ b, (g.with u.tag B).own (insS u s) b → g.own s b ∨ w.heap.size ≤ b := by
  unfold insOk at hok
  simp only [Bool.and_eq_true, Bool.not_eq_true', decide_eq_true_eq] at hok
  obtain ⟨⟨⟨hn, hl⟩, hu1⟩, hu2⟩ := hok
  have hne : ∀ e ∈ s, e.tag ≠ u.tag := fun e he e' => by rw [hasT_iff.2 ⟨e, he, e'⟩] at hn; cases hn
  have hm := h.m.lt
  have hBm : B ≠ g.m := fun e => by omega
  have h5 := h.still k
  have hb : ∀ e ∈ s, (g.with u.tag B).bl e.tag = g.bl e.tag := fun e he => if_neg (hne e he)
  have hbu : (g.with u.tag B).bl u.tag = B := if_pos rfl
  have hlt : ∀ e ∈ s, g.bl e.tag < w.heap.size := fun e he => (h.sets e he).lt
  have hg := ht.grown
  have hbig : ∀ b, b < w5.heap.size → b ≠ g.m → w6.heap[b]? = w5.heap[b]? := fun b h1 h2 => hg.block b h1 (fun e => h2 (by injection e))
  refine ⟨⟨(hbig _ (h5.lt (.inl rfl)) h.qm).trans h5.q, hq, fun e he => ?_, sorted_insS h.sorted hn, fun e he e' he' hbl => ?_, fun e he => ?_, ⟨by rw [length_insS]; omega, h.room.2⟩, fun e he => ?_⟩, ?_, fun b hb' => ?_⟩
  · rcases mem_insS.1 he with rfl | he
    · rw [hbu]; exact hs.kept (hbig _ hs.lt hBm)
    · rw [hb e he]; exact (h5.sets e he).kept (hbig _ (h5.sets e he).lt (h.ne e he))
  · rcases mem_insS.1 he with rfl | he1 <;> rcases mem_insS.1 he' with rfl | he1'
    · rfl
    · rw [hbu, hb _ he1'] at hbl; have := hlt _ he1'; omega
    · rw [hbu, hb _ he1] at hbl; have := hlt _ he1; omega
    · rw [hb _ he1, hb _ he1'] at hbl; exact h.inj _ he1 _ he1' hbl
  · rcases mem_insS.1 he with rfl | he
    · rw [hbu]; exact hBm
    · rw [hb e he]; exact h.ne e he
  · rcases mem_insS.1 he with rfl | he
    · exact ⟨hu1, hu2⟩
    · exact h.units e he
  · exact (k.mono (fun _ e => e.elim)).turned ht (.inl (.inr (.inl rfl)))
  · rcases hb' with rfl | rfl | ⟨e, he, rfl⟩
    · exact .inl (.inl rfl)
    · exact .inl (.inr (.inl rfl))
    · rcases mem_insS.1 he with rfl | he
      · rw [hbu]; exact .inr hB
      · rw [hb e he]; exact .inl (.inr (.inr ⟨e, he, rfl⟩))
theorem Still.cell {w w' : World} (h : Still w w') {b o : Nat} {v : Value} (hc : w.cell? ⟨b, o, none⟩ = some v) : w'.cell? ⟨b, o, none⟩ = some v := Kept.cell h hc (fun e => e)
def wk (u : En) (k : Nat) (x : Int) : Bool := decide (0 ≤ x) && (decide (1 ≤ k ∧ x = u.a) || decide (2 ≤ k ∧ x = u.b) || decide (3 ≤ k ∧ x = u.c))
theorem wk_done (u : En) (x : Int) : wk u 3 x = waits u x := by
  unfold wk waits
  rw [Bool.eq_iff_iff]
  simp
theorem wk_put0 (u : En) (h : 0 ≤ u.a) (x : Int) : (wk u 0 x || decide (x = u.a)) = wk u 1 x := by
  unfold wk
  rw [Bool.eq_iff_iff]
  simp
  omega
theorem wk_not0 (u : En) (h : ¬ 0 ≤ u.a) (x : Int) : wk u 0 x = wk u 1 x := by
  unfold wk
  rw [Bool.eq_iff_iff]
  simp
  omega
theorem wk_put1 (u : En) (h : 0 ≤ u.b) (x : Int) : (wk u 1 x || decide (x = u.b)) = wk u 2 x := by
  unfold wk
  rw [Bool.eq_iff_iff]
  simp
  omega
theorem wk_not1 (u : En) (h : ¬ 0 ≤ u.b) (x : Int) : wk u 1 x = wk u 2 x := by
  unfold wk
  rw [Bool.eq_iff_iff]
  simp
  omega
theorem wk_put2 (u : En) (h : 0 ≤ u.c) (x : Int) : (wk u 2 x || decide (x = u.c)) = wk u 3 x := by
  unfold wk
  rw [Bool.eq_iff_iff]
  simp
  omega
theorem wk_not2 (u : En) (h : ¬ 0 ≤ u.c) (x : Int) : wk u 2 x = wk u 3 x := by
  unfold wk
  rw [Bool.eq_iff_iff]
  simp
  omega
theorem meas3 {k : Nat} (h : k < 3) : 3 - (intOf (.int .i64 ((k : Int) + 1))).toNat < 3 - (intOf (.int .i64 (k : Int))).toNat := by
  simp [intOf]
  omega
/-- The queue behind Insert. -/
def insL (size : Int) (s : List En) (u : En) : List En := if insOk size s u then insS u s else s
theorem insL_no {size : Int} {s : List En} {u : En} (h : insOk size s u = false) : insL size s u = s := by unfold insL; rw [h]; rfl
theorem insL_yes {size : Int} {s : List En} {u : En} (h : insOk size s u = true) : insL size s u = insS u s := by unfold insL; rw [h]; rfl
theorem idx0 (a b c : Int) (w : World) : (Instr.index 28 (.agg #[.int .i64 a, .int .i64 b, .int .i64 c]) (.int .i64 0)).run Try.prog w = .ok (.int .i64 a) w := by kernel_rfl
theorem idx1 (a b c : Int) (w : World) : (Instr.index 28 (.agg #[.int .i64 a, .int .i64 b, .int .i64 c]) (.int .i64 1)).run Try.prog w = .ok (.int .i64 b) w := by kernel_rfl
theorem idx2 (a b c : Int) (w : World) : (Instr.index 28 (.agg #[.int .i64 a, .int .i64 b, .int .i64 c]) (.int .i64 2)).run Try.prog w = .ok (.int .i64 c) w := by kernel_rfl
attribute [local go_sem ↓] idx0 idx1 idx2
set_option maxRecDepth 100000 in
set_option maxHeartbeats 8000000 in
theorem Insert_any (w : World) (g : G) (size : Int) (s : List En) (u : En) (h : Held w g size s) (hwf : (Lit.int .i64 u.tag).wf = true) (hwa : (Lit.int .i64 u.a).wf = true) (hwb : (Lit.int .i64 u.b).wf = true) (hwc : (Lit.int .i64 u.c).wf = true) : Calls Try.prog 11 #[.pointer (some ⟨g.q, 0, none⟩), enV u] w fun e w' =>
    e = .returned (.bool (insOk size s u)) ∧ ∃ g' : G, g'.q = g.q ∧ Held w' g' size (insL size s u) ∧ Kept (g.own s) w w' ∧ ∀ b, g'.own (insL size s u) b → g.own s b ∨ w.heap.size ≤ b := by
  have hmm := @run_makeMap Try.prog
  have hql : g.q < w.heap.size := h.lt (.inl rfl)
  have c0 := h.c0
  have c1 := h.c1
  have hu : ∀ w', w'.heap[g.m]? = w.heap[g.m]? → (Instr.lookup 50 (.map (some g.m)) (.int .i64 u.tag) true).run Try.prog w' = .ok (.tuple #[.agg #[.int .i64 (entU s u.tag), .map (entB s g.bl u.tag)], .bool (hasT s u.tag)]) w' := fun w' e => (h.m.kept e).look hwf
  have hml := h.m.lt
  have hl1 := hu ((w.alloc (.cells #[.int .i64 u.tag, .int .i64 u.unit, .int .i64 u.a, .int .i64 u.b, .int .i64 u.c] 30)).drew) (Below.heap_alloc _ _ _ hml)
  have hl2 := hu (((w.alloc (.cells #[.int .i64 u.tag, .int .i64 u.unit, .int .i64 u.a, .int .i64 u.b, .int .i64 u.c] 30)).alloc (.cells #[.int .i64 0, .map none] 57)).drew) ((Below.heap_alloc _ _ _ (by simp; omega)).trans (Below.heap_alloc _ _ _ hml))
  have hu := hide hu
  unfold enV
  go_enter Try.func11, Try.ntmps11
  go_wp2_with fail
  go_region
  all_goals
    generalize hw1 : ((w.alloc (.cells #[.int .i64 u.tag, .int .i64 u.unit, .int .i64 u.a, .int .i64 u.b, .int .i64 u.c] 30)).alloc (.cells #[.int .i64 (entU s u.tag), .map (entB s g.bl u.tag)] 57)).drew = w1
    have k1 : Still w w1 := by rw [← hw1]; exact (((Kept.refl _ w).alloc _).alloc _).drew
    have hb1 : w1.heap[w.heap.size]? = some (.cells #[.int .i64 u.tag, .int .i64 u.unit, .int .i64 u.a, .int .i64 u.b, .int .i64 u.c] 30 (0, 0)) := by
      rw [← hw1]
      exact (Below.heap_alloc _ _ _ (by simp)).trans (heap_alloc_new _ _)
    have h1 := h.still k1
    clear hl1 hl2 hw1 c0 c1 hql
    have u0 : w1.cell? ⟨w.heap.size, 0, none⟩ = some (.int .i64 u.tag) := by simp [World.cell?, hb1]
    have u1 : w1.cell? ⟨w.heap.size, 1, none⟩ = some (.int .i64 u.unit) := by simp [World.cell?, hb1]
    have c0 := h1.c0
    have c1 := h1.c1
    have hlen : ∀ n ty, (Builtin.len_ #[50] ty #[.map (some g.m)]).run Try.prog (w1.drewN n) = .ok (.int .i64 (s.length : Nat)) (w1.drewN n) := fun n ty => (h1.drewN n).m.len h1.sorted ty
    have h1 := hide h1
    have k1 := hide k1
    have hb1 := hide hb1
    clear hu
    have hNo : insOk size s u = false → ∀ n, ∃ g' : G, g'.q = g.q ∧ Held (w1.drewN n) g' size (insL size s u) ∧ Kept (g.own s) w (w1.drewN n) ∧ ∀ b, g'.own (insL size s u) b → g.own s b ∨ w.heap.size ≤ b := fun e n => by
      rw [insL_no e]
      exact ⟨g, rfl, h1.out.drewN n, (k1.out.drewN n).mono (fun _ e => e.elim), fun b hb => .inl hb⟩
    have hNo := hide hNo
    cases hT : hasT s u.tag
    · by_cases h2 : (s.length : Int) < size
      · by_cases h3 : 0 ≤ u.unit
        · by_cases h4 : u.unit < 5
          · go_wp2_with fail
            have h2' : ¬ size ≤ (s.length : Int) := by omega
            have h3' : ¬ u.unit < 0 := by omega
            have h4' : ¬ 5 ≤ u.unit := by omega
            go_quiet (fail)
            have hok : insOk size s u = true := by unfold insOk; simp [hT, h2, h3, h4]
            have hok := hide hok
            generalize hw2 : w1.drewN nq = w2
            have k2 : Still w w2 := by rw [← hw2]; exact k1.out.drewN nq
            have hb2 : w2.heap[w.heap.size]? = some (.cells #[.int .i64 u.tag, .int .i64 u.unit, .int .i64 u.a, .int .i64 u.b, .int .i64 u.c] 30 (0, 0)) := by rw [← hw2]; exact hb1.out
            have u1 : w2.cell? ⟨w.heap.size, 1, none⟩ = some (.int .i64 u.unit) := by simp [World.cell?, hb2]
            have u2 : w2.cell? ⟨w.heap.size, 2, none⟩ = some (.int .i64 u.a) := by simp [World.cell?, hb2]
            have u3 : w2.cell? ⟨w.heap.size, 3, none⟩ = some (.int .i64 u.b) := by simp [World.cell?, hb2]
            have u4 : w2.cell? ⟨w.heap.size, 4, none⟩ = some (.int .i64 u.c) := by simp [World.cell?, hb2]
            have hlt2 : w.heap.size < w2.heap.size := (Array.getElem?_eq_some_iff.1 hb2).1
            clear hw2 hlen h2 h2' h3 h3' h4 h4' hT k1 hb1 h1 u0 c0 c1 hNo
            have k2 := hide k2
            have hb2 := hide hb2
            go_wp2_with fail
            have hs4 := (hasSetN_made w2).kept (w' := (w2.alloc (.map #[] 0)).alloc (.cells #[.int .i64 u.unit, .map (some w2.heap.size)] 57)) (Below.heap_alloc _ _ _ (by simp))
            have he4 : ((w2.alloc (.map #[] 0)).alloc (.cells #[.int .i64 u.unit, .map (some w2.heap.size)] 57)).heap[w2.heap.size + 1]? = some (.cells #[.int .i64 u.unit, .map (some w2.heap.size)] 57 (0, 0)) := by
              have := heap_alloc_new (w2.alloc (.map #[] 0)) (.cells #[.int .i64 u.unit, .map (some w2.heap.size)] 57)
              simpa using this
            have k4 : Kept (fun _ => False) w2 ((w2.alloc (.map #[] 0)).alloc (.cells #[.int .i64 u.unit, .map (some w2.heap.size)] 57)) := ((Kept.refl _ w2).alloc _).alloc _
            generalize ((w2.alloc (.map #[] 0)).alloc (.cells #[.int .i64 u.unit, .map (some w2.heap.size)] 57)) = w4 at hs4 he4 k4
            have hb4 := hide ((k4.block _ hlt2 (fun e => e)).trans hb2.out)
            have k4 := hide (k2.out.still k4)
            generalize w2.heap.size = B at hs4 he4 hlt2
            clear hb2 k2 u1 u2 u3 u4
            have he4 := hide he4
            have hs4 := hide (hs4.same (g := wk u 0) (fun k => by unfold wk; simp))
            go_loopw [49] (fun iv wr => ∃ k : Nat, k ≤ 3 ∧ iv = .int .i64 k ∧ HasSetN wr B k (wk u k) ∧ Kept (fun b => b = B) w4 wr) (fun iv _ => 3 - (intOf iv).toNat)
            case atStart => exact ⟨0, by omega, rfl, hs4.out, Kept.refl _ _⟩
            case round =>
              obtain ⟨k, hk, rfl, hs5, k5⟩ := hrel
              have k5 := hide k5
              have e1 : wr.cell? ⟨B + 1, 1, none⟩ = some (.map (some B)) := k5.out.cell (w := w4) (by simp [World.cell?, he4.out]) (by omega)
              clear hs4
              by_cases hk3 : k < 3
              · have hms := meas3 hk3
                have hk01 : k = 0 ∨ k = 1 ∨ k = 2 := by omega
                rcases hk01 with rfl | rfl | rfl
                · by_cases hp : 0 ≤ u.a
                  · obtain ⟨w6, hrun, hs6, ht6⟩ := hs5.put (k := u.a) hwa (by omega)
                    have hs6 := hide (hs6.same (wk_put0 u hp))
                    have k6 := hide (k5.out.turned ht6 (.inl rfl))
                    clear hs5 k5 ht6
                    go_wp2
                    go_roundw
                    case rel => exact ⟨1, by omega, by simp, hs6.out, k6.out⟩
                    case measure => exact hms
                  · have hs6 := hide ((hs5.same (wk_not0 u hp)).mono (Nat.le_succ _))
                    clear hs5
                    go_wp2
                    go_roundw
                    case rel => exact ⟨1, by omega, by simp, hs6.out, k5.out⟩
                    case measure => exact hms
                · by_cases hp : 0 ≤ u.b
                  · obtain ⟨w6, hrun, hs6, ht6⟩ := hs5.put (k := u.b) hwb (by omega)
                    have hs6 := hide (hs6.same (wk_put1 u hp))
                    have k6 := hide (k5.out.turned ht6 (.inl rfl))
                    clear hs5 k5 ht6
                    go_wp2
                    go_roundw
                    case rel => exact ⟨2, by omega, by simp, hs6.out, k6.out⟩
                    case measure => exact hms
                  · have hs6 := hide ((hs5.same (wk_not1 u hp)).mono (Nat.le_succ _))
                    clear hs5
                    go_wp2
                    go_roundw
                    case rel => exact ⟨2, by omega, by simp, hs6.out, k5.out⟩
                    case measure => exact hms
                · by_cases hp : 0 ≤ u.c
                  · obtain ⟨w6, hrun, hs6, ht6⟩ := hs5.put (k := u.c) hwc (by omega)
                    have hs6 := hide (hs6.same (wk_put2 u hp))
                    have k6 := hide (k5.out.turned ht6 (.inl rfl))
                    clear hs5 k5 ht6
                    go_wp2
                    go_roundw
                    case rel => exact ⟨3, by omega, by simp, hs6.out, k6.out⟩
                    case measure => exact hms
                  · have hs6 := hide ((hs5.same (wk_not2 u hp)).mono (Nat.le_succ _))
                    clear hs5
                    go_wp2
                    go_roundw
                    case rel => exact ⟨3, by omega, by simp, hs6.out, k5.out⟩
                    case measure => exact hms
              · obtain rfl : k = 3 := by omega
                have hok := hok.out
                have hok' := hok
                unfold insOk at hok'
                simp only [Bool.and_eq_true, Bool.not_eq_true', decide_eq_true_eq] at hok'
                have k45 : Still w wr := k4.out.start (k5.out.mono (fun b e => .inr (by omega)))
                have h5 := h.still k45
                have hr := h.room
                obtain ⟨w6, hrun, hq6, ht6⟩ := h5.drew.m.put h5.sorted (by omega) u hok'.1.1.1 hwf B
                have hfin := hide (h.insert k45.drew (by omega) ((hs5.tight.same (wk_done u)).kept rfl) ht6 hq6 hok)
                have c1 := h5.c1
                have u0 : wr.cell? ⟨w.heap.size, 0, none⟩ = some (.int .i64 u.tag) := k5.out.cell (w := w4) (by simp [World.cell?, hb4.out]) (by omega)
                have e0 : wr.cell? ⟨B + 1, 0, none⟩ = some (.int .i64 u.unit) := k5.out.cell (w := w4) (by simp [World.cell?, he4.out]) (by omega)
                clear k45 h5 hr hq6 ht6 hok' hs5 k5 hb4 he4 k4
                have hok := hide hok
                go_wp2_with fail
                go_region
                all_goals
                  go_wp2
                  go_ret
                  try rw [hok.out]
                  rw [insL_yes hok.out]
                  exact ⟨rfl, g.with u.tag B, rfl, hfin.out⟩
          · have hk : insOk size s u = false := by unfold insOk; simp [hT, h2, h3, h4]
            have hN := hNo.out hk
            have hN := hide hN
            have hk := hide hk
            go_wp2_with fail
            have h2' : ¬ size ≤ (s.length : Int) := by omega
            have h3' : ¬ u.unit < 0 := by omega
            have h4' : 5 ≤ u.unit := by omega
            go_quiet (fail)
            go_wp2
            go_ret
            try rw [hk.out]
            exact ⟨rfl, hN.out _⟩
        · have hk : insOk size s u = false := by unfold insOk; simp [hT, h2, h3]
          have hN := hNo.out hk
          have hN := hide hN
          have hk := hide hk
          go_wp2_with fail
          have h2' : ¬ size ≤ (s.length : Int) := by omega
          have h3' : u.unit < 0 := by omega
          go_quiet (fail)
          go_wp2
          go_ret
          try rw [hk.out]
          exact ⟨rfl, hN.out _⟩
      · have hk : insOk size s u = false := by unfold insOk; simp [hT, h2]
        have hN := hNo.out hk
        have hN := hide hN
        have hk := hide hk
        go_wp2_with fail
        have h2' : size ≤ (s.length : Int) := by omega
        go_quiet (fail)
        go_wp2
        go_ret
        try rw [hk.out]
        exact ⟨rfl, hN.out _⟩
    · have hk : insOk size s u = false := by unfold insOk; simp [hT]
      have hN := hNo.out hk
      have hN := hide hN
      have hk := hide hk
      go_wp2_with fail
      go_quiet (fail)
      go_wp2
      go_ret
      try rw [hk.out]
      exact ⟨rfl, hN.out _⟩
end Go.Proofs.Ytaeggnnijafooaa
