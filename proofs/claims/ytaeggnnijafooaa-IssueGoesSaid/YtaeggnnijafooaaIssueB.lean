/-
  The queue in memory; New.
-/
import Derived.Test.YtaeggnnijafooaaIssueS
import Derived.Test.YtaeggnnijafooaaIssueA
import Derived.Maps.AppendAt
import Derived.RegionTactic
import Derived.BigRegion
import Derived.Deep.RegionHeld3
namespace Go.Proofs.Ytaeggnnijafooaa
set_option linter.unusedVariables false
open Go.RowKit Go.Maps

structure G where
  q : Nat
  m : Nat
  bl : Int → Nat
def G.own (g : G) (s : List En) (b : Nat) : Prop := b = g.q ∨ b = g.m ∨ ∃ e ∈ s, b = g.bl e.tag
/-- The queue as it lies in memory. -/
structure Held (w : World) (g : G) (size : Int) (s : List En) : Prop where
  q : w.heap[g.q]? = some (.cells #[.int .i64 size, .map (some g.m)] 52 (0, 0))
  m : HasQ w g.m s g.bl
  sets : ∀ e ∈ s, HasSet w (g.bl e.tag) (waits e)
  sorted : Sorted s
  inj : ∀ e ∈ s, ∀ e' ∈ s, g.bl e.tag = g.bl e'.tag → e.tag = e'.tag
  ne : ∀ e ∈ s, g.bl e.tag ≠ g.m
  room : (s.length : Int) ≤ size ∧ size ≤ 64 ∧ 1 ≤ size
  units : ∀ e ∈ s, 0 ≤ e.unit ∧ e.unit < 5
theorem Held.lt {w : World} {g : G} {size : Int} {s : List En} (h : Held w g size s) {b : Nat} (hb : g.own s b) : b < w.heap.size := by
  rcases hb with rfl | rfl | ⟨e, he, rfl⟩
  · exact (Array.getElem?_eq_some_iff.1 h.q).1
  · exact h.m.lt
  · exact (h.sets e he).lt
theorem Held.keep {w w' : World} {g : G} {size : Int} {s : List En} (h : Held w g size s) (k : ∀ b, g.own s b → w'.heap[b]? = w.heap[b]?) : Held w' g size s :=
  ⟨(k _ (.inl rfl)).trans h.q, h.m.kept (k _ (.inr (.inl rfl))), fun e he => (h.sets e he).kept (k _ (.inr (.inr ⟨e, he, rfl⟩))), h.sorted, h.inj, h.ne, h.room, h.units⟩
theorem Held.kept {w w' : World} {g : G} {size : Int} {s : List En} {S : Nat → Prop} (h : Held w g size s) (k : Kept S w w') (hs : ∀ b, g.own s b → ¬ S b) : Held w' g size s :=
  h.keep fun b hb => k.block b (h.lt hb) (hs b hb)
theorem Held.still {w w' : World} {g : G} {size : Int} {s : List En} (h : Held w g size s) (k : Still w w') : Held w' g size s := h.kept k (fun _ _ e => e)
theorem Held.drew {w : World} {g : G} {size : Int} {s : List En} (h : Held w g size s) : Held w.drew g size s := h.keep fun _ _ => rfl
theorem Held.drewN {w : World} {g : G} {size : Int} {s : List En} (h : Held w g size s) (n : Nat) : Held (w.drewN n) g size s := h.keep fun _ _ => rfl
theorem Held.alloc {w : World} {g : G} {size : Int} {s : List En} (h : Held w g size s) (o : Obj) : Held (w.alloc o) g size s := h.keep fun b hb => Below.heap_alloc w o b (h.lt hb)
theorem Held.c0 {w : World} {g : G} {size : Int} {s : List En} (h : Held w g size s) : w.cell? ⟨g.q, 0, none⟩ = some (.int .i64 size) := by
  have := h.q
  simp [World.cell?, this]
theorem Held.c1 {w : World} {g : G} {size : Int} {s : List En} (h : Held w g size s) : w.cell? ⟨g.q, 1, none⟩ = some (.map (some g.m)) := by
  have := h.q
  simp [World.cell?, this]

set_option maxRecDepth 100000 in
theorem New_bad (w : World) (n : Int) (h : n < 1 ∨ 64 < n) : Calls Try.prog 9 #[.int .i64 n] w fun e w' => e = .returned (.pointer none) ∧ w' = w := by
  go_enter Try.func9, Try.ntmps9
  rcases h with h | h
  · go_wp2
    go_ret
    exact ⟨rfl, rfl⟩
  · by_cases h1 : n < 1
    · go_wp2
      go_ret
      exact ⟨rfl, rfl⟩
    · go_wp2
      go_ret
      exact ⟨rfl, rfl⟩
set_option maxRecDepth 100000 in
theorem New_fine (w : World) (n : Int) (h : 1 ≤ n ∧ n ≤ 64) : Calls Try.prog 9 #[.int .i64 n] w fun e w' =>
    ∃ g : G, e = .returned (.pointer (some ⟨g.q, 0, none⟩)) ∧ Held w' g n [] ∧ Still w w' ∧ ∀ b, g.own [] b → w.heap.size ≤ b := by
  have hmm := @run_makeMap Try.prog
  go_enter Try.func9, Try.ntmps9
  have h1 : ¬ n < 1 := by omega
  have h2 : ¬ 64 < n := by omega
  go_wp2
  go_ret
  have e1 : (w.alloc (.map #[] 0)).heap.size = w.heap.size + 1 := by simp
  have hq := heap_alloc_new (w.alloc (.map #[] 0)) (.cells #[.int .i64 n, .map (some w.heap.size)] 52)
  rw [e1] at hq
  refine ⟨⟨w.heap.size + 1, w.heap.size, fun _ => 0⟩, rfl, ⟨hq, (hasQ_made w _).kept (Below.heap_alloc _ _ _ (by rw [e1]; exact Nat.lt_succ_self _)), fun e he => absurd he (by simp), List.Pairwise.nil, fun e he => absurd he (by simp), fun e he => absurd he (by simp), by simp; omega, fun e he => absurd he (by simp)⟩, ((Kept.refl _ w).alloc _).alloc _, ?_⟩
  rintro b (rfl | rfl | ⟨e, he, _⟩)
  · exact Nat.le_succ _
  · exact Nat.le_refl _
  · cases he


/-- The tags met so far. -/
def Coll (s : List En) (left : Lit → Bool) (zs : List Int) : Prop := zs.Nodup ∧ ∀ x, x ∈ zs ↔ (hasT s x = true ∧ left (.int .i64 x) = false)
theorem coll_step {s : List En} {left : Lit → Bool} {zs : List Int} (h : Coll s left zs) {x : Int} (hl : left (.int .i64 x) = true) (hh : hasT s x = true) : Coll s (fun z => left z && !z.sameKey (.int .i64 x)) (zs ++ [x]) := by
  refine ⟨List.nodup_append.2 ⟨h.1, by simp, fun a ha b hb => ?_⟩, fun y => ?_⟩
  · simp at hb
    subst hb
    intro e
    subst e
    have := ((h.2 a).1 ha).2
    rw [hl] at this
    cases this
  · rw [List.mem_append, h.2]
    show _ ↔ hasT s y = true ∧ (left (.int .i64 y) && !(Lit.int .i64 y).sameKey (.int .i64 x)) = false
    rw [same_i]
    by_cases e : y = x
    · subst e; simp [hl, hh]
    · simp [e]
theorem infoI : (Try.prog.info? 3).map (fun i => (i.zero, i.size, i.bytes)) = some (some (.int .i64 0), 1, 8) := by kernel_rfl
theorem entry_inv {v : Value} {y : DataW Unit × List MemPlace} (h : entryElem v = some y) : ∃ c : Int × Option Nat, v = mkE c := by
  obtain ⟨u, o, rfl, _⟩ := entryElem_inv h
  exact ⟨(u, o), rfl⟩
theorem int_inv (key : Value) (kl : Lit) (hk : keyOf Try.prog 3 key = some kl) : ∃ x, key = .int .i64 x := by
  obtain ⟨x, rfl, _⟩ := Maps.keyOf_int_inv Try.underlying3 hk
  exact ⟨x, rfl⟩
set_option maxRecDepth 100000 in
theorem Tags_any (w : World) (g : G) (size : Int) (s : List En) (h : Held w g size s) : Calls Try.prog 20 #[.pointer (some ⟨g.q, 0, none⟩)] w fun e w' =>
    ∃ v, e = .returned v ∧ w'.ownsRow w.heap.size 3 1 v s.length ((tags s).map (Value.int .i64)) ∧ Still w w' := by
  have c0 := h.c0
  have c1 := h.c1
  obtain ⟨i0, hi, hz0, hz1, hz2⟩ := info_parts infoI
  obtain ⟨D, ho, hr⟩ := h.m
  have hsz := size_q hr (ho.entries lawI) h.sorted
  rw [hsz] at ho
  have hroom := h.room
  have hsorted := h.sorted
  have hml := ho.lt
  clear h
  go_enter Try.func20, Try.ntmps20
  go_wp2_with (first | (at_range; refine wpList_range_own _ rfl _ 50 rfl 3 57 lawI Try.underlying50 entryElem g.m _ D rfl ho ?_; intro w0 hrg0 hg0 hs0))
  go_frame
  go_loopw [3] (fun v wr => ∃ (left : Lit → Bool) (cnt : Nat) (zs : List Int), wr.ranges Try.prog 3 entryElem g.m w.heap.size s.length D left cnt ∧ zs.length + cnt ≤ s.length ∧
      wr.ownsRow w.heap.size 3 1 v zs.length (zs.map (Value.int .i64)) ∧ Coll s left zs ∧ Still w wr ∧ w.heap.size < wr.heap.size)
    (fun _ wr => wr.rangeLeft g.m w.heap.size)
  case atStart =>
    rw [hsz] at hrg0
    refine ⟨_, _, [], hrg0, by simp, ?_, ⟨List.nodup_nil, fun x => ?_⟩, (Kept.refl _ w).grown hg0 (by simp), by omega⟩
    · exact World.ownsRow_nil _ _ _ _
    · rw [hr.has]; cases hasT s x <;> simp
  case round =>
    obtain ⟨left, cnt, zs, hrg, hcs, hrow, hC, hst, hlt0⟩ := hrel
    go_wp2_with (first
      | (at_next; refine wpList_next_ranges _ rfl _ rfl 3 lawI entryElem (Value.int .i64) mkE int_inv (fun v y hv => entry_inv hv) g.m w.heap.size _ _ _ _ rfl hrg ?_ ?_))
    · intro hc0 hl0
      have hres := sort_rising hC.1 (sorted_tags hsorted) (fun x => by rw [hC.2, mem_tags, hl0]; simp)
      have hlen : zs.length = s.length := by
        have := congrArg List.length hres
        rw [List.length_mergeSort, length_tags] at this
        exact this
      go_wp2_with fail
      go_at_call 27
      refine (sortI wr w.heap.size _ zs hrow (by omega)).mono ?_
      rintro e w' ⟨rfl, hrow', k'⟩
      rw [hres, hlen] at hrow'
      go_wp2
      go_ret
      exact ⟨_, rfl, hrow', hst.start (k'.mono fun b hb => .inr hb)⟩
    · intro x cu co kl yd yp w2 cnt2 hkey hlk hv hat hrg2 hlt hg2 hs2 hen
      obtain ⟨x', ex, rfl, hwx⟩ := Maps.keyOf_int_inv Try.underlying3 hkey
      cases ex
      have hhas : hasT s x = true := by rw [← hr.has]; exact has_true_of_atKey hat
      have hrow2 := hrow.kept hg2 (Or.inr (row_ne_iter hrow hrg).symm)
      have hst2 := hst.grown hg2 (fun p hp => by cases hp; exact .inr (Nat.le_refl _))
      have hlt2 : w.heap.size < w2.heap.size := by omega
      have hsz2 : zs.length < 64 := by omega
      clear hs2
      go_wp2_with (first
        | (at_builtin; refine wpList_append_own_at _ rfl _ _ 36 rfl w.heap.size 3 i0 (.int .i64 0) 1 8 Try.underlying36 hi hz0 hz1 hz2 rfl (by decide) _ _ _ rfl (hrow2.alloc _) ⟨w2.heap.size, 0, none⟩ 1 1 [.int .i64 x] rfl rfl (cell_one_new _ _ _) (by simp [Value.oneCell']) (by unfold maxLen; omega) (by omega) (by simp; omega) ?_; intro v' w3 hown' hg3 hnil3 hloc; go_frame))
      have hrg3 := (hrg2.alloc _).kept hg3 (row_ne_low hrow2 hml) (row_ne_iter hrow2 hrg2)
      go_roundw
      case rel =>
        refine ⟨_, cnt2, zs ++ [x], hrg3, by simp; omega, by simpa using hown', coll_step hC hlk hhas, ?_, ?_⟩
        · exact (hst2.alloc _).grown hg3 (fun p hp => .inr (hrow2.lt p hp).1)
        · have := hg3.size; simp at this; omega
      case measure => rw [hrg3.left_eq, hrg.left_eq]; exact hlt
end Go.Proofs.Ytaeggnnijafooaa
