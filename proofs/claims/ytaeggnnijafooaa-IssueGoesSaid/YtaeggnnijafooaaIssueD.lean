/-
  Wake.
-/
import Derived.Test.YtaeggnnijafooaaIssueC
namespace Go.Proofs.Ytaeggnnijafooaa
set_option linter.unusedVariables false
open Go.RowKit Go.Maps

/-- An entry while Wake goes through the map. -/
def stk (left : Lit → Bool) (p : Int) (e : En) : En := if left (.int .i64 e.tag) then e else strike p e
def wakeC (left : Lit → Bool) (p : Int) (s : List En) : Nat := (s.filter fun e => !left (.int .i64 e.tag) && woke p e).length
theorem wakeC_le (left : Lit → Bool) (p : Int) (s : List En) : wakeC left p s ≤ s.length := List.length_filter_le _ _
theorem wakeC_none {left : Lit → Bool} {p : Int} {s : List En} (h : ∀ e ∈ s, left (.int .i64 e.tag) = true) : wakeC left p s = 0 := by
  unfold wakeC
  rw [List.length_eq_zero_iff, List.filter_eq_nil_iff]
  intro e he
  simp [h e he]
theorem wakeC_all {left : Lit → Bool} {p : Int} {s : List En} (h : ∀ k, left k = false) : wakeC left p s = wakeN p s := by
  unfold wakeC wakeN
  congr 1
  refine List.filter_congr fun e _ => ?_
  simp [h]
theorem wakeC_step {left : Lit → Bool} {p : Int} {e : En} : ∀ {s : List En}, Sorted s → e ∈ s → left (.int .i64 e.tag) = true →
    wakeC (fun z => left z && !z.sameKey (.int .i64 e.tag)) p s = wakeC left p s + (if woke p e = true then 1 else 0)
  | [], _, he, _ => by cases he
  | y :: r, hs, he, hl => by
    obtain ⟨h1, h2⟩ := List.pairwise_cons.1 hs
    by_cases hy : y = e
    · subst hy
      have hr : r.filter (fun e => !(left (.int .i64 e.tag) && !(Lit.int .i64 e.tag).sameKey (.int .i64 y.tag)) && woke p e) = r.filter fun e => !left (.int .i64 e.tag) && woke p e := by
        refine List.filter_congr fun z hz => ?_
        have := h1 z hz
        rw [same_i, decide_eq_false (by omega)]
        simp
      unfold wakeC
      rw [List.filter_cons, List.filter_cons, hr]
      simp only [same_i, hl]
      cases woke p y <;> simp
    · have her : e ∈ r := by rcases List.mem_cons.1 he with h | h; exact absurd h.symm hy; exact h
      have ht := h1 e her
      have ih := wakeC_step (p := p) h2 her hl
      unfold wakeC at ih ⊢
      rw [List.filter_cons, List.filter_cons]
      have hf : (Lit.int .i64 y.tag).sameKey (.int .i64 e.tag) = false := by rw [same_i]; exact decide_eq_false (by omega)
      simp only [hf]
      cases hc : (!left (.int .i64 y.tag) && woke p y)
      · simp only [Bool.not_false, Bool.and_true, hc, Bool.false_eq_true, if_false]; exact ih
      · simp only [Bool.not_false, Bool.and_true, hc, if_true, List.length_cons]; rw [ih]; omega
theorem HasQ.map {w : World} {b : Nat} {s : List En} {bl : Int → Nat} (h : HasQ w b s bl) {f : En → En} (ht : ∀ e, (f e).tag = e.tag) (hu : ∀ e, (f e).unit = e.unit) : HasQ w b (s.map f) bl := by
  obtain ⟨D, ho, hr⟩ := h
  refine ⟨D, ho, hr.isMap, fun k => ?_, fun e he z => ?_, hr.keys⟩
  · rw [hr.has]
    unfold hasT
    rw [List.any_map]
    congr 1
    funext e
    simp [ht]
  · obtain ⟨y, hy, rfl⟩ := List.mem_map.1 he
    rw [ht, hu]
    exact hr.at_ y hy z
theorem stk_left {left : Lit → Bool} {p : Int} {e : En} (h : left (.int .i64 e.tag) = true) : stk left p e = e := by unfold stk; rw [if_pos h]
theorem stk_done {left : Lit → Bool} {p : Int} {e : En} (h : left (.int .i64 e.tag) = false) : stk left p e = strike p e := by unfold stk; rw [h]; rfl
theorem stk_other {left : Lit → Bool} {p x : Int} {e : En} (h : e.tag ≠ x) : stk (fun z => left z && !z.sameKey (.int .i64 x)) p e = stk left p e := by
  unfold stk
  simp only [same_i, decide_eq_false h]
  simp
theorem stk_same {left : Lit → Bool} {p : Int} {e : En} : stk (fun z => left z && !z.sameKey (.int .i64 e.tag)) p e = strike p e := by
  unfold stk
  simp only [same_i]
  simp
theorem waits_not {p : Int} {e : En} (h : waits e p = false) (k : Int) : waits e k = waits (strike p e) k := by
  rw [waits_strike]
  by_cases hk : k = p
  · subst hk; simp [h]
  · simp [hk]
theorem Held.wake {w w' : World} {g : G} {size p : Int} {s : List En} {S : Nat → Prop} (h : Held w g size s) (k : Kept S w w') (hS : ∀ b, S b → ∃ e ∈ s, b = g.bl e.tag) (hs : ∀ e ∈ s, HasSet w' (g.bl e.tag) (waits (strike p e))) : Held w' g size (wakeL p s) := by
  have hq : ¬ S g.q := fun e => by obtain ⟨x, hx, e⟩ := hS _ e; exact h.sq hx e
  have hm : ¬ S g.m := fun e => by obtain ⟨x, hx, e⟩ := hS _ e; exact h.ne x hx e.symm
  have hmem : ∀ {e : En}, e ∈ wakeL p s → ∃ y ∈ s, e = strike p y := fun he => by obtain ⟨y, hy, e⟩ := List.mem_map.1 he; exact ⟨y, hy, e.symm⟩
  refine ⟨(k.block _ (h.lt (.inl rfl)) hq).trans h.q, (h.m.kept (k.block _ h.m.lt hm)).map (strike_tag p) (strike_unit p), fun e he => ?_, sorted_map h.sorted (strike_tag p), fun e he e' he' hb => ?_, fun e he => ?_, by unfold wakeL; rw [List.length_map]; exact h.room, fun e he => ?_⟩
  · obtain ⟨y, hy, rfl⟩ := hmem he; rw [strike_tag]; exact hs y hy
  · obtain ⟨y, hy, rfl⟩ := hmem he
    obtain ⟨y', hy', rfl⟩ := hmem he'
    rw [strike_tag, strike_tag] at hb ⊢
    exact h.inj y hy y' hy' hb
  · obtain ⟨y, hy, rfl⟩ := hmem he; rw [strike_tag]; exact h.ne y hy
  · obtain ⟨y, hy, rfl⟩ := hmem he; rw [strike_unit]; exact h.units y hy
set_option maxRecDepth 100000 in
set_option maxHeartbeats 4000000 in
theorem Wake_any (w : World) (g : G) (size p : Int) (s : List En) (h : Held w g size s) (hp : (Lit.int .i64 p).wf = true) : Calls Try.prog 13 #[.pointer (some ⟨g.q, 0, none⟩), .int .i64 p] w fun e w' =>
    e = .returned (.int .i64 (wakeN p s : Nat)) ∧ Held w' g size (wakeL p s) ∧ Kept (g.own s) w w' := by
  have c0 := h.c0
  have c1 := h.c1
  obtain ⟨D, ho, hr⟩ := h.m
  have hsz := size_q hr (ho.entries lawI) h.sorted
  rw [hsz] at ho
  have hroom := h.room
  have hsorted := h.sorted
  have hml := ho.lt
  have hne := h.ne
  have hlt : ∀ e ∈ s, g.bl e.tag < w.heap.size := fun e he => (h.sets e he).lt
  have hinj := hide h.inj
  have h := hide h
  go_enter Try.func13, Try.ntmps13
  go_wp2_with (first | (at_range; refine wpList_range_own _ rfl _ 50 rfl 3 57 lawI Try.underlying50 entryElem g.m _ D rfl ho ?_; intro w0 hrg0 hg0 hs0))
  go_frame
  go_loopw [5] (fun v wr => ∃ (left : Lit → Bool) (cnt : Nat), wr.ranges Try.prog 3 entryElem g.m w.heap.size s.length D left cnt ∧ v = .int .i64 (wakeC left p s : Nat) ∧
      (∀ e ∈ s, HasSet wr (g.bl e.tag) (waits (stk left p e))) ∧ Kept (fun b => ∃ e ∈ s, b = g.bl e.tag) w wr)
    (fun _ wr => wr.rangeLeft g.m w.heap.size)
  case atStart =>
    rw [hsz] at hrg0
    have hl : ∀ e ∈ s, Maps.has D (.int .i64 e.tag) = true := fun e he => by rw [hr.has]; exact hasT_iff.2 ⟨e, he, rfl⟩
    have k0 : Kept (fun b => ∃ e ∈ s, b = g.bl e.tag) w w0 := (Kept.refl _ w).grown hg0 (by simp)
    refine ⟨_, _, hrg0, ?_, fun e he => ?_, k0⟩
    · rw [wakeC_none hl]; rfl
    · rw [stk_left (hl e he)]
      exact (h.out.sets e he).kept (hg0.block _ (hlt e he) (by simp))
  case round =>
    obtain ⟨left, cnt, hrg, rfl, hS, hK⟩ := hrel
    go_wp2_with (first
      | (at_next; refine wpList_next_ranges _ rfl _ rfl 3 lawI entryElem (Value.int .i64) mkE int_inv (fun v y hv => entry_inv hv) g.m w.heap.size _ _ _ _ rfl hrg ?_ ?_))
    · intro hc0 hl0
      go_wp2
      go_ret
      refine ⟨by rw [← wakeC_all hl0]; rfl, h.out.wake hK (fun _ e => e) (fun e he => ?_), hK.mono fun b ⟨e, he, hb⟩ => .inr (.inr ⟨e, he, hb⟩)⟩
      rw [← stk_done (hl0 _)]
      exact hS e he
    · intro x cu co kl yd yp w2 cnt2 hkey hlk hv hat hrg2 hlt2 hg2 hs2 hen
      obtain ⟨x', ex, rfl, hwx⟩ := Maps.keyOf_int_inv Try.underlying3 hkey
      cases ex
      have hhas : hasT s x = true := by rw [← hr.has]; exact has_true_of_atKey hat
      obtain ⟨e, he, rfl⟩ := hasT_iff.1 hhas
      have hco : cu = e.unit ∧ co = some (g.bl e.tag) := by
        have h1 : entryElem (mkE (cu, co)) = some (elemD cu co, []) := rfl
        rw [h1] at hv
        have h2 : elemD e.unit (some (g.bl e.tag)) = yd := (hr.at_ e he (.lit (.int .i64 0))).symm.trans (hat _)
        have h3 : elemD cu co = yd := (Prod.mk.inj (Option.some.inj hv)).1
        have h4 := elemD_inj (h3.trans h2.symm)
        exact h4
      obtain ⟨rfl, rfl⟩ := hco
      have hS2 : ∀ y ∈ s, HasSet w2 (g.bl y.tag) (waits (stk left p y)) := fun y hy => (hS y hy).kept (hg2.block _ (hS y hy).lt (fun e' => by have := hlt y hy; have := Option.some.inj e'; omega))
      have hK2 : Kept (fun b => ∃ e ∈ s, b = g.bl e.tag) w w2 := hK.grown hg2 (fun p hp => by cases hp; exact .inr (Nat.le_refl _))
      have hSe := hS2 e he
      rw [stk_left hlk] at hSe
      have hlook := (hSe.kept (w' := w2.alloc (.cells #[.int .i64 e.unit, .map (some (g.bl e.tag))] 57)) (Below.heap_alloc _ _ _ hSe.lt)).look hp
      have hstep := wakeC_step (p := p) hsorted he hlk
      have hle := wakeC_le left p s
      have kA : Still w2 ((w2.alloc (.cells #[.int .i64 e.unit, .map (some (g.bl e.tag))] 57)).alloc (.cells #[] 59)) := ((Kept.refl _ w2).alloc _).alloc _
      have hrg4 := (hrg2.alloc (.cells #[.int .i64 e.unit, .map (some (g.bl e.tag))] 57)).alloc (.cells #[] 59)
      have hS4 := hide fun y (hy : y ∈ s) => (hS2 y hy).kept (kA.block _ (hS2 y hy).lt (fun e => e))
      have hK4 := hide (hK2.still kA)
      clear hS2 hK2
      have hsh : mkE (e.unit, some (g.bl e.tag)) = .agg #[.int .i64 e.unit, .map (some (g.bl e.tag))] := rfl
      rw [hsh] at hen ⊢
      clear hs2 hS hK hv hat hkey
      cases hw : waits e p
      · have hwk : woke p e = false := by unfold woke; rw [hw]; rfl
        rw [hwk] at hstep
        rw [hw] at hlook
        have hstep := hide hstep
        go_wp2
        go_roundw
        case rel =>
          refine ⟨_, cnt2, hrg4, by rw [hstep.out]; simp, fun y hy => ?_, hK4.out⟩
          by_cases hy' : y.tag = e.tag
          · obtain rfl := sorted_tag hsorted hy he hy'
            rw [stk_same]
            exact (hSe.kept (kA.block _ hSe.lt (fun e => e))).same (waits_not hw)
          · rw [stk_other hy']
            exact hS4.out y hy
        case measure => rw [hrg4.left_eq, hrg.left_eq]; exact hlt2
      · rw [hw] at hlook
        obtain ⟨w5, hdrop, hs5, ht5⟩ := (hSe.kept (kA.block _ hSe.lt (fun e => e))).drop hp 0
        have hs5 := hs5.same (fun k => (waits_strike p e k).symm)
        obtain ⟨n, hlen, hn⟩ := hs5.len 3
        have hb4 : ((w2.alloc (.cells #[.int .i64 e.unit, .map (some (g.bl e.tag))] 57)).alloc (.cells #[] 59)).heap[w2.heap.size]? = some (.cells #[.int .i64 e.unit, .map (some (g.bl e.tag))] 57 (0, 0)) :=
          (Below.heap_alloc _ _ _ (by simp)).trans (heap_alloc_new _ _)
        have hg5 := ht5.grown
        have hlt6 : g.bl e.tag < w2.heap.size := hSe.lt
        have hb5 := (hg5.block w2.heap.size (by simp; omega) (fun e' => by have := Option.some.inj e'; omega)).trans hb4
        have u1 : w5.cell? ⟨w2.heap.size, 1, none⟩ = some (.map (some (g.bl e.tag))) := by simp [World.cell?, hb5]
        have hrg5 := hrg4.kept hg5 (fun e' => hne e he (Option.some.inj e').symm) (fun e' => by have := hlt e he; have := Option.some.inj e'; omega)
        have hK5 := hide (hK4.out.turned ht5 (.inl ⟨e, he, rfl⟩))
        have hS5 : ∀ y ∈ s, HasSet w5 (g.bl y.tag) (waits (stk (fun z => left z && !z.sameKey (.int .i64 e.tag)) p y)) := fun y hy => by
          by_cases hy' : y.tag = e.tag
          · obtain rfl := sorted_tag hsorted hy he hy'
            rw [stk_same]
            exact hs5
          · rw [stk_other hy']
            exact (hS4.out y hy).kept (hg5.block _ (hS4.out y hy).lt (fun e' => hy' (hinj.out y hy e he (Option.some.inj e'))))
        have hS5 := hide hS5
        have hwk : woke p e = decide (n = 0) := by unfold woke; rw [hw, Bool.true_and, Bool.eq_iff_iff]; simp [hn]
        rw [hwk] at hstep
        have hstep := hide hstep
        clear hb4 hb5 hg5 hs5 hn ht5 hS4 hK4 hrg2 hSe
        by_cases hn0 : n = 0
        · subst hn0
          go_wp2
          go_roundw
          case rel =>
            exact ⟨_, cnt2, hrg5, by rw [hstep.out]; simp, hS5.out, hK5.out⟩
          case measure => rw [hrg5.left_eq, hrg.left_eq]; exact hlt2
        · have hn1 : ¬ (n : Int) = 0 := by omega
          go_wp2
          go_roundw
          case rel =>
            exact ⟨_, cnt2, hrg5, by rw [hstep.out]; simp [hn0], hS5.out, hK5.out⟩
          case measure => rw [hrg5.left_eq, hrg.left_eq]; exact hlt2
end Go.Proofs.Ytaeggnnijafooaa
