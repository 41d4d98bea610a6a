/-
  IssueTurns: two queues side by side.
-/
import Derived.Test.YtaeggnnijafooaaIssueW
namespace Go.Proofs.Ytaeggnnijafooaa
set_option linter.unusedVariables false
open Go.RowKit Go.Maps

/-- Two queues that share no block. -/
structure Two (W w : World) (g g' : G) (s s' : List En) : Prop where
  q : Held w g 64 s
  p : Held w g' 64 s'
  mq : Mine W g s w
  mp : Mine W g' s' w
  apart : ∀ b, g.own s b → ¬ g'.own s' b
theorem Two.swap {W w : World} {g g' : G} {s s' : List En} (h : Two W w g g' s s') : Two W w g' g s' s := ⟨h.p, h.q, h.mp, h.mq, fun b h1 h2 => h.apart b h2 h1⟩
theorem Two.on {W w w' : World} {g g' : G} {s s' : List En} (h : Two W w g g' s s') (k : Still w w') : Two W w' g g' s s' := ⟨h.q.still k, h.p.still k, h.mq.on k, h.mp.on k, h.apart⟩
theorem Mine.beside {W w w' : World} {g g' : G} {s s' : List En} (h : Mine W g s w) (h' : Mine W g' s' w) (k : Kept (g'.own s') w w') : Mine W g s w' :=
  ⟨h.still.start (k.mono fun b hb => .inr (h'.mine b hb)), h.mine⟩
theorem Two.step {W w w' : World} {g g1 g' : G} {s s1 s' : List En} (h : Two W w g g' s s') (h1 : Held w' g1 64 s1) (k : Kept (g.own s) w w') (ho : ∀ b, g1.own s1 b → g.own s b ∨ w.heap.size ≤ b) : Two W w' g1 g' s1 s' :=
  ⟨h1, h.p.kept k fun b hb e => h.apart b e hb, h.mq.step k ho, h.mp.beside h.mq k, fun b h2 h3 => by
    rcases ho b h2 with h4 | h4
    · exact h.apart b h4 h3
    · have := h.p.lt h3; omega⟩
theorem Two.insert {W w : World} {g g' : G} {s s' : List En} (h : Two W w g g' s s') (u : En) (hu : EnWf u) : Calls Try.prog 11 #[.pointer (some ⟨g.q, 0, none⟩), enV u] w fun e w' =>
    e = .returned (.bool (insOk 64 s u)) ∧ ∃ g1 : G, g1.q = g.q ∧ Two W w' g1 g' (insL 64 s u) s' :=
  (Insert_any w g 64 s u h.q hu.1 hu.2.2.1 hu.2.2.2.1 hu.2.2.2.2).mono fun e w' ⟨he, g1, hq, h1, k, ho⟩ => ⟨he, g1, hq, h.step h1 k ho⟩
theorem Two.wake {W w : World} {g g' : G} {s s' : List En} (h : Two W w g g' s s') {x : Int} (hx : (Lit.int .i64 x).wf = true) : Calls Try.prog 13 #[.pointer (some ⟨g.q, 0, none⟩), .int .i64 x] w fun e w' =>
    e = .returned (.int .i64 (wakeN x s : Nat)) ∧ Two W w' g g' (wakeL x s) s' :=
  (Wake_any w g 64 x s h.q hx).mono fun e w' ⟨he, h1, k⟩ => ⟨he, h.step h1 k fun b hb => .inl (own_wake hb)⟩
theorem Two.pick {W w : World} {g g' : G} {s s' : List En} (h : Two W w g g' s s') {f : Int → Int} (hf : ∀ k, (Lit.int .i64 (f k)).wf = true) : Calls Try.prog 15 #[.pointer (some ⟨g.q, 0, none⟩), unV f] w fun e w' =>
    ∃ v, e = .returned v ∧ Ints w' w.heap.size v (pickS f s).2 ∧ Two W w' g g' (pickS f s).1 s' ∧ Kept (g.own s) w w' ∧ ∀ b, g'.own s' b → b < w.heap.size :=
  (Pick_any w g 64 s f h.q hf).mono fun e w' ⟨v, he, hi, h1, k⟩ => ⟨v, he, hi, h.step h1 k (fun b hb => .inl (own_mono (fun e he => (pick_sub f s).mem he) hb)), k, fun b hb => h.p.lt hb⟩
theorem Two.pick' {W w : World} {g g' : G} {s s' : List En} (h : Two W w g g' s s') {f : Int → Int} (hf : ∀ k, (Lit.int .i64 (f k)).wf = true) : Calls Try.prog 15 #[.pointer (some ⟨g.q, 0, none⟩), .agg #[.int .i64 (f 0), .int .i64 (f 1), .int .i64 (f 2), .int .i64 (f 3), .int .i64 (f 4)]] w fun e w' =>
    ∃ v, e = .returned v ∧ Ints w' w.heap.size v (pickS f s).2 ∧ Two W w' g g' (pickS f s).1 s' ∧ Kept (g.own s) w w' ∧ ∀ b, g'.own s' b → b < w.heap.size := h.pick hf
theorem Two.tags {W w : World} {g g' : G} {s s' : List En} (h : Two W w g g' s s') : Calls Try.prog 20 #[.pointer (some ⟨g.q, 0, none⟩)] w fun e w' =>
    ∃ v, e = .returned v ∧ Ints w' w.heap.size v (Go.Proofs.Ytaeggnnijafooaa.tags s) ∧ Two W w' g g' s s' ∧ Still w w' :=
  (Tags_ints w g 64 s h.q).mono fun e w' ⟨v, he, hi, k⟩ => ⟨v, he, hi, h.on k, k⟩
/-! What is in them. -/
def okU (e : En) : Bool := decide (0 ≤ e.unit) && decide (e.unit < 5)
theorem sorted_ext {s s' : List En} (h : Sorted s) (h' : Sorted s') (hm : ∀ e, e ∈ s ↔ e ∈ s') : s = s' := by
  have n1 : s.Nodup := h.imp fun {a b} hab e => by rw [e] at hab; omega
  have n2 : s'.Nodup := h'.imp fun {a b} hab e => by rw [e] at hab; omega
  exact List.Perm.eq_of_pairwise (le := fun (a b : En) => a.tag < b.tag) (fun a b _ _ h1 h2 => absurd h1 (by omega)) h h' ((List.perm_ext_iff_of_nodup n1 n2).2 hm)
/-- s holds those of l that have a unit. -/
def From (s l : List En) : Prop := s.length ≤ l.length ∧ ∀ e, e ∈ s ↔ e ∈ l ∧ okU e = true
theorem From.ins {s l l' : List En} {u : En} (h : From s l) (hl : l.length < 64) (hn : ∀ e ∈ l, e.tag ≠ u.tag) (hm : ∀ e, e ∈ l' ↔ e ∈ l ∨ e = u) (hlen : l'.length = l.length + 1) : From (insL 64 s u) l' := by
  have hT : hasT s u.tag = false := by
    cases hh : hasT s u.tag
    · rfl
    · obtain ⟨e, he, hee⟩ := hasT_iff.1 hh
      exact absurd hee (hn e ((h.2 e).1 he).1)
  have hok : insOk 64 s u = okU u := by
    have : decide ((s.length : Int) < 64) = true := by have := h.1; simp; omega
    unfold insOk okU
    rw [hT, this]
    rfl
  cases hu : okU u
  · rw [insL_no (hok.trans hu)]
    refine ⟨by have := h.1; omega, fun e => ?_⟩
    rw [h.2, hm]
    constructor
    · rintro ⟨h1, h2⟩; exact ⟨.inl h1, h2⟩
    · rintro ⟨h1 | rfl, h2⟩
      · exact ⟨h1, h2⟩
      · rw [hu] at h2; cases h2
  · rw [insL_yes (hok.trans hu)]
    refine ⟨by rw [length_insS]; have := h.1; omega, fun e => ?_⟩
    rw [mem_insS, h.2, hm]
    constructor
    · rintro (rfl | ⟨h1, h2⟩)
      · exact ⟨.inr rfl, hu⟩
      · exact ⟨.inl h1, h2⟩
    · rintro ⟨h1 | rfl, h2⟩
      · exact .inr ⟨h1, h2⟩
      · exact .inl rfl
theorem From.same {s s' l l' : List En} (h : From s l) (h' : From s' l') (hs : Sorted s) (hs' : Sorted s') (hm : ∀ e, e ∈ l ↔ e ∈ l') : s = s' := sorted_ext hs hs' fun e => by rw [h.2, h'.2, hm]
/-- No two have one tag. -/
def Dist (l : List En) : Prop := ∀ (j k : Nat) (e e' : En), k < j → j < l.length → l[k]? = some e → l[j]? = some e' → e.tag ≠ e'.tag
theorem from_take {l s : List En} {i : Nat} {u : En} (hD : Dist l) (h : From s (l.take i)) (hi : l[i]? = some u) (hn : l.length ≤ 64) : From (insL 64 s u) (l.take (i + 1)) := by
  have hil : i < l.length := (List.getElem?_eq_some_iff.1 hi).1
  have ht : l.take (i + 1) = l.take i ++ [u] := by rw [List.take_add_one, hi]; rfl
  refine h.ins (by rw [List.length_take]; omega) (fun e he => ?_) (fun e => by rw [ht]; simp) (by rw [ht]; simp)
  obtain ⟨k, hk⟩ := List.mem_iff_getElem?.1 he
  by_cases hki : k < i
  · rw [List.getElem?_take, if_pos hki] at hk
    exact hD i k e u hki hil hk hi
  · rw [List.getElem?_take, if_neg hki] at hk
    cases hk
theorem from_drop {l s : List En} {j : Nat} {u : En} (hD : Dist l) (h : From s (l.drop (j + 1))) (hj : l[j]? = some u) (hn : l.length ≤ 64) : From (insL 64 s u) (l.drop j) := by
  obtain ⟨hjl, hju⟩ := List.getElem?_eq_some_iff.1 hj
  have ht : l.drop j = u :: l.drop (j + 1) := by rw [List.drop_eq_getElem_cons hjl, hju]
  refine h.ins (by rw [List.length_drop]; omega) (fun e he => ?_) (fun e => by rw [ht, List.mem_cons]; exact Or.comm) (by rw [ht]; simp)
  obtain ⟨k, hk⟩ := List.mem_iff_getElem?.1 he
  rw [List.getElem?_drop] at hk
  have hkl : j + 1 + k < l.length := (List.getElem?_eq_some_iff.1 hk).1
  exact (hD (j + 1 + k) j u e (by omega) hkl hj hk).symm
theorem from_none (l : List En) : From [] (l.take 0) := ⟨Nat.zero_le _, fun e => by simp⟩
theorem from_none' (l : List En) : From [] (l.drop l.length) := ⟨Nat.zero_le _, fun e => by simp⟩
/-! The arguments. -/
theorem UopsAt.take {w : World} {oa : Option Addr} {l : List En} (h : UopsAt w oa l) (n : Nat) : UopsAt w oa (l.take n) := by
  refine ⟨Nat.le_trans (by simp; omega) h.1, fun hn => ?_⟩
  obtain ⟨a, ha, hb, hc⟩ := h.2 (by simp at hn; omega)
  refine ⟨a, ha, hb, fun i e hi => hc i e ?_⟩
  by_cases hin : i < n
  · rwa [List.getElem?_take, if_pos hin] at hi
  · rw [List.getElem?_take, if_neg hin] at hi
    cases hi
/-- The cells of a slice of numbers. -/
def NumsAt (w : World) (oa : Option Addr) (l : List Int) : Prop :=
  l.length ≤ maxLen ∧ (0 < l.length → ∃ a, oa = some a ∧ a.block < w.heap.size ∧ ∀ i x, l[i]? = some x → (Lit.int .i64 x).wf = true ∧ w.cell? (a.add i) = some (.int .i64 x))
/-- The cells of a slice of units. -/
def UnitsAt (w : World) (oa : Option Addr) (l : List (Int → Int)) : Prop :=
  l.length ≤ maxLen ∧ (0 < l.length → ∃ a, oa = some a ∧ a.block < w.heap.size ∧ ∀ i f, l[i]? = some f → (∀ k, (Lit.int .i64 (f k)).wf = true) ∧ w.cell? (a.add (i * 5)) = some (.int .i64 (f 0)) ∧
    w.cell? ⟨(a.add (i * 5)).block, (a.add (i * 5)).off + 1, none⟩ = some (.int .i64 (f 1)) ∧ w.cell? ⟨(a.add (i * 5)).block, (a.add (i * 5)).off + 2, none⟩ = some (.int .i64 (f 2)) ∧
    w.cell? ⟨(a.add (i * 5)).block, (a.add (i * 5)).off + 3, none⟩ = some (.int .i64 (f 3)) ∧ w.cell? ⟨(a.add (i * 5)).block, (a.add (i * 5)).off + 4, none⟩ = some (.int .i64 (f 4)))
theorem Two.num {W w : World} {g g' : G} {s s' : List En} (h : Two W w g g' s s') {p : Addr} {v : Value} (hc : W.cell? p = some v) : Still W w ∧ w.cell? p = some v := ⟨h.mq.still, h.mq.still.cellA hc fun e => e⟩
/-- The cells of the units that are loaded. -/
def U5 (w : World) (p : Addr) (f : Int → Int) : Prop := w.cell? p = some (.int .i64 (f 0)) ∧ w.cell? ⟨p.block, p.off + 1, none⟩ = some (.int .i64 (f 1)) ∧ w.cell? ⟨p.block, p.off + 2, none⟩ = some (.int .i64 (f 2)) ∧
  w.cell? ⟨p.block, p.off + 3, none⟩ = some (.int .i64 (f 3)) ∧ w.cell? ⟨p.block, p.off + 4, none⟩ = some (.int .i64 (f 4))
theorem Two.five {W w : World} {g g' : G} {s s' : List En} (h : Two W w g g' s s') {p : Addr} {f : Int → Int} (hc : U5 W p f) : Still W w ∧ w.cell? p = some (.int .i64 (f 0)) ∧ w.cell? ⟨p.block, p.off + 1, none⟩ = some (.int .i64 (f 1)) ∧ w.cell? ⟨p.block, p.off + 2, none⟩ = some (.int .i64 (f 2)) ∧
    w.cell? ⟨p.block, p.off + 3, none⟩ = some (.int .i64 (f 3)) ∧ w.cell? ⟨p.block, p.off + 4, none⟩ = some (.int .i64 (f 4)) :=
  ⟨h.mq.still, h.mq.still.cellA hc.1 fun e => e, h.mq.still.cellA hc.2.1 fun e => e, h.mq.still.cellA hc.2.2.1 fun e => e, h.mq.still.cellA hc.2.2.2.1 fun e => e, h.mq.still.cellA hc.2.2.2.2 fun e => e⟩
set_option maxRecDepth 100000 in
set_option maxHeartbeats 4000000 in
theorem Turns_fine (W : World) (oa ob oc : Option Addr) (l : List En) (un : List (Int → Int)) (wa : List Int) (ca cb cc : Nat) (hl : UopsAt W oa l) (hca : l.length ≤ ca ∧ ca ≤ maxLen) (hu : UnitsAt W ob un) (hw : NumsAt W oc wa) :
    Calls Try.prog 6 #[.slice oa l.length ca, .slice ob un.length cb, .slice oc wa.length cc] W fun e w' => e = .returned (.bool true) ∧ Below W.heap.size W w' := by
  have hl0 := hl
  go_enter Try.func6, Try.ntmps6
  go_wp2_with fail
  go_at_call 8
  refine (fixed_any _).mono ?_
  rintro e w1 ⟨rfl, k1⟩
  have hcm := hca.2
  rw [maxLen_is] at hcm
  rcases Nat.lt_or_ge 64 l.length with hbig | hbig
  all_goals
    first
    | (obtain ⟨a, rfl, -⟩ := hl.2 (Nat.lt_trans (by decide) (show 64 < l.length from hbig))
       have hbI : 64 < (l.length : Int) := by omega
       have hcI : 64 ≤ (ca : Int) := by omega
       have hcN : 64 ≤ ca := by omega
       go_wp2_with fail
       have e64 : ∀ z c, Value.slice z 64 c = Value.slice z (l.take 64).length c := fun z c => by rw [List.length_take, Nat.min_eq_left (by omega)]
       simp only [e64]
       have hl' := hl.take 64
       have hn : (l.take 64).length ≤ 64 := by rw [List.length_take]; omega
       clear hl e64
       generalize l.take 64 = l' at *
       generalize some a = oa at *
       clear hbig hbI hcI hcN hca hcm)
    | (have hbI : ¬ 64 < (l.length : Int) := by omega
       go_wp2_with fail
       have hl' := hl
       have hn : l.length ≤ 64 := hbig
       clear hl hbig hbI hca hcm
       generalize l = l' at *)
    go_loopw [7, 8] (fun iv kv wr => ∃ i : Nat, i ≤ l'.length ∧ iv = .int .i64 i ∧ Still W wr ∧ ∀ (j k : Nat) (e e' : En), k < j → j < i → l'[k]? = some e → l'[j]? = some e' → e.tag ≠ e'.tag) (fun iv _ _ => l'.length - (intOf iv).toNat)
    case atStart => exact ⟨0, Nat.zero_le _, rfl, k1, fun j k e e' h1 h2 => absurd h2 (Nat.not_lt_zero _)⟩
    case round =>
      clear k1
      obtain ⟨i, hi, rfl, k1, hD⟩ := hrel
      by_cases hin : i < l'.length
      · obtain ⟨a, rfl, hab, hcl⟩ := hl'.2 (by omega)
        have hli := List.getElem?_eq_getElem hin
        generalize l'[i] = u at hli
        have hUA : UopAt W a i u := ⟨(hcl i u hli).2.1, (hcl i u hli).2.2.1, (hcl i u hli).2.2.2.1, (hcl i u hli).2.2.2.2.1, (hcl i u hli).2.2.2.2.2⟩
        have hin2 : (i : Int) < (l'.length : Int) := by omega
        have hi0 : 0 ≤ (i : Int) := by omega
        have hik : (i : Int) < 1000 := by omega
        have hms := meas_k hin
        replace hD := hide hD
        go_wp2_with fail
        go_loopw [8] (fun kv wr => ∃ k : Nat, k ≤ i ∧ kv = .int .i64 k ∧ Still W wr ∧ ∀ (k' : Nat) (e : En), k' < k → l'[k']? = some e → e.tag ≠ u.tag) (fun kv _ => i - (intOf kv).toNat)
        case atStart => exact ⟨0, Nat.zero_le _, rfl, k1, fun k' e h2 => absurd h2 (Nat.not_lt_zero _)⟩
        case round =>
          clear k1
          obtain ⟨k, hk, rfl, k1, hE⟩ := hrel
          replace hE := hide hE
          by_cases hki : k < i
          · have hlk := List.getElem?_eq_getElem (l := l') (i := k) (by omega)
            generalize l'[k]'(by omega) = e at hlk
            have x0 := k1.cellA (hcl k e hlk).2.1 (fun e => e)
            have y0 := (hUA.on k1).d0
            have hki2 : (k : Int) < (i : Int) := by omega
            have hkl2 : (k : Int) < (l'.length : Int) := by omega
            have hk0 : 0 ≤ (k : Int) := by omega
            have hkk : (k : Int) < 1000 := by omega
            have hms2 := meas_k hki
            by_cases hee : e.tag = u.tag
            · rw [hee] at x0
              go_wp2_with fail
              go_quiet (fail)
              go_wp2
              go_ret
              exact ⟨rfl, (k1.drewN _).below (Nat.le_refl _) (fun _ _ e => e)⟩
            · go_wp2_with fail
              go_quiet (fail)
              go_wp2
              go_roundw
              case rel =>
                refine ⟨k + 1, hki, by simp, k1.drewN _, fun k' e' hk' he' => ?_⟩
                rcases Nat.lt_succ_iff_lt_or_eq.1 hk' with h | rfl
                · exact hE.out k' e' h he'
                · rw [hlk] at he'
                  cases he'
                  exact hee
              case measure => exact hms2
          · obtain rfl : k = i := by omega
            have hir : ¬ (k : Int) < (k : Int) := Int.lt_irrefl _
            go_wp2
            go_roundw
            case rel =>
              refine ⟨k + 1, hin, by simp, k1, fun j k' e e' h1 h2 he he' => ?_⟩
              rcases Nat.lt_succ_iff_lt_or_eq.1 h2 with h | rfl
              · exact hD.out j k' e e' h1 h he he'
              · rw [hli] at he'
                cases he'
                exact hE.out k' e h1 he
            case measure => exact hms
      · obtain rfl : i = l'.length := by omega
        have hir : ¬ (l'.length : Int) < (l'.length : Int) := Int.lt_irrefl _
        replace hD := hide hD
        go_wp2_with fail
        go_at_call 9
        refine (New_fine _ 64 (by omega)).mono ?_
        rintro e w2 ⟨⟨q, m, bl⟩, rfl, h2, k2, ho2⟩
        have M2 : Mine W ⟨q, m, bl⟩ [] w2 := ⟨k1.trans k2, fun b hb => Nat.le_trans k1.size (ho2 b hb)⟩
        clear k1 k2 ho2
        go_wp2_with fail
        go_at_call 9
        refine (New_fine _ 64 (by omega)).mono ?_
        rintro e w3 ⟨⟨p, mp, blp⟩, rfl, h3, k3, ho3⟩
        have T3 : Two W w3 ⟨q, m, bl⟩ ⟨p, mp, blp⟩ [] [] := ⟨h2.still k3, h3, M2.on k3, ⟨M2.still.trans k3, fun b hb => Nat.le_trans M2.still.size (ho3 b hb)⟩, fun b hb hb' => by have := h2.lt hb; have := ho3 b hb'; omega⟩
        clear h2 M2 h3 k3 ho3
        go_wp2_with fail
        replace hD : Hid (Dist l') := hide fun j k e e' h1 h2 => hD.out j k e e' h1 h2
        go_loopw [11] (fun iv wr => ∃ (i m mp : Nat) (bl blp : Int → Nat) (s s' : List En), i ≤ l'.length ∧ iv = .int .i64 i ∧ Two W wr ⟨q, m, bl⟩ ⟨p, mp, blp⟩ s s' ∧ From s (l'.take i) ∧ From s' (l'.drop (l'.length - i))) (fun iv _ => l'.length - (intOf iv).toNat)
        case atStart => exact ⟨0, m, mp, bl, blp, [], [], Nat.zero_le _, rfl, T3, from_none l', from_none' l'⟩
        case round =>
          clear T3 m mp bl blp
          obtain ⟨i, m, mp, bl, blp, s, s', hi, rfl, T4, F4, F4'⟩ := hrel
          by_cases hin : i < l'.length
          · obtain ⟨a, rfl, hab, hcl⟩ := hl'.2 (by omega)
            have hli := List.getElem?_eq_getElem hin
            generalize l'[i] = u at hli
            have hUA : UopAt W a i u := ⟨(hcl i u hli).2.1, (hcl i u hli).2.2.1, (hcl i u hli).2.2.2.1, (hcl i u hli).2.2.2.2.1, (hcl i u hli).2.2.2.2.2⟩
            have huw := (hcl i u hli).1
            obtain ⟨j, hj⟩ : ∃ j, j + 1 = l'.length - i := ⟨l'.length - i - 1, by omega⟩
            have hjl : j < l'.length := by omega
            have hlj := List.getElem?_eq_getElem hjl
            generalize l'[j] = v at hlj
            have hVA : UopAt W a j v := ⟨(hcl j v hlj).2.1, (hcl j v hlj).2.2.1, (hcl j v hlj).2.2.2.1, (hcl j v hlj).2.2.2.2.1, (hcl j v hlj).2.2.2.2.2⟩
            have hvw := (hcl j v hlj).1
            have hjI : (l'.length : Int) - 1 - (i : Int) = (j : Int) := by omega
            have hjI2 : (j : Int) < (l'.length : Int) := by omega
            have hj0 : 0 ≤ (j : Int) := by omega
            have hin2 : (i : Int) < (l'.length : Int) := by omega
            have hi0 : 0 ≤ (i : Int) := by omega
            have hik : (i : Int) < 1000 := by omega
            have hln : (l'.length : Int) ≤ 64 := by omega
            have hms := meas_k hin
            have F5 := from_take hD.out F4 hli hn
            have F5' := from_drop (j := j) hD.out (by rw [hj]; exact F4') hlj hn
            replace F5 := hide F5
            replace F5' := hide F5'
            have hj' : l'.length - (i + 1) = j := by omega
            replace hj' := hide hj'
            clear F4 F4' hcl hli hlj hj
            obtain ⟨d0, d1, d2, d3, d4⟩ := hUA.on T4.mq.still
            go_wp2_with fail
            go_at_call 11
            refine (T4.insert u huw).mono ?_
            rintro e w5 ⟨rfl, ⟨q', m5, bl5⟩, hq, T5⟩
            obtain rfl : q = q' := Eq.symm hq
            obtain ⟨d0, d1, d2, d3, d4⟩ := hVA.on T5.mq.still
            clear T4 hq
            go_wp2_with fail
            go_at_call 11
            refine (T5.swap.insert v hvw).mono ?_
            rintro e w6 ⟨rfl, ⟨p', m6, bl6⟩, hq, T6⟩
            obtain rfl : p = p' := Eq.symm hq
            replace T6 := T6.swap
            clear T5 hq
            go_wp2
            go_roundw
            case rel => exact ⟨i + 1, m5, m6, bl5, bl6, insL 64 s u, insL 64 s' v, hin, by simp, T6, F5.out, by rw [hj'.out]; exact F5'.out⟩
            case measure => exact hms
          · obtain rfl : i = l'.length := by omega
            have hir : ¬ (l'.length : Int) < (l'.length : Int) := Int.lt_irrefl _
            have hss : s = s' := F4.same F4' T4.q.sorted T4.p.sorted fun e => by simp
            subst hss
            have hlen : s.length ≤ 64 := by have := T4.q.room.1; omega
            clear F4 F4' hD hl' hn
            go_wp2_with fail
            go_at_call 20
            refine T4.tags.mono ?_
            rintro e w5 ⟨v5, rfl, i5, T5, k5⟩
            clear T4 k5
            go_wp2_with fail
            go_at_call 20
            refine T5.swap.tags.mono ?_
            rintro e w6 ⟨v6, rfl, i6, T6, k6⟩
            replace i5 := i5.still k6
            replace T6 := T6.swap
            clear T5 k6
            go_wp2_with fail
            go_at_call 17
            refine (sameInts_any _ _ _ _ _ _ _ i5 i6 (by rw [length_tags]; omega)).mono ?_
            rintro e w7 ⟨rfl, k7⟩
            have hsame : decide (tags s = tags s) = true := decide_eq_true rfl
            rw [hsame]
            replace T6 := T6.on k7
            clear i5 i6 k7 hsame hlen
            go_wp2_with fail
            go_loopw [12] (fun iv wr => ∃ (i : Nat) (s : List En), i ≤ un.length ∧ iv = .int .i64 i ∧ Two W wr ⟨q, m, bl⟩ ⟨p, mp, blp⟩ s s) (fun iv _ => un.length - (intOf iv).toNat)
            case atStart => exact ⟨0, s, Nat.zero_le _, rfl, T6⟩
            case round =>
              clear T6
              obtain ⟨i, s, hi, rfl, T7⟩ := hrel
              by_cases hin : i < un.length
              · obtain ⟨a, rfl, hab, hcl⟩ := hu.2 (by omega)
                have hli := List.getElem?_eq_getElem hin
                generalize un[i] = f at hli
                obtain ⟨hfw, c0, c1, c2, c3, c4⟩ := hcl i f hli
                have hU5 : U5 W (a.add (i * 5)) f := ⟨c0, c1, c2, c3, c4⟩
                clear c0 c1 c2 c3 c4
                have hin2 : (i : Int) < (un.length : Int) := by omega
                have hi0 : 0 ≤ (i : Int) := by omega
                have hum : (un.length : Int) ≤ 9223372036854775807 := by have := hu.1; rw [maxLen_is] at this; omega
                have hms := meas_k hin
                clear hcl hli
                by_cases hiw : i < wa.length
                · obtain ⟨a', rfl, hab', hcl'⟩ := hw.2 (by omega)
                  have hlw := List.getElem?_eq_getElem hiw
                  generalize wa[i] = x at hlw
                  obtain ⟨hxw, x0⟩ := hcl' i x hlw
                  have hiw2 : (i : Int) < (wa.length : Int) := by omega
                  clear hcl' hlw
                  go_wp2_with fail
                  have T7d := T7.on ((Kept.refl (fun _ => False) wr).drew)
                  go_region_held3 (fun w' => Still W w' ∧ w'.cell? (a'.add i) = some (.int .i64 x))
                    (exact Two.num (by assumption) x0)
                    (first
                    | (go_at_call 13; with_reducible refine (T7d.wake hxw).mono ?_; rintro e w8 ⟨rfl, T8⟩)
                    | (go_at_call 13; with_reducible refine (T8.swap.wake hxw).mono ?_; rintro e w9 ⟨rfl, T9⟩))
                  replace T9 := T9.swap
                  clear T7 T7d T8
                  generalize hs1 : wakeL x s = s1 at *
                  clear hs1
                  have hpl : (pickS f s1).2.length < 1000000 := by have := pick_len f s1; have := T9.q.room.1; omega
                  have Td := T9.on ((Kept.refl (fun _ => False) _).drew)
                  go_wp2_with fail
                  go_region_held3 (fun w' => Still W w' ∧ w'.cell? (a.add (i * 5)) = some (.int .i64 (f 0)) ∧ w'.cell? ⟨(a.add (i * 5)).block, (a.add (i * 5)).off + 1, none⟩ = some (.int .i64 (f 1)) ∧ w'.cell? ⟨(a.add (i * 5)).block, (a.add (i * 5)).off + 2, none⟩ = some (.int .i64 (f 2)) ∧ w'.cell? ⟨(a.add (i * 5)).block, (a.add (i * 5)).off + 3, none⟩ = some (.int .i64 (f 3)) ∧ w'.cell? ⟨(a.add (i * 5)).block, (a.add (i * 5)).off + 4, none⟩ = some (.int .i64 (f 4)))
                    (exact Two.five (by assumption) hU5)
                    (first
                    | (go_at_call 15; with_reducible refine (Td.pick' hfw).mono ?_; rintro e wA ⟨vA, rfl, iA, TA, kA, lA⟩)
                    | (go_at_call 15; with_reducible refine (TA.swap.pick' hfw).mono ?_; rintro e wB ⟨vB, rfl, iB, TB, kB, lB⟩)
                    | (go_at_call 17; with_reducible refine (sameInts_any _ _ _ _ _ _ _ (iA.kept kB (fun b hb e => absurd (lA b e) (by omega))) iB hpl).mono ?_; rintro e wC ⟨rfl, kC⟩; have TC := TB.on kC))
                  replace TC := TC.swap
                  clear TB TA Td iA iB kA kB lA lB kC T9
                  generalize (pickS f s1).1 = s9 at *
                  go_wp2
                  go_roundw
                  case rel => exact ⟨i + 1, s9, hin, by simp, TC⟩
                  case measure => exact hms
                · have hiw2 : ¬ (i : Int) < (wa.length : Int) := by omega
                  go_wp2_with fail
                  go_quiet (fail)
                  have T8 := T7.on ((Kept.refl (fun _ => False) wr).drewN nq)
                  clear T7
                  generalize wr.drewN nq = wr2 at *
                  have hpl : (pickS f s).2.length < 1000000 := by have := pick_len f s; have := T8.q.room.1; omega
                  have Td := T8.on ((Kept.refl (fun _ => False) _).drew)
                  go_wp2_with fail
                  go_region_held3 (fun w' => Still W w' ∧ w'.cell? (a.add (i * 5)) = some (.int .i64 (f 0)) ∧ w'.cell? ⟨(a.add (i * 5)).block, (a.add (i * 5)).off + 1, none⟩ = some (.int .i64 (f 1)) ∧ w'.cell? ⟨(a.add (i * 5)).block, (a.add (i * 5)).off + 2, none⟩ = some (.int .i64 (f 2)) ∧ w'.cell? ⟨(a.add (i * 5)).block, (a.add (i * 5)).off + 3, none⟩ = some (.int .i64 (f 3)) ∧ w'.cell? ⟨(a.add (i * 5)).block, (a.add (i * 5)).off + 4, none⟩ = some (.int .i64 (f 4)))
                    (exact Two.five (by assumption) hU5)
                    (first
                    | (go_at_call 15; with_reducible refine (Td.pick' hfw).mono ?_; rintro e wA ⟨vA, rfl, iA, TA, kA, lA⟩)
                    | (go_at_call 15; with_reducible refine (TA.swap.pick' hfw).mono ?_; rintro e wB ⟨vB, rfl, iB, TB, kB, lB⟩)
                    | (go_at_call 17; with_reducible refine (sameInts_any _ _ _ _ _ _ _ (iA.kept kB (fun b hb e => absurd (lA b e) (by omega))) iB hpl).mono ?_; rintro e wC ⟨rfl, kC⟩; have TC := TB.on kC))
                  replace TC := TC.swap
                  clear TB TA Td iA iB kA kB lA lB kC T8
                  generalize (pickS f s).1 = s9 at *
                  go_wp2
                  go_roundw
                  case rel => exact ⟨i + 1, s9, hin, by simp, TC⟩
                  case measure => exact hms
              · obtain rfl : i = un.length := by omega
                have hir : ¬ (un.length : Int) < (un.length : Int) := Int.lt_irrefl _
                have hlen : s.length ≤ 64 := by have := T7.q.room.1; omega
                go_wp2_with fail
                go_at_call 20
                refine T7.tags.mono ?_
                rintro e w8 ⟨v8, rfl, i8, T8, k8⟩
                clear T7 k8
                go_wp2_with fail
                go_at_call 20
                refine T8.swap.tags.mono ?_
                rintro e w9 ⟨v9, rfl, i9, T9, k9⟩
                replace i8 := i8.still k9
                clear T8 k9
                go_wp2_with fail
                go_at_call 17
                refine (sameInts_any _ _ _ _ _ _ _ i8 i9 (by rw [length_tags]; omega)).mono ?_
                rintro e w10 ⟨rfl, k10⟩
                have hst := T9.mq.still.trans k10
                have hsame : decide (tags s = tags s) = true := decide_eq_true rfl
                rw [hsame]
                clear i8 i9 T9
                go_wp2
                go_ret
                exact ⟨rfl, hst.below (Nat.le_refl _) (fun _ _ e => e)⟩
end Go.Proofs.Ytaeggnnijafooaa
