/-
  Pick.
-/
import Derived.Test.YtaeggnnijafooaaIssueE
namespace Go.Proofs.Ytaeggnnijafooaa
set_option linter.unusedVariables false
open Go.RowKit Go.Maps

/-- How many may still go. -/
def pickU : (Int → Int) → List En → (Int → Int)
  | f, [] => f
  | f, e :: r => if ready e = true ∧ 1 ≤ f e.unit then pickU (upd f e.unit (f e.unit - 1)) r else pickU f r
theorem pickS_nil (f : Int → Int) : pickS f [] = ([], []) := rfl
theorem pickU_nil (f : Int → Int) : pickU f [] = f := rfl
theorem pickS_yes {f : Int → Int} {e : En} (r : List En) (h : ready e = true ∧ 1 ≤ f e.unit) : pickS f (e :: r) = ((pickS (upd f e.unit (f e.unit - 1)) r).1, e.tag :: (pickS (upd f e.unit (f e.unit - 1)) r).2) := by
  rw [pickS, if_pos h]
theorem pickS_not {f : Int → Int} {e : En} (r : List En) (h : ¬ (ready e = true ∧ 1 ≤ f e.unit)) : pickS f (e :: r) = (e :: (pickS f r).1, (pickS f r).2) := by
  rw [pickS, if_neg h]
theorem pickU_yes {f : Int → Int} {e : En} (r : List En) (h : ready e = true ∧ 1 ≤ f e.unit) : pickU f (e :: r) = pickU (upd f e.unit (f e.unit - 1)) r := by
  rw [pickU, if_pos h]
theorem pickU_not {f : Int → Int} {e : En} (r : List En) (h : ¬ (ready e = true ∧ 1 ≤ f e.unit)) : pickU f (e :: r) = pickU f r := by
  rw [pickU, if_neg h]
theorem snoc_yes : ∀ (f : Int → Int) (d : List En) (e : En), (ready e = true ∧ 1 ≤ pickU f d e.unit) → pickS f (d ++ [e]) = ((pickS f d).1, (pickS f d).2 ++ [e.tag]) ∧ pickU f (d ++ [e]) = upd (pickU f d) e.unit (pickU f d e.unit - 1)
  | f, [], e, h => by
    rw [pickU_nil] at h
    rw [List.nil_append, pickS_yes _ h, pickU_yes _ h, pickS_nil, pickS_nil, pickU_nil, pickU_nil]
    exact ⟨rfl, rfl⟩
  | f, x :: d, e, h => by
    rw [List.cons_append]
    by_cases hx : ready x = true ∧ 1 ≤ f x.unit
    · rw [pickU_yes d hx] at h
      have := snoc_yes _ d e h
      rw [pickS_yes _ hx, pickS_yes _ hx, pickU_yes _ hx, pickU_yes _ hx, this.1, this.2]
      exact ⟨rfl, rfl⟩
    · rw [pickU_not d hx] at h
      have := snoc_yes _ d e h
      rw [pickS_not _ hx, pickS_not _ hx, pickU_not _ hx, pickU_not _ hx, this.1, this.2]
      exact ⟨rfl, rfl⟩
theorem snoc_not : ∀ (f : Int → Int) (d : List En) (e : En), ¬ (ready e = true ∧ 1 ≤ pickU f d e.unit) → pickS f (d ++ [e]) = ((pickS f d).1 ++ [e], (pickS f d).2) ∧ pickU f (d ++ [e]) = pickU f d
  | f, [], e, h => by
    rw [pickU_nil] at h
    rw [List.nil_append, pickS_not _ h, pickU_not _ h, pickS_nil, pickU_nil]
    exact ⟨rfl, rfl⟩
  | f, x :: d, e, h => by
    rw [List.cons_append]
    by_cases hx : ready x = true ∧ 1 ≤ f x.unit
    · rw [pickU_yes d hx] at h
      have := snoc_not _ d e h
      rw [pickS_yes _ hx, pickS_yes _ hx, pickU_yes _ hx, pickU_yes _ hx, this.1, this.2]
      exact ⟨rfl, rfl⟩
    · rw [pickU_not d hx] at h
      have := snoc_not _ d e h
      rw [pickS_not _ hx, pickS_not _ hx, pickU_not _ hx, pickU_not _ hx, this.1, this.2]
      exact ⟨rfl, rfl⟩
theorem pick_sub : ∀ (f : Int → Int) (s : List En), (pickS f s).1.Sublist s
  | f, [] => List.Sublist.refl _
  | f, e :: r => by
    simp only [pickS]
    split
    · exact (pick_sub _ r).trans (List.sublist_cons_self _ _)
    · exact (pick_sub _ r).cons_cons e
theorem pick_len : ∀ (f : Int → Int) (s : List En), (pickS f s).2.length ≤ s.length
  | f, [] => Nat.le_refl _
  | f, e :: r => by
    simp only [pickS]
    split
    · exact Nat.succ_le_succ (pick_len _ r)
    · exact Nat.le_succ_of_le (pick_len _ r)
theorem pickU_wf : ∀ (f : Int → Int) (s : List En), (∀ k, (Lit.int .i64 (f k)).wf = true) → ∀ k, (Lit.int .i64 (pickU f s k)).wf = true
  | f, [], h, k => h k
  | f, e :: r, h, k => by
    simp only [pickU]
    split
    · rename_i hc
      refine pickU_wf _ r (fun j => ?_) k
      unfold upd
      split
      · have := (wf_i _).1 (h e.unit)
        exact (wf_i _).2 (by omega)
      · exact h j
    · exact pickU_wf _ r h k
/-- The units' array. -/
def unV (f : Int → Int) : Value := .agg #[.int .i64 (f 0), .int .i64 (f 1), .int .i64 (f 2), .int .i64 (f 3), .int .i64 (f 4)]
theorem Owns.kept {w w' : World} {base n size : Nat} {e : TypeId} {v : Value} {xs : List Value} {S : Nat → Prop} (h : w.ownsRow base e size v n xs) (k : Kept S w w') (hs : ∀ b, base ≤ b → ¬ S b) : w'.ownsRow base e size v n xs := by
  obtain ⟨h1, h2⟩ := h
  refine ⟨h1, ?_⟩
  rcases h2 with h2 | ⟨g, cap, cur, r1, r2, r3, r4⟩
  · exact .inl h2
  · exact .inr ⟨g, cap, cur, r1, r2, (k.block g (Array.getElem?_eq_some_iff.1 r3).1 (hs g r2)).trans r3, r4⟩
/-- .. in memory. -/
def UnAt (w : World) (b : Nat) (f : Int → Int) : Prop := w.heap[b]? = some (.cells #[.int .i64 (f 0), .int .i64 (f 1), .int .i64 (f 2), .int .i64 (f 3), .int .i64 (f 4)] 31 (0, 0))
theorem UnAt.cell {w : World} {b : Nat} {f : Int → Int} (h : UnAt w b f) {u : Nat} (hu : u < 5) : w.cell? ⟨b, u, none⟩ = some (.int .i64 (f u)) := by
  unfold UnAt at h
  have : u = 0 ∨ u = 1 ∨ u = 2 ∨ u = 3 ∨ u = 4 := by omega
  rcases this with rfl | rfl | rfl | rfl | rfl <;> simp [World.cell?, h]
theorem UnAt.free {w : World} {b : Nat} {f : Int → Int} (h : UnAt w b f) (u : Nat) : w.frozen? ⟨b, u, none⟩ = false := by
  unfold UnAt at h
  simp [World.frozen?, h]
theorem UnAt.set {w : World} {b : Nat} {f : Int → Int} (h : UnAt w b f) {u : Nat} (hu : u < 5) (x : Int) : UnAt (w.setCell ⟨b, u, none⟩ (.int .i64 x)) b (upd f u x) := by
  unfold UnAt at h ⊢
  have : u = 0 ∨ u = 1 ∨ u = 2 ∨ u = 3 ∨ u = 4 := by omega
  rcases this with rfl | rfl | rfl | rfl | rfl <;> simp [World.setCell, Array.getElem?_modify, h, upd]
theorem UnAt.kept {w w' : World} {b : Nat} {f : Int → Int} {S : Nat → Prop} (h : UnAt w b f) (k : Kept S w w') (hs : ¬ S b) : UnAt w' b f :=
  (k.block b (Array.getElem?_eq_some_iff.1 h).1 hs).trans h
theorem UnAt.lt {w : World} {b : Nat} {f : Int → Int} (h : UnAt w b f) : b < w.heap.size := (Array.getElem?_eq_some_iff.1 h).1
theorem own_mono {g : G} {s s' : List En} (h : ∀ e ∈ s', e ∈ s) {b : Nat} (hb : g.own s' b) : g.own s b := by
  rcases hb with rfl | rfl | ⟨e, he, rfl⟩
  · exact .inl rfl
  · exact .inr (.inl rfl)
  · exact .inr (.inr ⟨e, h e he, rfl⟩)
set_option maxRecDepth 100000 in
set_option maxHeartbeats 4000000 in
theorem Pick_any (w : World) (g : G) (size : Int) (s : List En) (f : Int → Int) (h : Held w g size s) (hf : ∀ k, (Lit.int .i64 (f k)).wf = true) : Calls Try.prog 15 #[.pointer (some ⟨g.q, 0, none⟩), unV f] w fun e w' =>
    ∃ v, e = .returned v ∧ Ints w' w.heap.size v (pickS f s).2 ∧ Held w' g size (pickS f s).1 ∧ Kept (g.own s) w w' := by
  have hroom := h.room
  have hsorted := h.sorted
  have hlt : g.m < w.heap.size := h.m.lt
  have hqlt : g.q < w.heap.size := h.lt (.inl rfl)
  obtain ⟨i0, hi, hz0, hz1, hz2⟩ := info_parts infoI
  unfold unV
  go_enter Try.func15, Try.ntmps15
  go_wp2_with fail
  go_at_call 20
  have hU0 : UnAt (w.alloc (.cells #[.int .i64 (f 0), .int .i64 (f 1), .int .i64 (f 2), .int .i64 (f 3), .int .i64 (f 4)] 31)) w.heap.size f := heap_alloc_new _ _
  have k0 : Still w (w.alloc (.cells #[.int .i64 (f 0), .int .i64 (f 1), .int .i64 (f 2), .int .i64 (f 3), .int .i64 (f 4)] 31)) := (Kept.refl _ w).alloc _
  have hsz : (w.alloc (.cells #[.int .i64 (f 0), .int .i64 (f 1), .int .i64 (f 2), .int .i64 (f 3), .int .i64 (f 4)] 31)).heap.size = w.heap.size + 1 := by simp
  refine (Tags_ints _ g size s (h.alloc _)).mono ?_
  rintro e w1 ⟨v, rfl, hints, k1⟩
  obtain ⟨z, cap, rfl, hz⟩ := hints
  have k01 : Still w w1 := k0.trans k1
  have h1 := h.still k01
  have hU1 := hU0.kept k1 (fun e => e)
  have hub := hU1.lt
  have hlen : (tags s).length = s.length := length_tags s
  rw [hsz] at hz
  rw [hlen] at hz ⊢
  replace hz := hide hz
  replace h1 := hide h1
  have hown1 : ∀ b, g.own s b → b < w1.heap.size := fun b hb => h1.out.lt hb
  have hownu : ∀ b, g.own s b → b < w.heap.size := fun b hb => h.lt hb
  replace hown1 := hide hown1
  replace hownu := hide hownu
  clear h k0 hsz hU0 k1
  go_wp2
  go_loopw [5, 12] (fun ov iv wr => ∃ d r : List En, s = d ++ r ∧ iv = .int .i64 d.length ∧ wr.ownsRow w1.heap.size 3 1 ov (pickS f d).2.length ((pickS f d).2.map (Value.int .i64)) ∧
      UnAt wr w.heap.size (pickU f d) ∧ Held wr g size ((pickS f d).1 ++ r) ∧ Kept (fun b => b = g.m ∨ b = w.heap.size) w1 wr) (fun _ iv _ => s.length - (intOf iv).toNat)
  case atStart => exact ⟨[], s, rfl, rfl, World.ownsRow_nil _ _ _ _, hU1, h1.out, Kept.refl _ _⟩
  case round =>
    obtain ⟨d, r, hs, rfl, hrow, hU, hh, k2⟩ := hrel
    have hsl : s.length = d.length + r.length := by rw [hs, List.length_append]
    have hdl := pick_len f d
    have hdk : (d.length : Int) < 1000 := by omega
    cases r with
    | nil =>
      obtain rfl : s = d := by rw [hs, List.append_nil]
      have hnot : ¬ (s.length : Int) < (s.length : Int) := Int.lt_irrefl _
      rw [List.append_nil] at hh
      clear hs hz hsl
      go_wp2
      go_ret
      exact ⟨_, rfl, (ints_of hrow rfl).low k01.size, hh, (k01.mono (fun _ e => e.elim)).start (k2.mono fun b e => e.elim (fun e => .inl (.inr (.inl e))) (fun e => .inr (by omega)))⟩
    | cons e r =>
      obtain ⟨b, rfl, hb, hbl, hc⟩ := hz.out (by simp at hsl; omega)
      have hte : (tags s)[d.length]? = some e.tag := by unfold tags; rw [hs]; simp
      have x0 := k2.cell (hc _ _ hte) (fun e' => by omega)
      have hin : (d.length : Int) < (s.length : Int) := by simp at hsl; omega
      have hin0 : 0 ≤ (d.length : Int) := by omega
      have hms := meas_k (k := d.length) (n := s.length) (by omega)
      have hs' : s = (d ++ [e]) ++ r := by rw [hs]; simp
      have hso : Sorted (d ++ e :: r) := hs ▸ hsorted
      have hwf : (Lit.int .i64 e.tag).wf = true := hh.m.wf (by simp)
      have he : e ∈ (pickS f d).1 ++ e :: r := by simp
      obtain ⟨u, hu⟩ : ∃ u : Nat, e.unit = u := ⟨e.unit.toNat, by have := (hh.units e he).1; omega⟩
      have hu5 : u < 5 := by have := (hh.units e he).2; omega
      have hu5' : (u : Int) < 5 := by omega
      have hu0' : 0 ≤ (u : Int) := by omega
      have hget := hh.m.get he hwf
      rw [hu] at hget
      have c1 := hh.c1
      have xu := hU.cell hu5
      have hFwf := (wf_i _).1 (pickU_wf f d hf u)
      have hget := hget
      obtain ⟨n, hlenr, hn⟩ := ((hh.sets e he).kept (w' := wr.alloc (.cells #[.int .i64 u, .map (some (g.bl e.tag))] 57)) (Below.heap_alloc _ _ _ (hh.sets e he).lt)).len 3
      have ka : Kept (fun b => b = g.m ∨ b = w.heap.size) w1 (wr.alloc (.cells #[.int .i64 u, .map (some (g.bl e.tag))] 57)) := k2.alloc _
      have hwl : w.heap.size < wr.heap.size := hU.lt
      clear hz hc hte hsl
      replace hs := hide hs
      replace hs' := hide hs'
      replace hn := hide hn
      have hwrlen : w1.heap.size ≤ wr.heap.size := k2.size
      generalize hF : pickU f d u = F at xu hFwf
      replace hF := hide hF
      obtain ⟨hFw1, hFw2⟩ := hFwf
      by_cases hn0 : n = 0
      · by_cases hF1 : F < 1
        · have hno : ¬ (ready e = true ∧ 1 ≤ pickU f d e.unit) := fun h => by rw [hu, hF.out] at h; omega
          subst hn0
          have hst := hide (snoc_not f d e hno)
          replace hh := hide hh
          replace hU := hide hU
          replace hrow := hide hrow
          go_wp2
          go_roundw
          case rel =>
            refine ⟨d ++ [e], r, hs'.out, by simp, ?_, ?_, ?_, ka⟩
            · rw [hst.out.1]; exact hrow.out.alloc _
            · rw [hst.out.2]; exact hU.out.kept (S := fun _ => False) ((Kept.refl _ _).alloc _) (fun e => e)
            · rw [hst.out.1]; simpa using hh.out.alloc _
          case measure => exact hms
        · have hyes : ready e = true ∧ 1 ≤ pickU f d e.unit := ⟨hn.out.1 hn0, by rw [hu, hF.out]; omega⟩
          subst hn0
          have hst := hide (snoc_yes f d e hyes)
          have hF1' : 1 ≤ F := by omega
          have hbm : g.m ≠ w.heap.size := by omega
          have hbmr : g.m ≠ wr.heap.size := by omega
          have hUs := (hU.set hu5 (F - 1)).kept (S := fun _ => False) ((Kept.refl _ _).alloc (.cells #[.int .i64 u, .map (some (g.bl e.tag))] 57)) (fun e => e)
          have k3 : Kept (fun b => b = w.heap.size) wr ((wr.setCell ⟨w.heap.size, u, none⟩ (.int .i64 (F - 1))).alloc (.cells #[.int .i64 u, .map (some (g.bl e.tag))] 57)) := (((Kept.refl (fun b => b = w.heap.size) wr).setCell ⟨w.heap.size, u, none⟩ (.int .i64 (F - 1)) (.inl rfl))).alloc _
          have hh3 := hh.kept k3 (fun b hb e' => by have := hownu.out b (own_mono (fun y hy => by rw [hs.out]; rcases List.mem_append.1 hy with h | h; exact List.mem_append.2 (.inl ((pick_sub f d).mem h)); exact List.mem_append.2 (.inr h)) hb); omega)
          have hrow3 := (ownsRow_setCell_below hrow (a := ⟨w.heap.size, u, none⟩) hub (.int .i64 (F - 1))).alloc (.cells #[.int .i64 u, .map (some (g.bl e.tag))] 57)
          have hfr : (wr.alloc (.cells #[.int .i64 u, .map (some (g.bl e.tag))] 57)).frozen? ⟨w.heap.size, u, none⟩ = false := (hU.kept (S := fun _ => False) ((Kept.refl _ wr).alloc _) (fun e => e)).free u
          have c13 := hh3.c1
          have hk3 : w1.heap.size ≤ ((wr.setCell ⟨w.heap.size, u, none⟩ (.int .i64 (F - 1))).alloc (.cells #[.int .i64 u, .map (some (g.bl e.tag))] 57)).heap.size := Nat.le_trans k2.size k3.size
          obtain ⟨w4, hrun, hq4, ht4⟩ := hh3.m.drop hwf 0
          rw [cut_one (f := fun d => (pickS f d).1) hso (pick_sub f d)] at hq4
          have k34 : Kept (fun b => b = g.m) ((wr.setCell ⟨w.heap.size, u, none⟩ (.int .i64 (F - 1))).alloc (.cells #[.int .i64 u, .map (some (g.bl e.tag))] 57)) w4 := (Kept.refl _ _).turned ht4 (.inl rfl)
          have hh4 := hh3.sub k34 (fun _ e => e) hq4 ((List.Sublist.refl _).append (List.sublist_cons_self _ _))
          have hU4 := hUs.kept k34 (fun e => by omega)
          have hrow4 := Owns.kept hrow3 k34 (fun b hb e => by omega)
          have k4 : Kept (fun b => b = g.m ∨ b = w.heap.size) w1 w4 := (k2.trans (k3.mono fun b e => .inr e)).trans (k34.mono fun b e => .inl e)
          have hk4 : w1.heap.size ≤ w4.heap.size := k4.size
          have hol : ∀ b, g.own ((pickS f d).1 ++ r) b → b < w1.heap.size := fun b hb => hown1.out b (own_mono (fun y hy => by
            rw [hs.out]
            rcases List.mem_append.1 hy with h | h
            · exact List.mem_append.2 (.inl ((pick_sub f d).mem h))
            · exact List.mem_append.2 (.inr (List.mem_cons_of_mem _ h))) hb)
          replace hol := hide hol
          replace hh4 := hide hh4
          replace hU4 := hide hU4
          replace k4 := hide k4
          clear hq4 ht4 k34 hh3 hrow3 k3 hUs hh hU hrow k2 ka hwrlen hn
          have hlz : (pickS f d).2.length < 1000 := by omega
          go_wp2_with (first
            | (at_builtin; refine wpList_append_own_at _ rfl _ _ 36 rfl w1.heap.size 3 i0 (.int .i64 0) 1 8 Try.underlying36 hi hz0 hz1 hz2 rfl (by decide) _ _ _ rfl (hrow4.alloc _) ⟨w4.heap.size, 0, none⟩ 1 1 [.int .i64 e.tag] rfl rfl (cell_one_new _ _ _) (by simp [Value.oneCell']) (by unfold maxLen; omega) (by omega) (by simp; omega) ?_; intro v' w5 hown' hg5 hnil5 hloc; go_frame))
          have k45 : Kept (fun b => w1.heap.size ≤ b) w4 w5 := ((Kept.refl _ w4).alloc _).grown hg5 (fun p hp => .inl (hrow4.lt p hp).1)
          go_roundw
          case rel =>
            refine ⟨d ++ [e], r, hs'.out, by simp, ?_, ?_, ?_, k4.out.start (k45.mono fun b hb => .inr hb)⟩
            · rw [hst.out.1]; simpa using hown'
            · rw [hst.out.2, hu, hF.out]; exact hU4.out.kept k45 (fun e => by omega)
            · rw [hst.out.1]; exact hh4.out.kept k45 (fun b hb e => by have := hol.out b hb; omega)
          case measure => exact hms
      · have hno : ¬ (ready e = true ∧ 1 ≤ pickU f d e.unit) := fun h => hn0 (hn.out.2 h.1)
        have hn1 : 0 < n := by omega
        have hst := hide (snoc_not f d e hno)
        replace hh := hide hh
        replace hU := hide hU
        replace hrow := hide hrow
        go_wp2
        go_roundw
        case rel =>
          refine ⟨d ++ [e], r, hs'.out, by simp, ?_, ?_, ?_, ka⟩
          · rw [hst.out.1]; exact hrow.out.alloc _
          · rw [hst.out.2]; exact hU.out.kept (S := fun _ => False) ((Kept.refl _ _).alloc _) (fun e => e)
          · rw [hst.out.1]; simpa using hh.out.alloc _
        case measure => exact hms
end Go.Proofs.Ytaeggnnijafooaa
