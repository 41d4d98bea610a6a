/-
  What stands round the walk of IssueGoes.
-/
import Derived.Test.YtaeggnnijafooaaIssueGA
namespace Go.Proofs.Ytaeggnnijafooaa
set_option linter.unusedVariables false
open Go.RowKit Go.Maps

/-- The queue and the law's own row beside it. -/
structure Goe (W w : World) (g : G) (v : Value) (s inn : List En) : Prop where
  q : Held w g 64 s
  mq : Mine W g s w
  row : URow w W.heap.size v inn
  ap : ∀ x, v.ownBlock = some x → ¬ g.own s x
theorem Goe.lt {W w : World} {g : G} {v : Value} {s inn : List En} (h : Goe W w g v s inn) {x : Nat} (hx : g.own s x ∨ v.ownBlock = some x) : x < w.heap.size := by
  rcases hx with hx | hx
  · exact h.q.lt hx
  · exact (h.row.lt x hx).2
theorem Goe.on {W w w' : World} {g : G} {v : Value} {s inn : List En} (h : Goe W w g v s inn) (k : Still w w') : Goe W w' g v s inn := ⟨h.q.still k, h.mq.on k, h.row.still k, h.ap⟩
theorem Goe.qs {W w w' : World} {g g1 : G} {v : Value} {s s1 inn : List En} (h : Goe W w g v s inn) (h1 : Held w' g1 64 s1) (k : Kept (g.own s) w w') (ho : ∀ x, g1.own s1 x → g.own s x ∨ w.heap.size ≤ x) : Goe W w' g1 v s1 inn :=
  ⟨h1, h.mq.step k ho, h.row.kept k fun x hx e => h.ap x hx e, fun x hx e => by
    rcases ho x e with h2 | h2
    · exact h.ap x hx h2
    · have := (h.row.lt x hx).2; omega⟩
theorem Goe.as {W w : World} {g : G} {v : Value} {s s' inn : List En} (h : Goe W w g v s inn) (hq : Held w g 64 s') (ho : ∀ x, g.own s' x → g.own s x) : Goe W w g v s' inn :=
  ⟨hq, ⟨h.mq.still, fun x hx => h.mq.mine x (ho x hx)⟩, h.row, fun x hx e => h.ap x hx (ho x e)⟩
/-- Another row is the law's. -/
theorem Goe.lay {W w w' : World} {g : G} {v v' : Value} {s inn inn' : List En} (h : Goe W w g v s inn) (k : Still w w') (h' : URow w' w.heap.size v' inn') : Goe W w' g v' s inn' :=
  ⟨h.q.still k, h.mq.on k, Owns.low h' h.mq.still.size, fun x hx e => by have := h.q.lt e; have := (h'.lt x hx).1; omega⟩
theorem Goe.app {W w w' : World} {g : G} {v v' : Value} {s inn : List En} {u : En} {o : Obj} (h : Goe W w g v s inn)
    (hown : w'.ownsRow W.heap.size 30 5 v' (inn.length + 1) (uC inn ++ [.int .i64 u.tag, .int .i64 u.unit, .int .i64 u.a, .int .i64 u.b, .int .i64 u.c])) (hg : (w.alloc o).grownBy w' v.ownBlock) (hloc : v'.ownBlock = v.ownBlock ∨ v'.ownBlock = some (w.alloc o).heap.size) : Goe W w' g v' s (inn ++ [u]) := by
  have k : Kept (fun b => v.ownBlock = some b) w w' := ((Kept.refl _ w).alloc o).grown hg (fun p hp => .inl hp)
  refine ⟨h.q.kept k fun b hb e => h.ap b e hb, ⟨h.mq.still.start (k.mono fun b hb => .inr (h.row.lt b hb).1), h.mq.mine⟩, URow.app hown, fun x hx e => ?_⟩
  rcases hloc with h1 | h1
  · exact h.ap x (h1 ▸ hx) e
  · rw [h1] at hx
    have := Option.some.inj hx
    have := h.q.lt e
    simp at *
    omega
theorem Held.alike {w : World} {g : G} {size : Int} {s : List En} (h : Held w g size s) {f : En → En} (ht : ∀ e, (f e).tag = e.tag) (hu : ∀ e, (f e).unit = e.unit) (hw : ∀ e k, waits (f e) k = waits e k) : Held w g size (s.map f) := by
  have hmem : ∀ {e : En}, e ∈ s.map f → ∃ y ∈ s, e = f y := fun he => by obtain ⟨y, hy, e⟩ := List.mem_map.1 he; exact ⟨y, hy, e.symm⟩
  refine ⟨h.q, h.m.map ht hu, fun e he => ?_, sorted_map h.sorted ht, fun e he e' he' hb => ?_, fun e he => ?_, by rw [List.length_map]; exact h.room, fun e he => ?_⟩
  · obtain ⟨y, hy, rfl⟩ := hmem he; rw [ht]; exact (h.sets y hy).same fun k => (hw y k).symm
  · obtain ⟨y, hy, rfl⟩ := hmem he
    obtain ⟨y', hy', rfl⟩ := hmem he'
    rw [ht, ht] at hb ⊢
    exact h.inj y hy y' hy' hb
  · obtain ⟨y, hy, rfl⟩ := hmem he; rw [ht]; exact h.ne y hy
  · obtain ⟨y, hy, rfl⟩ := hmem he; rw [hu]; exact h.units y hy
theorem held_str {w : World} {g : G} {size p : Int} {s : List En} (h : Held w g size (wakeL p s)) : Held w g size (s.map (strK p 3)) := by
  by_cases hp : 0 ≤ p
  · have : s.map (strK p 3) = wakeL p s := by unfold wakeL; congr 1; funext e; exact strK_3 hp e
    rw [this]
    exact h
  · have h1 : wakeL p s = s := by
      unfold wakeL
      have : strike p = id := funext fun e => by unfold strike; rw [if_neg hp]; rfl
      rw [this, List.map_id]
    rw [h1] at h
    refine h.alike (fun e => rfl) (fun e => rfl) fun e k => ?_
    have key : ∀ y : Int, 0 ≤ k → decide (k = str1 p y) = decide (k = y) := fun y hk => by
      refine decide_eq_decide.2 ?_
      unfold str1
      split <;> omega
    unfold waits strK
    by_cases hk : 0 ≤ k
    · simp only [Nat.reduceLeDiff, if_true, key _ hk, Nat.le_refl]
    · rw [decide_eq_false hk]; rfl
theorem own_map {g : G} {s : List En} {f : En → En} (ht : ∀ e, (f e).tag = e.tag) {b : Nat} (h : g.own (s.map f) b) : g.own s b := by
  rcases h with rfl | rfl | ⟨e, he, rfl⟩
  · exact .inl rfl
  · exact .inr (.inl rfl)
  · obtain ⟨y, hy, rfl⟩ := List.mem_map.1 he
    rw [ht]
    exact .inr (.inr ⟨y, hy, rfl⟩)
theorem own_to {g : G} {s : List En} {f : En → En} (ht : ∀ e, (f e).tag = e.tag) {b : Nat} (h : g.own s b) : g.own (s.map f) b := by
  rcases h with rfl | rfl | ⟨e, he, rfl⟩
  · exact .inl rfl
  · exact .inr (.inl rfl)
  · exact .inr (.inr ⟨f e, List.mem_map.2 ⟨e, he, rfl⟩, by rw [ht]⟩)
/-- What a round has seen of the units. -/
def LastOk (P : List Int) (d : List En) (la : Int → Int) : Prop := ∀ k, 0 < cntU k (d.filter (inT P)) → ∃ e ∈ d, inT P e = true ∧ e.unit = k ∧ la k = e.tag
def takenF (P : List Int) (d : List En) : Int → Int := fun k => (cntU k (d.filter (inT P)) : Int)
theorem cntU_snoc (k : Int) (l : List En) (e : En) : cntU k (l ++ [e]) = cntU k l + (if e.unit = k then 1 else 0) := by
  unfold cntU
  rw [List.filter_append, List.length_append, List.filter_cons]
  by_cases h : e.unit = k
  · simp [h]
  · simp [h]
theorem filter_in {P : List Int} {d : List En} {e : En} (h : inT P e = true) : (d ++ [e]).filter (inT P) = d.filter (inT P) ++ [e] := by
  rw [List.filter_append, List.filter_cons, h]; rfl
theorem filter_out {P : List Int} {d : List En} {e : En} (h : inT P e = false) : (d ++ [e]).filter (inT P) = d.filter (inT P) := by
  rw [List.filter_append, List.filter_cons, h]; simp
theorem taken_in {P : List Int} {d : List En} {e : En} (h : inT P e = true) : takenF P (d ++ [e]) = upd (takenF P d) e.unit (takenF P d e.unit + 1) := by
  funext k
  unfold takenF upd
  rw [filter_in h, cntU_snoc]
  by_cases hk : k = e.unit
  · subst hk; simp
  · rw [if_neg (fun e' => hk e'.symm), if_neg hk]; simp
theorem taken_out {P : List Int} {d : List En} {e : En} (h : inT P e = false) : takenF P (d ++ [e]) = takenF P d := by
  unfold takenF
  rw [filter_out h]
theorem last_out {P : List Int} {d : List En} {e : En} {la : Int → Int} (h : inT P e = false) (hl : LastOk P d la) : LastOk P (d ++ [e]) la := fun k hk => by
  rw [filter_out h] at hk
  obtain ⟨y, hy, r⟩ := hl k hk
  exact ⟨y, List.mem_append.2 (.inl hy), r⟩
theorem last_new {P : List Int} {d : List En} {e : En} {la : Int → Int} (h : inT P e = true) (hl : LastOk P d la) : LastOk P (d ++ [e]) (upd la e.unit e.tag) := fun k hk => by
  by_cases hu : k = e.unit
  · exact ⟨e, by simp, h, hu.symm, by unfold upd; rw [if_pos hu]⟩
  · rw [filter_in h, cntU_snoc, if_neg (fun e' => hu e'.symm)] at hk
    obtain ⟨y, hy, h1, h2, h3⟩ := hl k hk
    exact ⟨y, List.mem_append.2 (.inl hy), h1, h2, by unfold upd; rw [if_neg hu]; exact h3⟩
theorem last_old {P : List Int} {d : List En} {e : En} {la : Int → Int} (h : inT P e = true) (hl : LastOk P d la) (hc : 0 < cntU e.unit (d.filter (inT P))) : LastOk P (d ++ [e]) la := fun k hk => by
  by_cases hu : k = e.unit
  · subst hu
    obtain ⟨y, hy, r⟩ := hl _ hc
    exact ⟨y, List.mem_append.2 (.inl hy), r⟩
  · rw [filter_in h, cntU_snoc, if_neg (fun e' => hu e'.symm)] at hk
    obtain ⟨y, hy, r⟩ := hl k hk
    exact ⟨y, List.mem_append.2 (.inl hy), r⟩
theorem unat_zero (w : World) : UnAt (w.alloc (.cells #[.int .i64 0, .int .i64 0, .int .i64 0, .int .i64 0, .int .i64 0] 31)) w.heap.size (fun _ => 0) := heap_alloc_new _ _
/-- What is known of what Pick took. -/
structure Picks (f : Int → Int) (P : List Int) (R inn : List En) : Prop where
  rd : ∀ e ∈ inn, inT P e = true → ready e = true
  len : (inn.filter (inT P)).length = P.length
  left : (inn.filter fun e => !inT P e).Perm R
  stay : ∀ e ∈ inn, inT P e = false → ready e = true → f e.unit ≤ takenF P inn e.unit ∧ ∀ y ∈ inn, inT P y = true → y.unit = e.unit → y.tag < e.tag
  most : ∀ k, takenF P inn k ≤ ((f k).toNat : Int)
  rise : P.Pairwise (· < ·)
theorem picks_of {f : Int → Int} {s inn : List En} (hs : Sorted s) (hp : inn.Perm s) : Picks f (pickS f s).2 (pickS f s).1 inn := by
  have h1 := pk_filter (f := f) hs hp
  have h2 := left_filter (f := f) hs hp
  have hin : ∀ e, e ∈ inn → inT (pickS f s).2 e = true → e ∈ pkL f s := fun e he ht => h1.mem_iff.1 (List.mem_filter.2 ⟨he, ht⟩)
  have hc : ∀ k, cntU k (inn.filter (inT (pickS f s).2)) = cntU k (pkL f s) := fun k => (h1.filter _).length_eq
  refine ⟨fun e he ht => pk_ready f s e (hin e he ht), ?_, h2, fun e he ht hr => ?_, fun k => ?_, rising_picks f hs⟩
  · rw [h1.length_eq, pk_tags, length_tags]
  · have he' : e ∈ (pickS f s).1 := h2.mem_iff.1 (List.mem_filter.2 ⟨he, by rw [ht]; rfl⟩)
    obtain ⟨i1, i2⟩ := pk_left f s hs e he' hr
    refine ⟨?_, fun y hy hyt hyu => i2 y (hin y hy hyt) hyu⟩
    unfold takenF
    rw [hc]
    exact i1
  · unfold takenF
    rw [hc]
    have := pk_count f s k
    omega
theorem XAt.unit {w : World} {b : Nat} {x : Sx} (h : XAt w b x) {u : Nat} (hu : u < 5) : w.cell? ⟨b, 7 + u, none⟩ = some (.int .i64 (x.f u)) := by
  have : u = 0 ∨ u = 1 ∨ u = 2 ∨ u = 3 ∨ u = 4 := by omega
  rcases this with rfl | rfl | rfl | rfl | rfl
  · exact h.d7
  · exact h.d8
  · exact h.d9
  · exact h.d10
  · exact h.d11
theorem Goe.put {W w : World} {g : G} {s d r : List En} {e : En} {rb n cap j : Nat} {p : Int} (h : Goe W w g (.slice (some ⟨rb, 0, none⟩) n cap) s (d ++ strK p j e :: r)) (hn : n = (d ++ strK p j e :: r).length) (hj : j < 3) (hy : nth (strK p j e) j = p) :
    Goe W (w.setCell ⟨rb, d.length * 5 + 2 + j, none⟩ (.int .i64 (-1))) g (.slice (some ⟨rb, 0, none⟩) n cap) s (d ++ strK p (j + 1) e :: r) := by
  have hr := h.row
  unfold URow at hr
  rw [← hn] at hr
  have hst := (World.ownsRow.stored hr (d.length * 5 + 2 + j) (.int .i64 (-1))).1
  rw [uC_put hj hy] at hst
  have hn2 : n = (d ++ strK p (j + 1) e :: r).length := by rw [hn]; simp
  have k : Kept (fun b => b = rb) w (w.setCell ⟨rb, d.length * 5 + 2 + j, none⟩ (.int .i64 (-1))) := (Kept.refl _ _).setCell _ _ (.inl rfl)
  refine ⟨h.q.kept k fun b hb e' => h.ap rb rfl (e' ▸ hb), ⟨h.mq.still.start (k.mono fun b hb => .inr (by subst hb; exact (h.row.lt b rfl).1)), h.mq.mine⟩, ?_, h.ap⟩
  unfold URow
  rw [← hn2]
  exact hst
theorem Goe.at {W w : World} {g : G} {s d r : List En} {e : En} {rb n cap : Nat} (h : Goe W w g (.slice (some ⟨rb, 0, none⟩) n cap) s (d ++ e :: r)) : EnAt w rb d.length e := by
  obtain ⟨z', c', hv, hz'⟩ := h.row.form
  injection hv with h1 h2 h3
  obtain ⟨b', hb', -, -, hc⟩ := hz' (by simp; omega)
  rw [hb'] at h1
  injection h1 with h1
  injection h1 with h1
  subst h1
  exact hc _ _ (by simp)
end Go.Proofs.Ytaeggnnijafooaa
