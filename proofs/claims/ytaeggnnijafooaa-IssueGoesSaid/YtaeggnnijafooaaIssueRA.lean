/-
  The reference's queue in memory; New, Insert.
-/
import Derived.Test.YtaeggnnijafooaaIssueW
import Derived.Deep.AppendLies
namespace Go.Proofs.Ytaeggnnijafooaa
set_option linter.unusedVariables false
open Go.RowKit Go.Maps

/-- The cells of a row of them. -/
def uC (l : List En) : List Value := l.flatMap fun e => (enC e).toList
theorem uC_len (l : List En) : (uC l).length = l.length * 5 := by
  induction l with
  | nil => rfl
  | cons x r ih =>
    show ((enC x).toList ++ uC r).length = _
    rw [List.length_append, ih]
    simp [enC]
    omega
theorem uC_app (l r : List En) : uC (l ++ r) = uC l ++ uC r := List.flatMap_append
theorem uC_at : ∀ (l : List En) (i j : Nat) (e : En), l[i]? = some e → j < 5 → (uC l)[i * 5 + j]? = (enC e)[j]?
  | [], i, j, e, h, _ => by simp at h
  | x :: r, 0, j, e, h, hj => by
    cases h
    show ((enC x).toList ++ uC r)[0 * 5 + j]? = _
    rw [Nat.zero_mul, Nat.zero_add, List.getElem?_append_left (by simpa [enC] using hj), Array.getElem?_toList]
  | x :: r, i + 1, j, e, h, hj => by
    show ((enC x).toList ++ uC r)[(i + 1) * 5 + j]? = _
    rw [List.getElem?_append_right (by simp [enC]; omega)]
    have : (i + 1) * 5 + j - (enC x).toList.length = i * 5 + j := by simp [enC]; omega
    rw [this]
    exact uC_at r i j e (by simpa using h) hj
/-- A row of them that nobody else holds. -/
def URow (w : World) (base : Nat) (v : Value) (l : List En) : Prop := w.ownsRow base 30 5 v l.length (uC l)
theorem URow.lt {w : World} {base : Nat} {v : Value} {l : List En} (h : URow w base v l) : ∀ b, v.ownBlock = some b → base ≤ b ∧ b < w.heap.size := World.ownsRow.lt h
theorem URow.keep {w w' : World} {base : Nat} {v : Value} {l : List En} (h : URow w base v l) (hk : ∀ b, v.ownBlock = some b → w'.heap[b]? = w.heap[b]?) : URow w' base v l := Owns.keep h hk
theorem URow.kept {w w' : World} {base : Nat} {v : Value} {l : List En} {S : Nat → Prop} (h : URow w base v l) (k : Kept S w w') (hs : ∀ b, v.ownBlock = some b → ¬ S b) : URow w' base v l := h.keep fun b hb => k.block b (h.lt b hb).2 (hs b hb)
theorem URow.still {w w' : World} {base : Nat} {v : Value} {l : List En} (h : URow w base v l) (k : Still w w') : URow w' base v l := h.kept k fun _ _ e => e
/-- One of the row's. -/
structure EnAt (w : World) (b i : Nat) (e : En) : Prop where
  d0 : w.cell? ⟨b, i * 5, none⟩ = some (.int .i64 e.tag)
  d1 : w.cell? ⟨b, i * 5 + 1, none⟩ = some (.int .i64 e.unit)
  d2 : w.cell? ⟨b, i * 5 + 2, none⟩ = some (.int .i64 e.a)
  d3 : w.cell? ⟨b, i * 5 + 3, none⟩ = some (.int .i64 e.b)
  d4 : w.cell? ⟨b, i * 5 + 4, none⟩ = some (.int .i64 e.c)
theorem URow.form {w : World} {base : Nat} {v : Value} {l : List En} (h : URow w base v l) : ∃ z cap, v = .slice z l.length cap ∧ (0 < l.length → ∃ b, z = some ⟨b, 0, none⟩ ∧ base ≤ b ∧ b < w.heap.size ∧ ∀ i e, l[i]? = some e → EnAt w b i e) := by
  by_cases hn : 0 < l.length
  · obtain ⟨b, cap, rfl, hb, hlt, hc⟩ := owns_cells h hn
    refine ⟨_, _, rfl, fun _ => ⟨b, rfl, hb, hlt, fun i e hi => ?_⟩⟩
    have hh : ∀ j, j < 5 → ∀ u, (enC e)[j]? = some u → w.cell? ⟨b, i * 5 + j, none⟩ = some u := fun j hj u hu => hc _ _ ((uC_at l i j e hi hj).trans hu)
    exact ⟨hh 0 (by decide) _ rfl, hh 1 (by decide) _ rfl, hh 2 (by decide) _ rfl, hh 3 (by decide) _ rfl, hh 4 (by decide) _ rfl⟩
  · have h0 : l.length = 0 := by omega
    have h' := h
    unfold URow at h'
    rw [h0] at h'
    obtain ⟨z, cap, rfl⟩ := owns_none h'
    exact ⟨z, cap, by rw [h0], fun e => absurd e hn⟩
theorem EnAt.on {w w' : World} {b i : Nat} {e : En} {S : Nat → Prop} (h : EnAt w b i e) (k : Kept S w w') (hs : ¬ S b) : EnAt w' b i e := ⟨k.cell h.d0 hs, k.cell h.d1 hs, k.cell h.d2 hs, k.cell h.d3 hs, k.cell h.d4 hs⟩
/-- The reference's queue. -/
structure HeldR (w : World) (b : Nat) (v : Value) (base : Nat) (size : Int) (s : List En) : Prop where
  q : w.heap[b]? = some (.cells #[v, .int .i64 size] 54 (0, 0))
  row : URow w base v s
  ne : v.ownBlock ≠ some b
def rOwn (b : Nat) (v : Value) (x : Nat) : Prop := x = b ∨ v.ownBlock = some x
theorem HeldR.lt {w : World} {b : Nat} {v : Value} {base : Nat} {size : Int} {s : List En} (h : HeldR w b v base size s) {x : Nat} (hx : rOwn b v x) : x < w.heap.size := by
  rcases hx with rfl | hx
  · exact (Array.getElem?_eq_some_iff.1 h.q).1
  · exact (h.row.lt x hx).2
theorem HeldR.kept {w w' : World} {b : Nat} {v : Value} {base : Nat} {size : Int} {s : List En} {S : Nat → Prop} (h : HeldR w b v base size s) (k : Kept S w w') (hs : ∀ x, rOwn b v x → ¬ S x) : HeldR w' b v base size s :=
  ⟨(k.block b (h.lt (.inl rfl)) (hs b (.inl rfl))).trans h.q, h.row.kept k fun x hx => hs x (.inr hx), h.ne⟩
theorem HeldR.still {w w' : World} {b : Nat} {v : Value} {base : Nat} {size : Int} {s : List En} (h : HeldR w b v base size s) (k : Still w w') : HeldR w' b v base size s := h.kept k fun _ _ e => e
theorem HeldR.c0 {w : World} {b : Nat} {v : Value} {base : Nat} {size : Int} {s : List En} (h : HeldR w b v base size s) : w.cell? ⟨b, 0, none⟩ = some v := by
  have := h.q
  simp [World.cell?, this]
theorem HeldR.c1 {w : World} {b : Nat} {v : Value} {base : Nat} {size : Int} {s : List En} (h : HeldR w b v base size s) : w.cell? ⟨b, 1, none⟩ = some (.int .i64 size) := by
  have := h.q
  simp [World.cell?, this]
theorem HeldR.free {w : World} {b : Nat} {v : Value} {base : Nat} {size : Int} {s : List En} (h : HeldR w b v base size s) (o : Nat) : w.frozen? ⟨b, o, none⟩ = false := by
  have := h.q
  simp [World.frozen?, this]
/-- The row is laid anew. -/
theorem HeldR.lay {w0 w : World} {b : Nat} {v v' : Value} {base : Nat} {size : Int} {s s' : List En} (h : HeldR w0 b v base size s) (k : Still w0 w) (h' : URow w w0.heap.size v' s') :
    HeldR (w.setCell ⟨b, 0, none⟩ v') b v' w0.heap.size size s' ∧ Kept (fun x => x = b) w0 (w.setCell ⟨b, 0, none⟩ v') ∧ ∀ x, rOwn b v' x → rOwn b v x ∨ w0.heap.size ≤ x := by
  have hq := (h.still k).q
  have hb := h.lt (.inl rfl)
  have hne : v'.ownBlock ≠ some b := fun e => by have := (h'.lt b e).1; omega
  refine ⟨⟨?_, ownsRow_setCell_other h' (by simpa using hne) _, hne⟩, (k.mono fun _ e => e.elim).setCell _ _ (.inl rfl), fun x hx => ?_⟩
  · show (w.heap.modify b _)[b]? = _
    rw [Array.getElem?_modify, if_pos rfl, hq]
    rfl
  · rcases hx with rfl | hx
    · exact .inl (.inl rfl)
    · exact .inr (h'.lt x hx).1
/-- What a call on the reference's queue leaves. -/
def ROut (w : World) (b : Nat) (v : Value) (size : Int) (s' : List En) (w' : World) : Prop :=
  ∃ v' base', HeldR w' b v' base' size s' ∧ Kept (rOwn b v) w w' ∧ ∀ x, rOwn b v' x → rOwn b v x ∨ w.heap.size ≤ x
theorem HeldR.out {w w' : World} {b : Nat} {v : Value} {base : Nat} {size : Int} {s : List En} (h : HeldR w b v base size s) (k : Still w w') : ROut w b v size s w' :=
  ⟨v, base, h.still k, k.mono fun _ e => e.elim, fun x hx => .inl hx⟩
theorem HeldR.outLay {w0 w1 w : World} {b : Nat} {v v' : Value} {base : Nat} {size : Int} {s s' : List En} (h : HeldR w0 b v base size s) (k0 : Still w0 w1) (k : Still w1 w) (h' : URow w w1.heap.size v' s') : ROut w0 b v size s' (w.setCell ⟨b, 0, none⟩ v') := by
  obtain ⟨h1, h2, h3⟩ := (h.still k0).lay k h'
  exact ⟨v', _, h1, (k0.mono fun _ e => e.elim).trans (h2.mono fun x e => .inl e) , fun x hx => (h3 x hx).imp id fun e => Nat.le_trans k0.size e⟩
set_option maxRecDepth 100000 in
theorem RNew_bad (w : World) (n : Int) (h : n < 1 ∨ 64 < n) : Calls Try.prog 10 #[.int .i64 n] w fun e w' => e = .returned (.pointer none) ∧ w' = w := by
  go_enter Try.func10, Try.ntmps10
  rcases h with h | h
  · go_wp2
    go_ret
    exact ⟨rfl, rfl⟩
  · by_cases h1 : n < 1
    · go_wp2
      go_ret
      exact ⟨rfl, rfl⟩
    · go_wp2
      go_ret
      exact ⟨rfl, rfl⟩
set_option maxRecDepth 100000 in
theorem RNew_fine (w : World) (n : Int) (h : 1 ≤ n ∧ n ≤ 64) : Calls Try.prog 10 #[.int .i64 n] w fun e w' =>
    ∃ b, e = .returned (.pointer (some ⟨b, 0, none⟩)) ∧ HeldR w' b (.slice none 0 0) w.heap.size n [] ∧ Still w w' ∧ b = w.heap.size := by
  go_enter Try.func10, Try.ntmps10
  have h1 : ¬ n < 1 := by omega
  have h2 : ¬ 64 < n := by omega
  go_wp2
  go_ret
  exact ⟨_, rfl, ⟨heap_alloc_new _ _, World.ownsRow_nil _ _ _ _, fun e => by cases e⟩, (Kept.refl _ w).alloc _, rfl⟩
end Go.Proofs.Ytaeggnnijafooaa
