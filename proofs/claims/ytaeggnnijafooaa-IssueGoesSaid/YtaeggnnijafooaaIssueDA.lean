/-
  IssueDoes: the queue and the reference's queue side by side.
-/
import Derived.Test.YtaeggnnijafooaaIssueRD
import Derived.Test.YtaeggnnijafooaaIssueRE
namespace Go.Proofs.Ytaeggnnijafooaa
set_option linter.unusedVariables false
open Go.RowKit Go.Maps

/-- The queue and the reference's; no block of theirs is shared. -/
structure Duo (W w : World) (g : G) (b : Nat) (v : Value) (size : Int) (s t : List En) : Prop where
  q : Held w g size s
  r : ∃ base, HeldR w b v base size t
  mq : Mine W g s w
  mr : ∀ x, rOwn b v x → W.heap.size ≤ x
  apart : ∀ x, g.own s x → ¬ rOwn b v x
theorem Duo.lt {W w : World} {g : G} {b : Nat} {v : Value} {size : Int} {s t : List En} (h : Duo W w g b v size s t) {x : Nat} (hx : g.own s x ∨ rOwn b v x) : x < w.heap.size := by
  rcases hx with hx | hx
  · exact h.q.lt hx
  · obtain ⟨base, hr⟩ := h.r
    exact hr.lt hx
theorem Duo.kept {W w w' : World} {g : G} {b : Nat} {v : Value} {size : Int} {s t : List En} {S : Nat → Prop} (h : Duo W w g b v size s t) (k : Kept S w w') (hS : ∀ x, S x → W.heap.size ≤ x ∧ ¬ (g.own s x ∨ rOwn b v x)) : Duo W w' g b v size s t := by
  obtain ⟨base, hr⟩ := h.r
  exact ⟨h.q.kept k fun x hx e => (hS x e).2 (.inl hx), ⟨base, hr.kept k fun x hx e => (hS x e).2 (.inr hx)⟩, ⟨h.mq.still.start (k.mono fun x hx => .inr (hS x hx).1), h.mq.mine⟩, h.mr, h.apart⟩
theorem Duo.on {W w w' : World} {g : G} {b : Nat} {v : Value} {size : Int} {s t : List En} (h : Duo W w g b v size s t) (k : Still w w') : Duo W w' g b v size s t := h.kept k fun _ e => e.elim
theorem Duo.qs {W w w' : World} {g g1 : G} {b : Nat} {v : Value} {size : Int} {s s1 t : List En} (h : Duo W w g b v size s t) (h1 : Held w' g1 size s1) (k : Kept (g.own s) w w') (ho : ∀ x, g1.own s1 x → g.own s x ∨ w.heap.size ≤ x) : Duo W w' g1 b v size s1 t := by
  obtain ⟨base, hr⟩ := h.r
  refine ⟨h1, ⟨base, hr.kept k fun x hx e => h.apart x e hx⟩, h.mq.step k ho, h.mr, fun x hx hx' => ?_⟩
  rcases ho x hx with h2 | h2
  · exact h.apart x h2 hx'
  · have := hr.lt hx'; omega
theorem Duo.rs {W w w' : World} {g : G} {b : Nat} {v : Value} {size : Int} {s t t1 : List En} (h : Duo W w g b v size s t) (ho : ROut w b v size t1 w') : ∃ v', Duo W w' g b v' size s t1 := by
  obtain ⟨v', base', h1, k, ho⟩ := ho
  refine ⟨v', h.q.kept k fun x hx e => h.apart x hx e, ⟨base', h1⟩, ⟨h.mq.still.start (k.mono fun x hx => .inr (h.mr x hx)), h.mq.mine⟩, fun x hx => ?_, fun x hx hx' => ?_⟩
  · rcases ho x hx with h2 | h2
    · exact h.mr x h2
    · exact Nat.le_trans h.mq.still.size h2
  · rcases ho x hx' with h2 | h2
    · exact h.apart x hx h2
    · have := h.q.lt hx; omega
section
variable {W w : World} {g : G} {b : Nat} {v : Value} {size : Int} {s t : List En}
theorem Duo.insQ (h : Duo W w g b v size s t) (u : En) (hu : EnWf u) : Calls Try.prog 11 #[.pointer (some ⟨g.q, 0, none⟩), enV u] w fun e w' =>
    e = .returned (.bool (insOk size s u)) ∧ (∃ g1 : G, g1.q = g.q ∧ Duo W w' g1 b v size (insL size s u) t) ∧ Kept (g.own s) w w' :=
  (Insert_any w g size s u h.q hu.1 hu.2.2.1 hu.2.2.2.1 hu.2.2.2.2).mono fun e w' ⟨he, g1, hq, h1, k, ho⟩ => ⟨he, ⟨g1, hq, h.qs h1 k ho⟩, k⟩
theorem Duo.wakeQ (h : Duo W w g b v size s t) {x : Int} (hx : (Lit.int .i64 x).wf = true) : Calls Try.prog 13 #[.pointer (some ⟨g.q, 0, none⟩), .int .i64 x] w fun e w' =>
    e = .returned (.int .i64 (wakeN x s : Nat)) ∧ Duo W w' g b v size (wakeL x s) t ∧ Kept (g.own s) w w' :=
  (Wake_any w g size x s h.q hx).mono fun e w' ⟨he, h1, k⟩ => ⟨he, h.qs h1 k (fun b hb => .inl (own_wake hb)), k⟩
theorem Duo.dropQ (h : Duo W w g b v size s t) (x : Int) : Calls Try.prog 18 #[.pointer (some ⟨g.q, 0, none⟩), .int .i64 x] w fun e w' =>
    e = .returned (.int .i64 (dropN x s : Nat)) ∧ Duo W w' g b v size (dropL x s) t ∧ Kept (g.own s) w w' :=
  (Drop_any w g size x s h.q).mono fun e w' ⟨he, h1, k⟩ => ⟨he, h.qs h1 k (fun b hb => .inl (own_mono (fun e he => (List.mem_filter.1 he).1) hb)), k⟩
theorem Duo.pickQ (h : Duo W w g b v size s t) {f : Int → Int} (hf : ∀ k, (Lit.int .i64 (f k)).wf = true) : Calls Try.prog 15 #[.pointer (some ⟨g.q, 0, none⟩), .agg #[.int .i64 (f 0), .int .i64 (f 1), .int .i64 (f 2), .int .i64 (f 3), .int .i64 (f 4)]] w fun e w' =>
    ∃ r, e = .returned r ∧ Ints w' w.heap.size r (pickS f s).2 ∧ Duo W w' g b v size (pickS f s).1 t ∧ Kept (g.own s) w w' :=
  (Pick_any w g size s f h.q hf).mono fun e w' ⟨r, he, hi, h1, k⟩ => ⟨r, he, hi, h.qs h1 k (fun b hb => .inl (own_mono (fun e he => (pick_sub f s).mem he) hb)), k⟩
theorem Duo.len (h : Duo W w g b v size s t) : s.length ≤ 64 := by have := h.q.room; omega
theorem Duo.insR (h : Duo W w g b v size s t) (u : En) (ht : Sorted t) (hl : (t.length : Int) ≤ size) : Calls Try.prog 12 #[.pointer (some ⟨b, 0, none⟩), enV u] w fun e w' =>
    e = .returned (.bool (insOk size t u)) ∧ ∃ v', Duo W w' g b v' size s (insL size t u) := by
  obtain ⟨base, hr⟩ := h.r
  exact (RInsert_any w b v base size t u hr ht hl h.q.room.2.1).mono fun e w' ⟨he, ho⟩ => ⟨he, h.rs ho⟩
theorem Duo.wakeR (h : Duo W w g b v size s t) (x : Int) (hl : t.length ≤ 64) : Calls Try.prog 14 #[.pointer (some ⟨b, 0, none⟩), .int .i64 x] w fun e w' =>
    e = .returned (.int .i64 (wakeN x t : Nat)) ∧ ∃ v', Duo W w' g b v' size s (wakeL x t) := by
  obtain ⟨base, hr⟩ := h.r
  exact (RWake_any w b v base size x t hr hl).mono fun e w' ⟨he, ho⟩ => ⟨he, h.rs ho⟩
theorem Duo.dropR (h : Duo W w g b v size s t) (x : Int) (hl : t.length ≤ 64) : Calls Try.prog 19 #[.pointer (some ⟨b, 0, none⟩), .int .i64 x] w fun e w' =>
    e = .returned (.int .i64 (dropN x t : Nat)) ∧ ∃ v', Duo W w' g b v' size s (dropL x t) := by
  obtain ⟨base, hr⟩ := h.r
  exact (RDrop_any w b v base size x t hr hl).mono fun e w' ⟨he, ho⟩ => ⟨he, h.rs ho⟩
theorem Ints.apart {w w' : World} {base : Nat} {r : Value} {l : List Int} {S : Nat → Prop} (h : Ints w base r l) (k : Kept S w w') (hS : ∀ x, S x → x < base) : Ints w' base r l := h.kept k fun x hx e => by have := hS x e; omega
theorem Duo.pickR (h : Duo W w g b v size s t) {f : Int → Int} (hf : ∀ k, (Lit.int .i64 (f k)).wf = true) (hl : t.length ≤ 64) (hun : ∀ e ∈ t, 0 ≤ e.unit ∧ e.unit < 5) : Calls Try.prog 16 #[.pointer (some ⟨b, 0, none⟩), .agg #[.int .i64 (f 0), .int .i64 (f 1), .int .i64 (f 2), .int .i64 (f 3), .int .i64 (f 4)]] w fun e w' =>
    ∃ r, e = .returned r ∧ Ints w' w.heap.size r (pickS f t).2 ∧ (∃ v', Duo W w' g b v' size s (pickS f t).1) ∧ Kept (rOwn b v) w w' := by
  obtain ⟨base, hr⟩ := h.r
  exact (RPick_any w b v base size t f hr hl hun hf).mono fun e w' ⟨r, he, hi, ho⟩ => ⟨r, he, hi, h.rs ho, ho.elim fun v' ⟨base', h1, k, _⟩ => k⟩
theorem Duo.tagsQ (h : Duo W w g b v size s t) : Calls Try.prog 20 #[.pointer (some ⟨g.q, 0, none⟩)] w fun e w' =>
    ∃ r, e = .returned r ∧ w'.ownsRow w.heap.size 3 1 r s.length ((tags s).map (Value.int .i64)) ∧ Duo W w' g b v size s t ∧ Still w w' :=
  (Tags_any w g size s h.q).mono fun e w' ⟨r, he, hi, k⟩ => ⟨r, he, hi, h.on k, k⟩
theorem Duo.tagsR (h : Duo W w g b v size s t) (hl : t.length ≤ 64) : Calls Try.prog 21 #[.pointer (some ⟨b, 0, none⟩)] w fun e w' =>
    ∃ r, e = .returned r ∧ Ints w' w.heap.size r (tags t) ∧ Duo W w' g b v size s t ∧ Still w w' := by
  obtain ⟨base, hr⟩ := h.r
  exact (RTags_any w b v base size t hr hl).mono fun e w' ⟨r, he, hi, k⟩ => ⟨r, he, hi, h.on k, k⟩
end
end Go.Proofs.Ytaeggnnijafooaa
