/-
  CacheDoes: both caches side by side.
-/
import Derived.Test.YtpflodhnniochaaDoesL
namespace Go.Proofs.Ytpflodhnniochaa
set_option linter.unusedVariables false
open Go.RowKit Go.Maps

theorem Env.past {W w w' : World} {sh : Array Value} {S : Nat → Prop} (h : Env W sh w) (k : Kept S w w') (ho : ∀ b, S b → W.heap.size < b) : Env W sh w' :=
  ⟨h.1.trans (k.below h.1.size (fun b hb e => absurd (ho b e) (by omega))), (k.block _ (Array.getElem?_eq_some_iff.1 h.2).1 (fun e => absurd (ho _ e) (Nat.lt_irrefl _))).trans h.2⟩
structure Both (W : World) (sh : Array Value) (g : G) (r : R) (s : St) (w : World) : Prop where
  env : Env W sh w
  hc : Held w g s
  hr : HeldR w r s
  fr : Fr s
  co : Co s
  og : ∀ b, g.own b → W.heap.size < b
  or_ : ∀ b, r.own s.sets b → W.heap.size < b
  dj : ∀ b, g.own b → ¬ r.own s.sets b
section
variable {W : World} {sh : Array Value} {g : G} {r : R} {s : St} {w w' : World}
theorem Both.still (h : Both W sh g r s w) (k : Still w w') : Both W sh g r s w' := ⟨h.env.still k, h.hc.still k, h.hr.still k, h.fr, h.co, h.og, h.or_, h.dj⟩
/-- What is newer than W and not one of the two caches' may be turned. -/
theorem Both.past (h : Both W sh g r s w) {S : Nat → Prop} (k : Kept S w w') (h1 : ∀ b, S b → W.heap.size < b) (h2 : ∀ b, g.own b → ¬ S b) (h3 : ∀ b, r.own s.sets b → ¬ S b) : Both W sh g r s w' :=
  ⟨h.env.past k h1, h.hc.kept k h2, h.hr.kept k h3, h.fr, h.co, h.og, h.or_, h.dj⟩
theorem Both.ask1 (h : Both W sh g r s w) (k : Kept g.own w w') : HeldR w' r s ∧ Env W sh w' := ⟨h.hr.kept k (fun b hb hg => h.dj b hg hb), h.env.past k h.og⟩
theorem Both.ask (h : Both W sh g r s w) {L : BitVec 64} {wr : Bool} {w1 w2 : World} (h1 : Held w1 g (askS s L wr).1) (k1 : Kept g.own w w1) (h2 : HeldR w2 r (askS s L wr).1) (k2 : Kept (r.own s.sets) w1 w2) : Both W sh g r (askS s L wr).1 w2 := by
  have hs := ask_sets s L wr
  refine ⟨(h.env.past k1 h.og).past k2 h.or_, h1.kept k2 (fun b hb => h.dj b hb), h2, fr_ask h.fr h.hc.ok.delay.1 L wr, co_ask h.co L wr, h.og, ?_, ?_⟩ <;> rw [hs]
  · exact h.or_
  · exact h.dj
theorem Both.tick (h : Both W sh g r s w) {w1 w2 : World} (h1 : Held w1 g (tickS s s.ns).1) (k1 : Kept g.own w w1) (h2 : HeldR w2 r (tickS s s.ns).1) (k2 : Kept (r.own s.sets) w1 w2) : Both W sh g r (tickS s s.ns).1 w2 := by
  have hs := tick_sets s s.ns
  refine ⟨(h.env.past k1 h.og).past k2 h.or_, h1.kept k2 (fun b hb => h.dj b hb), h2, fr_tick h.fr, co_tick h.co _ (Nat.le_refl _), h.og, ?_, ?_⟩ <;> rw [hs]
  · exact h.or_
  · exact h.dj
theorem Both.flush (h : Both W sh g r s w) {w1 w2 : World} {r' : R} (h1 : Held w1 g (flushS s)) (k1 : Kept g.own w w1) (h2 : HeldR w2 r' (flushS s)) (k2 : Kept (r.own s.sets) w1 w2) (ho : ∀ b, r'.own s.sets b → r.own s.sets b ∨ w1.heap.size ≤ b) : Both W sh g r' (flushS s) w2 := by
  have hlt : W.heap.size < w1.heap.size := (h.env.past k1 h.og).lt
  refine ⟨(h.env.past k1 h.og).past k2 h.or_, h1.kept k2 (fun b hb => h.dj b hb), h2, fun i _ e => Bool.noConfusion e, co_flush h.co, h.og, fun b hb => ?_, fun b hg hb => ?_⟩
  · rcases ho b hb with e | e
    · exact h.or_ b e
    · omega
  · rcases ho b hb with e | e
    · exact h.dj b hg e
    · exact absurd (h1.lt hg) (Nat.not_lt.2 e)
end
theorem Env.cell_at {W w : World} {sh : Array Value} (E : Env W sh w) {a : Addr} {n : Nat} {Lf : Nat → Int × BitVec 64 × Bool} (hab : a.block < W.heap.size) (hcl : ∀ i, i < n → W.cell? (a.add (i * 3)) = some (.int .i64 (Lf i).1) ∧
    W.cell? ⟨(a.add (i * 3)).block, (a.add (i * 3)).off + 1, none⟩ = some (.int .u64 (U (Lf i).2.1)) ∧ W.cell? ⟨(a.add (i * 3)).block, (a.add (i * 3)).off + 2, none⟩ = some (.bool (Lf i).2.2)) {i : Nat} (hi : i < n) :
    w.cell? (a.add (i * 3)) = some (.int .i64 (Lf i).1) ∧ w.cell? ⟨(a.add (i * 3)).block, (a.add (i * 3)).off + 1, none⟩ = some (.int .u64 (U (Lf i).2.1)) ∧ w.cell? ⟨(a.add (i * 3)).block, (a.add (i * 3)).off + 2, none⟩ = some (.bool (Lf i).2.2) := by
  obtain ⟨_, d0, d1, d2⟩ := step1_of hab hcl E hi
  exact ⟨d0, d1, d2⟩
set_option maxRecDepth 100000 in
set_option maxHeartbeats 8000000 in
theorem Does_bad (W : World) (a b c d : Int) (seed : BitVec 64) (lv : Value) (hbad : Bad a b c d) :
    Calls Try.prog 3 #[.agg (shapeC a b c d seed), lv] W fun e w' => e = .returned (.bool true) ∧ Below W.heap.size W w' := by
  unfold shapeC
  go_enter Try.func3, Try.ntmps3
  go_wp2_with fail
  go_at_call 8
  have E0 := env_start W (shapeC a b c d seed)
  unfold shapeC at E0
  refine (fixed_any _).mono ?_
  rintro e w1 ⟨rfl, k1⟩
  have E1 : Env W (shapeC a b c d seed) w1 := E0.below k1
  clear E0 k1
  obtain ⟨c0, c1, c2, c3, c4⟩ := E1.cells
  go_wp2_with fail
  go_at_call 9
  refine (New_bad _ a b c d seed hbad).mono ?_
  rintro e w' ⟨rfl, rfl⟩
  go_wp2_with fail
  go_at_call 10
  refine (NewR_bad _ a b c d seed hbad).mono ?_
  rintro e w' ⟨rfl, rfl⟩
  have hB : Below W.heap.size W w' := E1.1
  clear c0 c1 c2 c3 c4 E1
  go_wp2
  go_ret
  exact ⟨rfl, hB⟩
end Go.Proofs.Ytpflodhnniochaa
