/-
  The memory in the heap: New, get, put.
-/
import Derived.Test.YtnbifbllemcjfaaRamB
import Derived.Test.YtnbifbllemcjfaaWf
namespace Go.Proofs.Ytnbifbllemcjfaa
set_option linter.unusedVariables false
open Go.RowKit Go.Maps

/-- Where a memory lies. -/
structure G where
  q : Nat
  m : Nat
  bl : Nat → Option Nat
def G.own (g : G) (b : Nat) : Prop := b = g.q ∨ b = g.m ∨ ∃ n, g.bl n = some b
/-- The memory at g has the bytes M. -/
structure Held (w : World) (g : G) (M : Nat → BitVec 8) : Prop where
  q : w.heap[g.q]? = some (.cells #[.map (some g.m)] 49 (0, 0))
  m : HasMap w g.m g.bl
  inP : ∀ n b, g.bl n = some b → InP n
  pages : ∀ n b, g.bl n = some b → PageAt w b (fun i => M (n * 4096 + i))
  zero : ∀ n, g.bl n = none → ∀ i, i < 4096 → M (n * 4096 + i) = 0#8
  inj : ∀ n n' b, g.bl n = some b → g.bl n' = some b → n = n'
theorem Held.lt {w : World} {g : G} {M : Nat → BitVec 8} (h : Held w g M) {b : Nat} (hb : g.own b) : b < w.heap.size := by
  rcases hb with rfl | rfl | ⟨n, hn⟩
  · exact (Array.getElem?_eq_some_iff.1 h.q).1
  · exact h.m.lt
  · exact (h.pages n b hn).lt
theorem Held.kept {w w' : World} {g : G} {M : Nat → BitVec 8} (h : Held w g M) {S : Nat → Prop} (k : Kept S w w') (hs : ∀ b, g.own b → ¬ S b) : Held w' g M := by
  have e : ∀ b, g.own b → w'.heap[b]? = w.heap[b]? := fun b hb => k.block b (h.lt hb) (hs b hb)
  exact ⟨(e _ (.inl rfl)).trans h.q, h.m.kept (e _ (.inr (.inl rfl))), h.inP, fun n b hb => (h.pages n b hb).kept (e _ (.inr (.inr ⟨n, hb⟩))), h.zero, h.inj⟩
theorem Held.still {w w' : World} {g : G} {M : Nat → BitVec 8} (h : Held w g M) (k : Still w w') : Held w' g M := h.kept k fun _ _ e => e
theorem Held.qm {w : World} {g : G} {M : Nat → BitVec 8} (h : Held w g M) : g.q ≠ g.m := fun e => by
  obtain ⟨es, c, hm⟩ := h.m.isMap
  have := h.q
  rw [e, hm] at this
  cases this
theorem Held.qp {w : World} {g : G} {M : Nat → BitVec 8} (h : Held w g M) {n b : Nat} (hb : g.bl n = some b) : b ≠ g.q := fun e => by
  have h1 := h.pages n b hb
  have h2 := h.q
  rw [e] at h1
  unfold PageAt at h1
  rw [h1] at h2
  have := congrArg (fun o => match o with | some (Obj.cells cs _ _) => cs.size | _ => 0) h2
  simp [pg_size] at this
theorem Held.mp {w : World} {g : G} {M : Nat → BitVec 8} (h : Held w g M) {n b : Nat} (hb : g.bl n = some b) : b ≠ g.m := fun e => by
  obtain ⟨es, c, hm⟩ := h.m.isMap
  have h1 := h.pages n b hb
  rw [e] at h1
  unfold PageAt at h1
  rw [hm] at h1
  cases h1
theorem Held.p0 {w : World} {g : G} {M : Nat → BitVec 8} (h : Held w g M) : w.cell? ⟨g.q, 0, none⟩ = some (.map (some g.m)) := by simp [World.cell?, h.q]
theorem Held.same {w : World} {g : G} {M M' : Nat → BitVec 8} (h : Held w g M) (e : ∀ a, M a = M' a) : Held w g M' := by
  have : M = M' := funext e
  rwa [← this]
/-! A memory of the call's own. -/
structure Mine (w0 : World) (g : G) (w : World) : Prop where
  still : Still w0 w
  mine : ∀ b, g.own b → w0.heap.size ≤ b
theorem Mine.step {w0 w w' : World} {g g' : G} (h : Mine w0 g w) (k : Kept g.own w w') (ho : ∀ b, g'.own b → g.own b ∨ w.heap.size ≤ b) : Mine w0 g' w' :=
  ⟨h.still.start (k.mono fun b hb => .inr (h.mine b hb)), fun b hb => by
    rcases ho b hb with h1 | h1
    · exact h.mine b h1
    · exact Nat.le_trans h.still.size h1⟩
theorem Mine.on {w0 w w' : World} {g : G} (h : Mine w0 g w) (k : Still w w') : Mine w0 g w' := ⟨h.still.trans k, h.mine⟩

/-! Addresses. -/
theorem page_nat (a : BitVec 64) : (a / 4096#64).toNat = a.toNat / 4096 := by
  rw [BitVec.toNat_udiv]; rfl
theorem at_split (a : Nat) : a / 4096 * 4096 + a % 4096 = a := by omega
theorem rem_page (a : BitVec 64) : U (a % 4096#64) = ((a.toNat % 4096 : Nat) : Int) := by
  unfold U; rw [BitVec.toNat_umod]; rfl

theorem New_any (w : World) : Calls Try.prog 8 #[] w fun e w' => ∃ q m : Nat, e = .returned (.pointer (some ⟨q, 0, none⟩)) ∧ Held w' ⟨q, m, fun _ => none⟩ (fun _ => 0#8) ∧ Still w w' ∧ ∀ b, (G.mk q m fun _ => none).own b → w.heap.size ≤ b := by
  have hmm := @run_makeMap Try.prog
  go_enter Try.func8, Try.ntmps8
  go_wp2_with fail
  go_ret
  refine ⟨w.heap.size + 1, w.heap.size, rfl, ⟨?_, ?_, fun n b e => (by cases e), fun n b e => (by cases e), fun _ _ _ _ => rfl, fun n n' b e => (by cases e)⟩, ((Kept.refl _ w).alloc _).alloc _, ?_⟩
  · have := heap_alloc_new (w.alloc (.map #[] 0)) (.cells #[.map (some w.heap.size)] 49)
    rw [World.size_alloc] at this
    exact this
  · exact (hasMap_made w).kept (Below.heap_alloc _ _ _ (by simp))
  · rintro b (rfl | rfl | ⟨n, e⟩)
    · exact Nat.le_succ _
    · exact Nat.le_refl _
    · cases e
theorem get_any (w : World) (g : G) (M : Nat → BitVec 8) (h : Held w g M) (a : BitVec 64) :
    Calls Try.prog 27 #[.pointer (some ⟨g.q, 0, none⟩), .int .u64 (U a)] w fun e w' => e = .returned (.int .u8 (U1 (M a.toNat))) ∧ w' = w := by
  have p0 := h.p0
  have hl := h.m.look (a / 4096#64)
  have hr := rem_page a
  have hi : a.toNat % 4096 < 4096 := by omega
  have hs := at_split a.toNat
  rw [page_nat] at hl
  unfold kv at hl
  generalize a.toNat / 4096 = n at *
  generalize a.toNat % 4096 = i at *
  rw [← hs]
  replace hs := hide hs
  have hi2 : (i : Int) < 4096 := by omega
  have hi3 : 0 ≤ (i : Int) := by omega
  cases hb : g.bl n with
  | none =>
    have hz := h.zero n hb i hi
    rw [hb] at hl
    unfold ptrV at hl
    rw [hz]
    replace h := hide h
    clear hz
    go_enter Try.func27, Try.ntmps27
    go_wp2_with fail
    go_ret
    exact ⟨rfl, rfl⟩
  | some b =>
    have hc := (h.pages n b hb).cell hi
    rw [hb] at hl
    unfold ptrV at hl
    replace h := hide h
    go_enter Try.func27, Try.ntmps27
    go_wp2_with fail
    go_ret
    exact ⟨rfl, rfl⟩
theorem updB_same (M : Nat → BitVec 8) (i : Nat) (x : BitVec 8) : updB M i x i = x := by simp [updB]
theorem updB_other (M : Nat → BitVec 8) {i j : Nat} (x : BitVec 8) (h : j ≠ i) : updB M i x j = M j := by simp [updB, h]
theorem Held.set {w : World} {g : G} {M : Nat → BitVec 8} (h : Held w g M) {n b : Nat} (hb : g.bl n = some b) {i : Nat} (hi : i < 4096) (x : BitVec 8) : Held (w.setCell ⟨b, i, none⟩ (.int .u8 (U1 x))) g (updB M (n * 4096 + i) x) := by
  refine ⟨?_, h.m.kept (Below.heap_setCell _ _ _ _ (fun e => h.mp hb e.symm)), h.inP, fun k c hc => ?_, fun k hk j hj => ?_, h.inj⟩
  · rw [Below.heap_setCell _ _ _ _ (fun e => h.qp hb e.symm)]
    exact h.q
  · by_cases e : k = n
    · subst e
      obtain rfl : b = c := Option.some.inj (hb.symm.trans hc)
      have h1 := (h.pages k b hb).set hi x
      have h2 : (updB (fun j => M (k * 4096 + j)) i x) = fun j => updB M (k * 4096 + i) x (k * 4096 + j) := by
        funext j
        unfold updB
        by_cases e : j = i
        · rw [if_pos e, if_pos (by omega)]
        · rw [if_neg e, if_neg (by omega)]
      rw [h2] at h1
      exact h1
    · have hne : c ≠ b := fun e' => e (h.inj _ _ _ hc (e' ▸ hb))
      have h1 := (h.pages k c hc).kept (w' := w.setCell ⟨b, i, none⟩ (.int .u8 (U1 x))) (Below.heap_setCell _ _ _ _ hne)
      have h2 : pg (fun j => M (k * 4096 + j)) = pg fun j => updB M (n * 4096 + i) x (k * 4096 + j) := pg_ext fun j hj => by
        unfold updB
        rw [if_neg (by omega)]
      unfold PageAt at h1 ⊢
      rw [← h2]
      exact h1
  · have e : k ≠ n := fun e => by rw [e, hb] at hk; cases hk
    unfold updB
    rw [if_neg (by omega)]
    exact h.zero k hk j hj
theorem Held.grow {w w2 : World} {g : G} {M : Nat → BitVec 8} (h : Held w g M) {n : Nat} (hn : g.bl n = none) (hp : InP n)
    (hm : HasMap w2 g.m (updF g.bl n (some w.heap.size))) (ht : (w.alloc (.cells (pg fun _ => 0#8) 58)).mapTurned w2 g.m) : Held w2 { g with bl := updF g.bl n (some w.heap.size) } M := by
  have hk : ∀ b, b < w.heap.size + 1 → b ≠ g.m → w2.heap[b]? = (w.alloc (.cells (pg fun _ => 0#8) 58)).heap[b]? := fun b hb hne => ht.grown.block b (by rw [World.size_alloc]; exact hb) (fun e => hne (Option.some.inj e))
  have hk2 : ∀ b, b < w.heap.size → b ≠ g.m → w2.heap[b]? = w.heap[b]? := fun b hb hne => (hk b (by omega) hne).trans (Below.heap_alloc _ _ _ hb)
  have hnew : PageAt w2 w.heap.size fun _ => 0#8 := (pageAt_new w).kept (hk _ (Nat.lt_succ_self _) (fun e => by have := h.m.lt; omega))
  refine ⟨(hk2 _ (h.lt (.inl rfl)) h.qm).trans h.q, hm, fun k b e => ?_, fun k b e => ?_, fun k e j hj => ?_, fun k k' b e e' => ?_⟩
  · dsimp only at e
    by_cases hkn : k = n
    · exact hkn ▸ hp
    · rw [updF_other _ _ hkn] at e; exact h.inP _ _ e
  · dsimp only at e
    by_cases hkn : k = n
    · subst hkn
      rw [updF_same] at e
      obtain rfl := Option.some.inj e
      unfold PageAt at hnew ⊢
      rw [hnew, pg_ext (c := fun _ => 0#8) (d := fun i => M (k * 4096 + i)) fun j hj => (h.zero k hn j hj).symm]
    · rw [updF_other _ _ hkn] at e
      exact (h.pages k b e).kept (hk2 b (h.pages k b e).lt (h.mp e))
  · dsimp only at e
    by_cases hkn : k = n
    · subst hkn; rw [updF_same] at e; cases e
    · rw [updF_other _ _ hkn] at e; exact h.zero k e j hj
  · dsimp only at e e'
    by_cases hkn : k = n
    · subst hkn
      rw [updF_same] at e
      obtain rfl := Option.some.inj e
      by_cases hkn' : k' = k
      · exact hkn'.symm
      · rw [updF_other _ _ hkn'] at e'
        have := (h.pages _ _ e').lt
        omega
    · rw [updF_other _ _ hkn] at e
      by_cases hkn' : k' = n
      · subst hkn'
        rw [updF_same] at e'
        obtain rfl := Option.some.inj e'
        have := (h.pages _ _ e).lt
        omega
      · rw [updF_other _ _ hkn'] at e'
        exact h.inj _ _ _ e e'
attribute [local go_sem ↓] alloc_58 run_alp
theorem put_any (w : World) (g : G) (M : Nat → BitVec 8) (h : Held w g M) (a : BitVec 64) (hp : InP (a.toNat / 4096)) (x : BitVec 8) :
    Calls Try.prog 25 #[.pointer (some ⟨g.q, 0, none⟩), .int .u64 (U a), .int .u8 (U1 x)] w fun e w' => e = .returned (.tuple #[]) ∧ ∃ bl', Held w' ⟨g.q, g.m, bl'⟩ (updB M a.toNat x) ∧ Kept g.own w w' ∧ ∀ b, (G.mk g.q g.m bl').own b → g.own b ∨ w.heap.size ≤ b := by
  have p0 := h.p0
  have hl := h.m.look (a / 4096#64)
  have hq : g.q < w.heap.size := h.lt (.inl rfl)
  have hr := rem_page a
  have hi : a.toNat % 4096 < 4096 := by omega
  have hs := at_split a.toNat
  have hput := HasMap.put (h.m.kept (w' := w.alloc (.cells (pg fun _ => 0#8) 58)) (Below.heap_alloc _ _ _ h.m.lt)) h.inP (a / 4096#64) w.heap.size
  rw [page_nat] at hl hput
  unfold kv at hl hput
  generalize a.toNat / 4096 = n at *
  generalize a.toNat % 4096 = i at *
  rw [← hs]
  replace hs := hide hs
  have hi2 : (i : Int) < 4096 := by omega
  have hi3 : 0 ≤ (i : Int) := by omega
  cases hb : g.bl n with
  | none =>
    rw [hb] at hl
    unfold ptrV at hl
    by_cases hx : x = 0#8
    · have hx0 : U1 x = 0 := by rw [hx]; rfl
      have hz := h.zero n hb i hi
      have h2 : Held w g (updB M (n * 4096 + i) x) := h.same fun j => by
        unfold updB
        by_cases e : j = n * 4096 + i
        · rw [if_pos e, hx, e, hz]
        · rw [if_neg e]
      replace h := hide h
      clear hz hput hx
      replace h2 := hide h2
      go_enter Try.func25, Try.ntmps25
      go_wp2_with fail
      exact bodyPost_ret (results_none rfl _ _ _) rfl ⟨rfl, g.bl, h2.out, Kept.refl _ _, fun b hb => .inl hb⟩
    · have hx0 : (U1 x == 0) = false := by
        have : ¬ U1 x = 0 := fun e => hx (U1_inj.1 (e.trans (by rfl)))
        simpa using this
      obtain ⟨w2, hrun, hm2, ht2⟩ := hput
      have h2 := h.grow hb hp hm2 ht2
      have h3 := h2.set (n := n) (b := w.heap.size) (by dsimp only; rw [updF_same]) hi x
      have c2 := (h2.pages n w.heap.size (by dsimp only; rw [updF_same])).cell hi
      have f2 := (h2.pages n w.heap.size (by dsimp only; rw [updF_same])).frozen i
      have k2 : Kept g.own w w2 := ((Kept.refl _ w).alloc _).turned ht2 (.inl (.inr (.inl rfl)))
      replace h := hide h
      replace h2 := hide h2
      replace h3 := hide h3
      clear hx hm2 ht2
      have p1 : (w.alloc (.cells (pg fun _ => 0#8) 58)).cell? ⟨g.q, 0, none⟩ = some (.map (some g.m)) := by rw [World.cell?_alloc_past _ _ _ hq]; exact p0
      go_enter Try.func25, Try.ntmps25
      go_wp2_with fail
      refine bodyPost_end (results_none rfl _ _ _) rfl ⟨rfl, updF g.bl n (some w.heap.size), h3.out, k2.setCell _ _ (.inr (Nat.le_refl _)), ?_⟩
      rintro b (rfl | rfl | ⟨k, e⟩)
      · exact .inl (.inl rfl)
      · exact .inl (.inr (.inl rfl))
      · dsimp only at e
        by_cases hkn : k = n
        · subst hkn; rw [updF_same] at e; obtain rfl := Option.some.inj e; exact .inr (Nat.le_refl _)
        · rw [updF_other _ _ hkn] at e; exact .inl (.inr (.inr ⟨k, e⟩))
  | some b =>
    have h3 := h.set hb hi x
    have hc := (h.pages n b hb).cell hi
    have hf := (h.pages n b hb).frozen i
    rw [hb] at hl
    unfold ptrV at hl
    replace h := hide h
    replace h3 := hide h3
    clear hput
    go_enter Try.func25, Try.ntmps25
    go_wp2_with fail
    exact bodyPost_end (results_none rfl _ _ _) rfl ⟨rfl, g.bl, h3.out, (Kept.refl _ _).setCell _ _ (.inl (.inr (.inr ⟨n, hb⟩))), fun b hb => .inl hb⟩
end Go.Proofs.Ytnbifbllemcjfaa
