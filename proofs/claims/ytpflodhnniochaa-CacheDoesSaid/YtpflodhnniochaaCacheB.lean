/-
  The cache in memory: its four blocks, and what a call may turn.
-/
import Derived.Test.YtpflodhnniochaaCacheA
import Derived.RegionTactic
import Derived.BigRegion
import Derived.Deep.RegionHeld3
namespace Go.Proofs.Ytpflodhnniochaa
set_option linter.unusedVariables false
open Go.RowKit Go.Maps

/-- All that is older than w's end is as it was, but for the blocks of S. -/
structure Kept (S : Nat → Prop) (w w' : World) : Prop where
  os : w'.os = w.os
  tape : w'.tape = w.tape
  output : w'.output = w.output
  size : w.heap.size ≤ w'.heap.size
  block : ∀ k, k < w.heap.size → ¬ S k → w'.heap[k]? = w.heap[k]?
theorem Kept.refl (S : Nat → Prop) (w : World) : Kept S w w := ⟨rfl, rfl, rfl, Nat.le_refl _, fun _ _ _ => rfl⟩
theorem Kept.trans {S : Nat → Prop} {a b c : World} (h : Kept S a b) (k : Kept S b c) : Kept S a c :=
  ⟨k.os.trans h.os, k.tape.trans h.tape, k.output.trans h.output, Nat.le_trans h.size k.size, fun i hi hs => (k.block i (Nat.lt_of_lt_of_le hi h.size) hs).trans (h.block i hi hs)⟩
theorem Kept.mono {S T : Nat → Prop} {a b : World} (h : Kept S a b) (hs : ∀ k, S k → T k) : Kept T a b := ⟨h.os, h.tape, h.output, h.size, fun i hi ht => h.block i hi (fun e => ht (hs i e))⟩
theorem Kept.drew {S : Nat → Prop} {a b : World} (h : Kept S a b) : Kept S a b.drew := ⟨h.os, h.tape, h.output, h.size, h.block⟩
theorem Kept.alloc {S : Nat → Prop} {a b : World} (h : Kept S a b) (o : Obj) : Kept S a (b.alloc o) :=
  h.trans ⟨rfl, rfl, rfl, by simp, fun i hi _ => Below.heap_alloc b o i hi⟩
theorem Kept.setCell {S : Nat → Prop} {a b : World} (h : Kept S a b) (p : Addr) (v : Value) (hp : S p.block ∨ a.heap.size ≤ p.block) : Kept S a (b.setCell p v) :=
  ⟨h.os, h.tape, h.output, Nat.le_trans h.size (by simp [World.setCell]), fun i hi hs => by
    have hne : i ≠ p.block := fun e => by rcases hp with hp | hp; exact hs (e ▸ hp); omega
    rw [RowKit.Below.heap_setCell _ _ _ _ hne]; exact h.block i hi hs⟩
theorem Kept.setRow {S : Nat → Prop} {a b : World} (h : Kept S a b) (p : Nat) (cs : Array Value) (hp : S p ∨ a.heap.size ≤ p) : Kept S a (b.setRow p cs) :=
  ⟨h.os, h.tape, h.output, Nat.le_trans h.size (by simp [World.setRow]), fun i hi hs => by
    have hne : i ≠ p := fun e => by rcases hp with hp | hp; exact hs (e ▸ hp); omega
    simp only [World.setRow]; rw [Array.getElem?_modify, if_neg (fun e => hne e.symm)]; exact h.block i hi hs⟩
theorem Kept.turned {S : Nat → Prop} {a b c : World} (h : Kept S a b) {p : Nat} (k : b.mapTurned c p) (hp : S p ∨ a.heap.size ≤ p) : Kept S a c :=
  have g := k.grown
  ⟨g.os.trans h.os, g.tape.trans h.tape, g.output.trans h.output, Nat.le_trans h.size g.size, fun i hi hs => (g.block i (Nat.lt_of_lt_of_le hi h.size) (fun e => by
    cases e; rcases hp with hp | hp; exact hs hp; omega)).trans (h.block i hi hs)⟩
theorem Kept.more {S : Nat → Prop} {a b : World} (h : Kept S a b) (l : List Obj) : Kept S a (more b l) :=
  have g := below_more l b
  h.trans ⟨g.os, g.tape, g.output, g.size, fun i hi _ => g.block i hi⟩
theorem Kept.grown {S : Nat → Prop} {a b c : World} (h : Kept S a b) {row : Option Nat} (k : b.grownBy c row) (hp : ∀ p, row = some p → S p ∨ a.heap.size ≤ p) : Kept S a c :=
  ⟨k.os.trans h.os, k.tape.trans h.tape, k.output.trans h.output, Nat.le_trans h.size k.size, fun i hi hs => (k.block i (Nat.lt_of_lt_of_le hi h.size) (fun e => by
    rcases hp i e.symm with hp | hp; exact hs hp; omega)).trans (h.block i hi hs)⟩
theorem Kept.below {S : Nat → Prop} {a b : World} {B : Nat} (h : Kept S a b) (hB : B ≤ a.heap.size) (hs : ∀ k, k < B → ¬ S k) : Below B a b :=
  ⟨h.os, h.tape, h.output, h.size, fun i hi => h.block i (Nat.lt_of_lt_of_le hi hB) (hs i hi)⟩
/-- Nothing old was turned. -/
def Still : World → World → Prop := Kept (fun _ => False)
theorem Kept.still {S : Nat → Prop} {a b c : World} (h : Kept S a b) (k : Still b c) : Kept S a c := h.trans (k.mono (fun _ e => e.elim))
/-- .. the older blocks are the first n. -/
theorem Kept.start {S : Nat → Prop} {a b c : World} (h : Kept S a b) (k : Kept (fun x => S x ∨ a.heap.size ≤ x) b c) : Kept S a c :=
  ⟨k.os.trans h.os, k.tape.trans h.tape, k.output.trans h.output, Nat.le_trans h.size k.size, fun i hi hs => (k.block i (Nat.lt_of_lt_of_le hi h.size) (fun e => by
    rcases e with e | e; exact hs e; omega)).trans (h.block i hi hs)⟩

/-! A row of n things of k cells each. -/
def Row (w : World) (b : Nat) (T : TypeId) (k n : Nat) (e : Nat → Nat → Value) : Prop :=
  ∃ cs : Array Value, w.heap[b]? = some (.cells cs T (0, 0)) ∧ n * k ≤ cs.size ∧ ∀ i j, i < n → j < k → cs[i * k + j]? = some (e i j)
theorem Row.kept {w w' : World} {b : Nat} {T : TypeId} {k n : Nat} {e : Nat → Nat → Value} (h : Row w b T k n e) (h' : w'.heap[b]? = w.heap[b]?) : Row w' b T k n e :=
  h.elim fun cs h => ⟨cs, h'.trans h.1, h.2⟩
theorem Row.lt {w : World} {b : Nat} {T : TypeId} {k n : Nat} {e : Nat → Nat → Value} (h : Row w b T k n e) : b < w.heap.size := h.elim fun cs h => (Array.getElem?_eq_some_iff.1 h.1).1
theorem Row.same {w : World} {b : Nat} {T : TypeId} {k n : Nat} {e e' : Nat → Nat → Value} (h : Row w b T k n e) (h' : ∀ i j, i < n → j < k → e i j = e' i j) : Row w b T k n e' :=
  h.elim fun cs h => ⟨cs, h.1, h.2.1, fun i j hi hj => by rw [h.2.2 i j hi hj, h' i j hi hj]⟩
theorem Row.cell {w : World} {b : Nat} {T : TypeId} {k n : Nat} {e : Nat → Nat → Value} (h : Row w b T k n e) (i j : Nat) (hi : i < n) (hj : j < k) : w.cell? ⟨b, i * k + j, none⟩ = some (e i j) := by
  obtain ⟨cs, h1, h2, h3⟩ := h
  simp [World.cell?, h1, h3 i j hi hj]
theorem Row.frozen {w : World} {b : Nat} {T : TypeId} {k n : Nat} {e : Nat → Nat → Value} (h : Row w b T k n e) (o : Nat) : w.frozen? ⟨b, o, none⟩ = false := by
  obtain ⟨cs, h1, h2, h3⟩ := h
  simp [World.frozen?, h1]
theorem place_eq {k i j i' j' : Nat} (hj : j < k) (hj' : j' < k) : i * k + j = i' * k + j' ↔ i = i' ∧ j = j' := by
  constructor
  · intro h
    have h1 : (i * k + j) / k = i := by rw [Nat.mul_comm, Nat.mul_add_div (by omega)]; simp [Nat.div_eq_of_lt hj]
    have h2 : (i' * k + j') / k = i' := by rw [Nat.mul_comm, Nat.mul_add_div (by omega)]; simp [Nat.div_eq_of_lt hj']
    have : i = i' := by rw [← h1, ← h2, h]
    subst this
    exact ⟨rfl, by omega⟩
  · rintro ⟨rfl, rfl⟩; rfl
theorem Row.set {w : World} {b : Nat} {T : TypeId} {k n : Nat} {e : Nat → Nat → Value} (h : Row w b T k n e) (i j : Nat) (v : Value) (hi : i < n) (hj : j < k) :
    Row (w.setCell ⟨b, i * k + j, none⟩ v) b T k n (fun i' j' => if i' = i ∧ j' = j then v else e i' j') := by
  obtain ⟨cs, h1, h2, h3⟩ := h
  refine ⟨cs.setIfInBounds (i * k + j) v, ?_, by simpa using h2, fun i' j' hi' hj' => ?_⟩
  · exact heap_setCell_same w b (i * k + j) _ _ _ h1
  · have hlt : i * k + j < cs.size := by
      have := Nat.mul_le_mul_right k (show i + 1 ≤ n from hi)
      rw [Nat.add_mul] at this
      omega
    rw [Array.getElem?_setIfInBounds]
    by_cases e1 : i' = i ∧ j' = j
    · obtain ⟨rfl, rfl⟩ := e1
      simp [hlt]
    · rw [if_neg (fun e2 => e1 (by have := (place_eq hj hj').1 e2; exact ⟨this.1.symm, this.2.symm⟩)), h3 i' j' hi' hj']
      show _ = some (if i' = i ∧ j' = j then v else e i' j')
      rw [if_neg e1]
theorem heap_setCell_ne {w : World} {b : Nat} (p : Addr) (v : Value) (h : b ≠ p.block) : (w.setCell p v).heap[b]? = w.heap[b]? := RowKit.Below.heap_setCell _ _ _ _ h

/-! The cache. -/
structure Pl where
  line : BitVec 64
  is : Bool
  written : Bool
structure Sl where
  line : BitVec 64
  is : Bool
  write : Bool
  left : Nat
structure St where
  sets : Nat
  ways : Nat
  delay : Nat
  seed : BitVec 64
  ns : Nat
  pl : Nat → Pl
  wh : BitVec 64 → Option Nat
  sl : Nat → Sl
def St.n (s : St) : Nat := s.sets * s.ways
/-- The number of sets as it divides a line. -/
def St.m (s : St) : BitVec 64 := BitVec.ofNat 64 s.sets
def plV (p : Nat → Pl) (i j : Nat) : Value := match j with | 0 => .int .u64 (U (p i).line) | 1 => .bool (p i).is | _ => .bool (p i).written
def slV (p : Nat → Sl) (i j : Nat) : Value := match j with | 0 => .int .u64 (U (p i).line) | 1 => .bool (p i).is | 2 => .bool (p i).write | _ => .int .i64 ((p i).left : Nat)
structure Ok (s : St) : Prop where
  sets : s.sets = 1 ∨ s.sets = 2 ∨ s.sets = 4 ∨ s.sets = 8 ∨ s.sets = 16 ∨ s.sets = 32 ∨ s.sets = 64
  ways : 1 ≤ s.ways ∧ s.ways ≤ 8
  ns : 1 ≤ s.ns ∧ s.ns ≤ 8
  delay : 1 ≤ s.delay ∧ s.delay ≤ 64
  wh : ∀ L n, s.wh L = some n → n < s.n ∧ (s.pl n).is = true ∧ (s.pl n).line = L
  sl : ∀ i, i < s.ns → (s.sl i).is = true → (s.sl i).left ≤ s.delay
theorem Ok.sets_le {s : St} (h : Ok s) : 1 ≤ s.sets ∧ s.sets ≤ 64 := by have := h.sets; omega
theorem Ok.n_le {s : St} (h : Ok s) : 1 ≤ s.n ∧ s.n ≤ 512 := by
  have h1 := h.sets_le
  have h2 := h.ways
  have h3 := Nat.mul_le_mul h1.2 h2.2
  have h4 := Nat.mul_le_mul h1.1 h2.1
  unfold St.n
  omega
theorem Ok.fits {s : St} (h : Ok s) : Fits s.wh s.n := ⟨fun L n e => (h.wh L n e).1, fun L L' n e e' => by rw [← (h.wh L n e).2.2, (h.wh L' n e').2.2]⟩
/-- The blocks: the struct, its places, its map, its slots. -/
structure G where
  c : Nat
  a : Nat
  m : Nat
  s : Nat
  ka : Nat
  ks : Nat
def G.own (g : G) (k : Nat) : Prop := k = g.c ∨ k = g.a ∨ k = g.m ∨ k = g.s
structure Apart (g : G) : Prop where
  ca : g.c ≠ g.a
  cm : g.c ≠ g.m
  cs : g.c ≠ g.s
  am : g.a ≠ g.m
  as_ : g.a ≠ g.s
  ms : g.m ≠ g.s
def cCells (g : G) (s : St) : Array Value := #[.int .i64 (s.sets : Nat), .int .i64 (s.ways : Nat), .int .i64 (s.delay : Nat), .int .u64 (U s.seed), .slice (some ⟨g.a, 0, none⟩) s.n g.ka, .map (some g.m), .slice (some ⟨g.s, 0, none⟩) s.ns g.ks]
structure Held (w : World) (g : G) (s : St) : Prop where
  ok : Ok s
  ap : Apart g
  c : w.heap[g.c]? = some (.cells (cCells g s) 59 (0, 0))
  a : Row w g.a 69 3 s.n (plV s.pl)
  m : HasMap w g.m s.m s.wh
  s : Row w g.s 72 4 s.ns (slV s.sl)
theorem Held.lt {w : World} {g : G} {s : St} (h : Held w g s) {k : Nat} (hk : g.own k) : k < w.heap.size := by
  rcases hk with rfl | rfl | rfl | rfl
  · exact (Array.getElem?_eq_some_iff.1 h.c).1
  · exact h.a.lt
  · exact h.m.lt
  · exact h.s.lt
theorem Held.keep {w w' : World} {g : G} {s : St} (h : Held w g s) (k : ∀ b, g.own b → w'.heap[b]? = w.heap[b]?) : Held w' g s :=
  ⟨h.ok, h.ap, (k _ (.inl rfl)).trans h.c, h.a.kept (k _ (.inr (.inl rfl))), h.m.kept (k _ (.inr (.inr (.inl rfl)))), h.s.kept (k _ (.inr (.inr (.inr rfl))))⟩
theorem Held.kept {w w' : World} {g : G} {s : St} {S : Nat → Prop} (h : Held w g s) (k : Kept S w w') (hs : ∀ b, g.own b → ¬ S b) : Held w' g s :=
  h.keep fun b hb => k.block b (h.lt hb) (hs b hb)
theorem Held.still {w w' : World} {g : G} {s : St} (h : Held w g s) (k : Still w w') : Held w' g s := h.kept k (fun _ _ e => e)
theorem Held.drew {w : World} {g : G} {s : St} (h : Held w g s) : Held w.drew g s := h.keep fun _ _ => rfl
theorem Held.alloc {w : World} {g : G} {s : St} (h : Held w g s) (o : Obj) : Held (w.alloc o) g s := h.keep fun b hb => Below.heap_alloc w o b (h.lt hb)
theorem Held.more {w : World} {g : G} {s : St} (h : Held w g s) (l : List Obj) : Held (more w l) g s := h.keep fun b hb => (below_more l w).block b (h.lt hb)
theorem Held.setCell {w : World} {g : G} {s : St} (h : Held w g s) (p : Addr) (v : Value) (hp : ¬ g.own p.block) : Held (w.setCell p v) g s := h.keep fun b hb => heap_setCell_ne p v (fun e => hp (e ▸ hb))
/-- The struct's cells. -/
structure CFacts (w : World) (g : G) (s : St) : Prop where
  c0 : w.cell? ⟨g.c, 0, none⟩ = some (.int .i64 (s.sets : Nat))
  c1 : w.cell? ⟨g.c, 1, none⟩ = some (.int .i64 (s.ways : Nat))
  c2 : w.cell? ⟨g.c, 2, none⟩ = some (.int .i64 (s.delay : Nat))
  c3 : w.cell? ⟨g.c, 3, none⟩ = some (.int .u64 (U s.seed))
  c4 : w.cell? ⟨g.c, 4, none⟩ = some (.slice (some ⟨g.a, 0, none⟩) s.n g.ka)
  c5 : w.cell? ⟨g.c, 5, none⟩ = some (.map (some g.m))
  c6 : w.cell? ⟨g.c, 6, none⟩ = some (.slice (some ⟨g.s, 0, none⟩) s.ns g.ks)
theorem Held.cf {w : World} {g : G} {s : St} (h : Held w g s) : CFacts w g s := by
  have hc := h.c
  constructor <;> simp [World.cell?, hc, cCells]
theorem Held.fz {w : World} {g : G} {s : St} (h : Held w g s) (o : Nat) : w.frozen? ⟨g.c, o, none⟩ = false := by simp [World.frozen?, h.c]
end Go.Proofs.Ytpflodhnniochaa
