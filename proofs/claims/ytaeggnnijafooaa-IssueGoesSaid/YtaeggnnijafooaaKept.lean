/-
  What a call may turn.
-/
import Derived.Test.YtaeggnnijafooaaWords
import Derived.Test.YtaeggnnijafooaaMore
import Derived.Test.YtaeggnnijafooaaProg
import Derived.Maps.OwnSet
import Derived.Maps.RangeWalk
import Derived.RegionTactic
import Derived.BigRegion
import Derived.Deep.RegionHeld3
namespace Go.Proofs.Ytaeggnnijafooaa
set_option linter.unusedVariables false
open Go.RowKit Go.Maps

/-- All that is older than w's end is as it was, but for the blocks of S. -/
structure Kept (S : Nat → Prop) (w w' : World) : Prop where
  os : w'.os = w.os
  tape : w'.tape = w.tape
  output : w'.output = w.output
  size : w.heap.size ≤ w'.heap.size
  block : ∀ k, k < w.heap.size → ¬ S k → w'.heap[k]? = w.heap[k]?
theorem Kept.refl (S : Nat → Prop) (w : World) : Kept S w w := ⟨rfl, rfl, rfl, Nat.le_refl _, fun _ _ _ => rfl⟩
theorem Kept.trans {S : Nat → Prop} {a b c : World} (h : Kept S a b) (k : Kept S b c) : Kept S a c :=
  ⟨k.os.trans h.os, k.tape.trans h.tape, k.output.trans h.output, Nat.le_trans h.size k.size, fun i hi hs => (k.block i (Nat.lt_of_lt_of_le hi h.size) hs).trans (h.block i hi hs)⟩
theorem Kept.mono {S T : Nat → Prop} {a b : World} (h : Kept S a b) (hs : ∀ k, S k → T k) : Kept T a b := ⟨h.os, h.tape, h.output, h.size, fun i hi ht => h.block i hi (fun e => ht (hs i e))⟩
theorem Kept.drew {S : Nat → Prop} {a b : World} (h : Kept S a b) : Kept S a b.drew := ⟨h.os, h.tape, h.output, h.size, h.block⟩
theorem Kept.drewN {S : Nat → Prop} {a b : World} (h : Kept S a b) (n : Nat) : Kept S a (b.drewN n) := ⟨h.os, h.tape, h.output, h.size, h.block⟩
theorem Kept.alloc {S : Nat → Prop} {a b : World} (h : Kept S a b) (o : Obj) : Kept S a (b.alloc o) :=
  h.trans ⟨rfl, rfl, rfl, by simp, fun i hi _ => Below.heap_alloc b o i hi⟩
theorem Kept.setCell {S : Nat → Prop} {a b : World} (h : Kept S a b) (p : Addr) (v : Value) (hp : S p.block ∨ a.heap.size ≤ p.block) : Kept S a (b.setCell p v) :=
  ⟨h.os, h.tape, h.output, Nat.le_trans h.size (by simp [World.setCell]), fun i hi hs => by
    have hne : i ≠ p.block := fun e => by rcases hp with hp | hp; exact hs (e ▸ hp); omega
    rw [RowKit.Below.heap_setCell _ _ _ _ hne]; exact h.block i hi hs⟩
theorem Kept.setRow {S : Nat → Prop} {a b : World} (h : Kept S a b) (p : Nat) (cs : Array Value) (hp : S p ∨ a.heap.size ≤ p) : Kept S a (b.setRow p cs) :=
  ⟨h.os, h.tape, h.output, Nat.le_trans h.size (by simp [World.setRow]), fun i hi hs => by
    have hne : i ≠ p := fun e => by rcases hp with hp | hp; exact hs (e ▸ hp); omega
    simp only [World.setRow]; rw [Array.getElem?_modify, if_neg (fun e => hne e.symm)]; exact h.block i hi hs⟩
theorem Kept.turned {S : Nat → Prop} {a b c : World} (h : Kept S a b) {p : Nat} (k : b.mapTurned c p) (hp : S p ∨ a.heap.size ≤ p) : Kept S a c :=
  have g := k.grown
  ⟨g.os.trans h.os, g.tape.trans h.tape, g.output.trans h.output, Nat.le_trans h.size g.size, fun i hi hs => (g.block i (Nat.lt_of_lt_of_le hi h.size) (fun e => by
    cases e; rcases hp with hp | hp; exact hs hp; omega)).trans (h.block i hi hs)⟩
theorem Kept.more {S : Nat → Prop} {a b : World} (h : Kept S a b) (l : List Obj) : Kept S a (more b l) :=
  have g := below_more l b
  h.trans ⟨g.os, g.tape, g.output, g.size, fun i hi _ => g.block i hi⟩
theorem Kept.grown {S : Nat → Prop} {a b c : World} (h : Kept S a b) {row : Option Nat} (k : b.grownBy c row) (hp : ∀ p, row = some p → S p ∨ a.heap.size ≤ p) : Kept S a c :=
  ⟨k.os.trans h.os, k.tape.trans h.tape, k.output.trans h.output, Nat.le_trans h.size k.size, fun i hi hs => (k.block i (Nat.lt_of_lt_of_le hi h.size) (fun e => by
    rcases hp i e.symm with hp | hp; exact hs hp; omega)).trans (h.block i hi hs)⟩
theorem Kept.below {S : Nat → Prop} {a b : World} {B : Nat} (h : Kept S a b) (hB : B ≤ a.heap.size) (hs : ∀ k, k < B → ¬ S k) : Below B a b :=
  ⟨h.os, h.tape, h.output, h.size, fun i hi => h.block i (Nat.lt_of_lt_of_le hi hB) (hs i hi)⟩
/-- Nothing old was turned. -/
def Still : World → World → Prop := Kept (fun _ => False)
theorem Kept.still {S : Nat → Prop} {a b c : World} (h : Kept S a b) (k : Still b c) : Kept S a c := h.trans (k.mono (fun _ e => e.elim))
/-- .. the older blocks are the first n. -/
theorem Kept.start {S : Nat → Prop} {a b c : World} (h : Kept S a b) (k : Kept (fun x => S x ∨ a.heap.size ≤ x) b c) : Kept S a c :=
  ⟨k.os.trans h.os, k.tape.trans h.tape, k.output.trans h.output, Nat.le_trans h.size k.size, fun i hi hs => (k.block i (Nat.lt_of_lt_of_le hi h.size) (fun e => by
    rcases e with e | e; exact hs e; omega)).trans (h.block i hi hs)⟩

theorem Kept.cell {S : Nat → Prop} {w w' : World} (h : Kept S w w') {b o : Nat} {v : Value} (hc : w.cell? ⟨b, o, none⟩ = some v) (hs : ¬ S b) : w'.cell? ⟨b, o, none⟩ = some v := by
  have hb : b < w.heap.size := World.block_lt_of_cell? w ⟨b, o, none⟩ hc
  have := h.block b hb hs
  simp only [World.cell?] at hc ⊢
  rw [this]; exact hc
end Go.Proofs.Ytaeggnnijafooaa
