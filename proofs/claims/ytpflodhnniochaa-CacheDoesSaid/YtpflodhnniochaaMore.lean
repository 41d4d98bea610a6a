/-
  A world with blocks laid behind it: 'w.more l'; the walk's rules on it. Nothing of the program stands here.
-/
import Derived.Test.YtpflodhnniochaaWords
import Derived.Below
import Derived.Deep.MidRow
import Derived.Deep.WholeRow
namespace Go.Proofs.Ytpflodhnniochaa
set_option linter.unusedVariables false
open Go.RowKit

def more (w : World) (l : List Obj) : World := l.foldl World.alloc w
theorem more_nil (w : World) : more w [] = w := rfl
theorem more_cons (w : World) (o : Obj) (l : List Obj) : more w (o :: l) = more (w.alloc o) l := rfl
theorem more_snoc (w : World) (o : Obj) (l : List Obj) : (more w l).alloc o = more w (l ++ [o]) := by unfold more; rw [List.foldl_append]; rfl
@[go_sem] theorem more_more (w : World) (l k : List Obj) : more (more w l) k = more w (l ++ k) := by unfold more; rw [List.foldl_append]
@[go_sem] theorem size_more : ∀ (l : List Obj) (w : World), (more w l).heap.size = w.heap.size + l.length
  | [], _ => rfl
  | o :: l, w => by rw [more_cons, size_more l, World.size_alloc, List.length_cons]; omega
@[go_sem] theorem cell?_more : ∀ (l : List Obj) (w : World) (n i : Nat), n < w.heap.size → (more w l).cell? ⟨n, i, none⟩ = w.cell? ⟨n, i, none⟩
  | [], _, _, _, _ => rfl
  | o :: l, w, n, i, h => by rw [more_cons, cell?_more l _ n i (by simp; omega), World.cell?_alloc_past o n i h]
@[go_sem] theorem frozen?_more : ∀ (l : List Obj) (w : World) (n i : Nat), n < w.heap.size → (more w l).frozen? ⟨n, i, none⟩ = w.frozen? ⟨n, i, none⟩
  | [], _, _, _, _ => rfl
  | o :: l, w, n, i, h => by rw [more_cons, frozen?_more l _ n i (by simp; omega), World.frozen?_alloc_past o n i h]
@[go_sem] theorem setCell_more : ∀ (l : List Obj) (w : World) (n i : Nat) (v : Value), n < w.heap.size → (more w l).setCell ⟨n, i, none⟩ v = more (w.setCell ⟨n, i, none⟩ v) l
  | [], _, _, _, _, _ => rfl
  | o :: l, w, n, i, v, h => by rw [more_cons, setCell_more l _ n i v (by simp; omega), World.setCell_alloc_past o n i v h, more_cons]
theorem heap_more : ∀ (l : List Obj) (w : World) (n : Nat), n < w.heap.size → (more w l).heap[n]? = w.heap[n]?
  | [], _, _, _ => rfl
  | o :: l, w, n, h => by rw [more_cons, heap_more l _ n (by simp; omega), Below.heap_alloc w o n h]
theorem setRow_past (w : World) (o : Obj) (g : Nat) (cs : Array Value) (h : g < w.heap.size) : (w.alloc o).setRow g cs = (w.setRow g cs).alloc o := by
  simp only [World.setRow, World.alloc]
  congr 1
  apply Array.ext_getElem?
  intro i
  simp only [Array.getElem?_modify, Array.getElem?_push, Array.size_modify]
  by_cases hk : i = w.heap.size
  · subst hk; simp [Nat.ne_of_lt h]
  · simp [hk]
theorem setRow_new (w : World) (c c' : Array Value) (t : TypeId) (n : Nat) (h : n = w.heap.size) : (w.alloc (.cells c t)).setRow n c' = w.alloc (.cells c' t) := by
  subst h; exact World.setRow_alloc_new w c c' t
theorem setRow_more : ∀ (l : List Obj) (w : World) (g : Nat) (cs : Array Value), g < w.heap.size → (more w l).setRow g cs = more (w.setRow g cs) l
  | [], _, _, _, _ => rfl
  | o :: l, w, g, cs, h => by rw [more_cons, setRow_more l _ g cs (by simp; omega), setRow_past w o g cs h, more_cons]
theorem setCells_past (o : Obj) (b : Nat) : ∀ (vs : List Value) (k : Nat) (w : World), b < w.heap.size → (w.alloc o).setCells b k vs = (w.setCells b k vs).alloc o
  | [], _, _, _ => rfl
  | v :: r, k, w, h => by
    rw [World.setCells, World.setCells, World.setCell_alloc_past o b k v h]
    exact setCells_past o b r (k + 1) _ (by simpa using h)
theorem setCells_more (b : Nat) (vs : List Value) (k : Nat) : ∀ (l : List Obj) (w : World), b < w.heap.size → (more w l).setCells b k vs = more (w.setCells b k vs) l
  | [], _, _ => rfl
  | o :: l, w, h => by rw [more_cons, setCells_more b vs k l _ (by simp; omega), setCells_past o b vs k w h, more_cons]
theorem there_past {w : World} {b k n : Nat} (h : w.there b k n) (o : Obj) : (w.alloc o).there b k n := World.there_alloc h o
theorem there_more : ∀ (l : List Obj) {w : World} {b k n : Nat}, w.there b k n → (more w l).there b k n
  | [], _, _, _, _, h => h
  | o :: l, w, b, k, n, h => by rw [more_cons]; exact there_more l (there_past h o)

/-- Only blocks have been laid behind. -/
def More (w w' : World) : Prop := ∃ l, w' = more w l
theorem More.refl (w : World) : More w w := ⟨[], rfl⟩
theorem More.alloc {w w' : World} (h : More w w') (o : Obj) : More w (w'.alloc o) := by obtain ⟨l, rfl⟩ := h; exact ⟨l ++ [o], more_snoc w o l⟩
theorem More.more {w w' : World} (h : More w w') (k : List Obj) : More w (more w' k) := by obtain ⟨l, rfl⟩ := h; exact ⟨l ++ k, more_more w l k⟩
theorem More.trans {a b c : World} (h : More a b) (k : More b c) : More a c := by obtain ⟨l, rfl⟩ := k; exact h.more l
theorem below_more : ∀ (l : List Obj) (w : World), Below w.heap.size w (more w l)
  | [], w => Below.refl _ _
  | o :: l, w => (((Below.refl w.heap.size w).alloc (Nat.le_refl _) o).trans ((below_more l (w.alloc o)).mono (by simp)))
theorem More.below {w w' : World} (h : More w w') : Below w.heap.size w w' := by obtain ⟨l, rfl⟩ := h; exact below_more l w
end Go.Proofs.Ytpflodhnniochaa
