/-
  An argument that is a slice of api.Lay: its cells.
-/
import Derived.Test.YtgkajhpmgeofkaaCsrQ
import Derived.Test.YtgkajhpmgeofkaaWf
import Derived.Deep.SlicePairs
namespace Go.Proofs.Ytgkajhpmgeofkaa
open Go.ChangeShapes Go.WideShapes Go.Deep Go.RowKit
set_option linter.unusedVariables false

theorem size_of_cell {w : World} {a : Addr} {v : Value} (h : w.cell? a = some v) : a.block < w.heap.size := by
  unfold World.cell? at h
  rcases Nat.lt_or_ge a.block w.heap.size with k | k
  · exact k
  · rw [Array.getElem?_eq_none k] at h
    simp at h
theorem choose_lits {n : Nat} {V0 V1 : Nat → Value} (h : ∀ i, i < n → ∃ (x : Int) (y : BitVec 64), V0 i = .int .i64 x ∧ V1 i = .int .u64 (U y)) :
    ∃ L : Nat → Int × BitVec 64, ∀ i, i < n → V0 i = .int .i64 (L i).1 ∧ V1 i = .int .u64 (U (L i).2) := by
  refine ⟨fun i => if g : i < n then ((h i g).choose, (h i g).choose_spec.choose) else (0, 0#64), fun i hi => ?_⟩
  simp only [dif_pos hi]
  exact (h i hi).choose_spec.choose_spec
theorem open_lays {H : Type} {enc : TypeId × Value → H} {W : World} {r : Reach} {b0 : Nat} {v : Value} {d : DataW H} {p : List MemPlace}
    (hok : Value.okWide Try.prog W r b0 34 v) (h : DataW.Trod enc Try.prog W 0 (fun _ => true) true 34 v d p) : ∃ n L, LaysAt W v n L := by
  obtain ⟨a0, len0, cap0, rfl⟩ := okWide_slice Try.underlying34 hok
  obtain ⟨fuel, hf⟩ := h
  rcases open_slice_pairs Try.underlying34 Try.underlying56 (by kernel_rfl) (by kernel_rfl) (by kernel_rfl) (by kernel_rfl) (by kernel_rfl) hf with ⟨hcs, _⟩ | ⟨a, len, cap, m, n, V0, V1, D0, D1, P0, P1, hcs, _, hl, hm, hmm, _, hi⟩
  · simp [Value.cells] at hcs
    obtain ⟨rfl, rfl, rfl⟩ := hcs
    exact ⟨0, fun _ => (0, 0#64), .inl ⟨rfl, rfl⟩⟩
  · simp [Value.cells] at hcs
    obtain ⟨rfl, rfl, rfl⟩ := hcs
    simp only [if_true] at hmm
    subst hmm
    obtain ⟨L, hL⟩ := choose_lits (n := len0) (V0 := V0) (V1 := V1) (fun i him => by
      obtain ⟨_, _, g0, g1⟩ := hi i (by omega)
      obtain ⟨x, e0, _, _⟩ := DataW.trod_int Try.underlying3 g0
      obtain ⟨y, e1, _, wf⟩ := DataW.trod_int Try.underlying22 g1
      simp at e0 e1
      exact ⟨x, B y, e0, by rw [← U_of_wf wf]; exact e1⟩)
    refine ⟨_, L, .inr ⟨a, _, rfl, hl, hm, fun z => ?_, fun i him => ?_⟩⟩
    · have t := size_of_cell (hi 0 (by omega)).1
      rwa [addr_block] at t
    · obtain ⟨c0, c1, _, _⟩ := hi i (by omega)
      obtain ⟨e0, e1⟩ := hL i him
      rw [e0] at c0
      rw [e1] at c1
      refine ⟨c0, ?_⟩
      rw [← c1, ← add_add]
      rfl
end Go.Proofs.Ytgkajhpmgeofkaa
