/-
  An argument of type api.Csrs is 'C r' for some registers r. (Printed by gen_csri.py.)
-/
import Derived.Test.YtgkajhpmgeofkaaRegs
import Derived.Test.YtgkajhpmgeofkaaWf
import Derived.WideShapes
import Derived.ChangeArms
namespace Go.Proofs.Ytgkajhpmgeofkaa
set_option linter.unusedVariables false
open Go.RowKit Go.WideShapes

theorem U1_of_wf {a : Int} (h : (Lit.int .u8 a).wf = true) : a = U1 (B1 a) := by
  have h2 := bounds_u8 h
  unfold U1 B1
  rw [BitVec.toNat_ofInt]
  have : (0 : Int) ≤ a % (256 : Int) := by omega
  omega
theorem of_take {cs : List Value} {o : Nat} {v : Value} (h : (cs.drop o).take 1 = [v]) : cs[o]? = some v := by
  have := congrArg (·[0]?) h
  simpa using this
section
variable {H : Type} {enc : TypeId × Value → H} {w : World} {base : Nat} {spare : Nat → Bool} {held : Bool} {fuel : Nat} {cs : List Value} {x : DataW H × List MemPlace}
theorem fld64 {o : Nat} {t : TypeId} (ht : Try.prog.underlying t = some (.int .u64)) (h : DataW.trod enc Try.prog w base spare held fuel t ((cs.drop o).take 1) = some x) : ∃ v : BitVec 64, cs[o]? = some (.int .u64 (U v)) := by
  obtain ⟨n, h1, _, h2⟩ := DataW.trod_int ht h
  exact ⟨B n, by rw [of_take h1, ← U_of_wf h2]⟩
theorem fld8 {o : Nat} {t : TypeId} (ht : Try.prog.underlying t = some (.int .u8)) (h : DataW.trod enc Try.prog w base spare held fuel t ((cs.drop o).take 1) = some x) : ∃ v : BitVec 8, cs[o]? = some (.int .u8 (U1 v)) := by
  obtain ⟨n, h1, _, h2⟩ := DataW.trod_int ht h
  exact ⟨B1 n, by rw [of_take h1, ← U1_of_wf h2]⟩
theorem cut {o i n : Nat} (hi : i < n) : ((((cs.drop o).take n).drop (i * 1)).take 1) = (cs.drop (o + i)).take 1 := by
  rw [Nat.mul_one, List.drop_take, List.take_take, List.drop_drop]
  congr 1; omega
theorem regs_of_trod (h : DataW.trod enc Try.prog w base spare held fuel 26 cs = some x) (hs : cs.length = 38) : ∃ r : Regs, cs = (C r).toList := by
  obtain ⟨xs, n, _, _, _, hl, hf⟩ := DataW.trod_struct Try.underlying26 h
  have c22 : Try.prog.cellsOf 22 = 1 := by kernel_rfl
  have c5 : Try.prog.cellsOf 5 = 1 := by kernel_rfl
  have c23 : Try.prog.cellsOf 23 = 8 := by kernel_rfl
  have c24 : Try.prog.cellsOf 24 = 8 := by kernel_rfl
  have hl : xs.length = 24 := hl
  have some_of : ∀ i, i < 24 → ∃ y, xs[i]? = some y := fun i hi => ⟨_, List.getElem?_eq_getElem (by omega)⟩
  obtain ⟨v0, e0⟩ : ∃ v : BitVec 64, cs[0]? = some (.int .u64 (U v)) := by
    obtain ⟨y, hy⟩ := some_of 0 (by decide)
    have := hf 0 _ rfl
    rw [hy] at this
    exact fld64 (o := 0) Try.underlying22 this
  obtain ⟨v1, e1⟩ : ∃ v : BitVec 64, cs[1]? = some (.int .u64 (U v)) := by
    obtain ⟨y, hy⟩ := some_of 1 (by decide)
    have := hf 1 _ rfl
    rw [hy] at this
    exact fld64 (o := 1) Try.underlying22 this
  obtain ⟨v2, e2⟩ : ∃ v : BitVec 64, cs[2]? = some (.int .u64 (U v)) := by
    obtain ⟨y, hy⟩ := some_of 2 (by decide)
    have := hf 2 _ rfl
    rw [hy] at this
    exact fld64 (o := 2) Try.underlying22 this
  obtain ⟨v3, e3⟩ : ∃ v : BitVec 64, cs[3]? = some (.int .u64 (U v)) := by
    obtain ⟨y, hy⟩ := some_of 3 (by decide)
    have := hf 3 _ rfl
    rw [hy] at this
    exact fld64 (o := 3) Try.underlying22 this
  obtain ⟨v4, e4⟩ : ∃ v : BitVec 64, cs[4]? = some (.int .u64 (U v)) := by
    obtain ⟨y, hy⟩ := some_of 4 (by decide)
    have := hf 4 _ rfl
    rw [hy] at this
    exact fld64 (o := 4) Try.underlying22 this
  obtain ⟨v5, e5⟩ : ∃ v : BitVec 64, cs[5]? = some (.int .u64 (U v)) := by
    obtain ⟨y, hy⟩ := some_of 5 (by decide)
    have := hf 5 _ rfl
    rw [hy] at this
    exact fld64 (o := 5) Try.underlying22 this
  obtain ⟨v6, e6⟩ : ∃ v : BitVec 64, cs[6]? = some (.int .u64 (U v)) := by
    obtain ⟨y, hy⟩ := some_of 6 (by decide)
    have := hf 6 _ rfl
    rw [hy] at this
    exact fld64 (o := 6) Try.underlying22 this
  obtain ⟨v7, e7⟩ : ∃ v : BitVec 64, cs[7]? = some (.int .u64 (U v)) := by
    obtain ⟨y, hy⟩ := some_of 7 (by decide)
    have := hf 7 _ rfl
    rw [hy] at this
    exact fld64 (o := 7) Try.underlying22 this
  obtain ⟨v8, e8⟩ : ∃ v : BitVec 64, cs[8]? = some (.int .u64 (U v)) := by
    obtain ⟨y, hy⟩ := some_of 8 (by decide)
    have := hf 8 _ rfl
    rw [hy] at this
    exact fld64 (o := 8) Try.underlying22 this
  obtain ⟨v9, e9⟩ : ∃ v : BitVec 64, cs[9]? = some (.int .u64 (U v)) := by
    obtain ⟨y, hy⟩ := some_of 9 (by decide)
    have := hf 9 _ rfl
    rw [hy] at this
    exact fld64 (o := 9) Try.underlying22 this
  obtain ⟨v10, e10⟩ : ∃ v : BitVec 64, cs[10]? = some (.int .u64 (U v)) := by
    obtain ⟨y, hy⟩ := some_of 10 (by decide)
    have := hf 10 _ rfl
    rw [hy] at this
    exact fld64 (o := 10) Try.underlying22 this
  obtain ⟨v11, e11⟩ : ∃ v : BitVec 64, cs[11]? = some (.int .u64 (U v)) := by
    obtain ⟨y, hy⟩ := some_of 11 (by decide)
    have := hf 11 _ rfl
    rw [hy] at this
    exact fld64 (o := 11) Try.underlying22 this
  obtain ⟨v12, e12⟩ : ∃ v : BitVec 64, cs[12]? = some (.int .u64 (U v)) := by
    obtain ⟨y, hy⟩ := some_of 12 (by decide)
    have := hf 12 _ rfl
    rw [hy] at this
    exact fld64 (o := 12) Try.underlying22 this
  obtain ⟨v13, e13⟩ : ∃ v : BitVec 64, cs[13]? = some (.int .u64 (U v)) := by
    obtain ⟨y, hy⟩ := some_of 13 (by decide)
    have := hf 13 _ rfl
    rw [hy] at this
    exact fld64 (o := 13) Try.underlying22 this
  obtain ⟨v14, e14⟩ : ∃ v : BitVec 64, cs[14]? = some (.int .u64 (U v)) := by
    obtain ⟨y, hy⟩ := some_of 14 (by decide)
    have := hf 14 _ rfl
    rw [hy] at this
    exact fld64 (o := 14) Try.underlying22 this
  obtain ⟨v15, e15⟩ : ∃ v : BitVec 64, cs[15]? = some (.int .u64 (U v)) := by
    obtain ⟨y, hy⟩ := some_of 15 (by decide)
    have := hf 15 _ rfl
    rw [hy] at this
    exact fld64 (o := 15) Try.underlying22 this
  obtain ⟨v16, e16⟩ : ∃ v : BitVec 64, cs[16]? = some (.int .u64 (U v)) := by
    obtain ⟨y, hy⟩ := some_of 16 (by decide)
    have := hf 16 _ rfl
    rw [hy] at this
    exact fld64 (o := 16) Try.underlying22 this
  obtain ⟨v17, e17⟩ : ∃ v : BitVec 64, cs[17]? = some (.int .u64 (U v)) := by
    obtain ⟨y, hy⟩ := some_of 17 (by decide)
    have := hf 17 _ rfl
    rw [hy] at this
    exact fld64 (o := 17) Try.underlying22 this
  obtain ⟨v18, e18⟩ : ∃ v : BitVec 64, cs[18]? = some (.int .u64 (U v)) := by
    obtain ⟨y, hy⟩ := some_of 18 (by decide)
    have := hf 18 _ rfl
    rw [hy] at this
    exact fld64 (o := 18) Try.underlying22 this
  obtain ⟨v19, e19⟩ : ∃ v : BitVec 64, cs[19]? = some (.int .u64 (U v)) := by
    obtain ⟨y, hy⟩ := some_of 19 (by decide)
    have := hf 19 _ rfl
    rw [hy] at this
    exact fld64 (o := 19) Try.underlying22 this
  obtain ⟨v20, e20⟩ : ∃ v : BitVec 64, cs[20]? = some (.int .u64 (U v)) := by
    obtain ⟨y, hy⟩ := some_of 20 (by decide)
    have := hf 20 _ rfl
    rw [hy] at this
    exact fld64 (o := 20) Try.underlying22 this
  obtain ⟨v21, e21⟩ : ∃ v : BitVec 64, cs[21]? = some (.int .u64 (U v)) := by
    obtain ⟨y, hy⟩ := some_of 21 (by decide)
    have := hf 21 _ rfl
    rw [hy] at this
    exact fld64 (o := 21) Try.underlying22 this
  have g22 : ∀ i, i < 8 → ∃ v : BitVec 8, cs[22 + i]? = some (.int .u8 (U1 v)) := by
    intro i hi
    obtain ⟨y, hy⟩ := some_of 22 (by decide)
    have a := hf 22 _ rfl
    rw [hy] at a
    obtain ⟨ys, m, _, _, _, hyl, hg⟩ := DataW.trod_array Try.underlying23 a
    have b := hg i hi
    obtain ⟨z, hz⟩ : ∃ z, ys[i]? = some z := ⟨_, List.getElem?_eq_getElem (by omega)⟩
    rw [hz, c5] at b
    have b' : DataW.trod enc Try.prog w base spare held m 5 ((((cs.drop 22).take 8).drop (i * 1)).take 1) = some z := b
    rw [cut hi] at b'
    exact fld8 Try.underlying5 b'
  obtain ⟨v22, e22⟩ := g22 0 (by decide)
  obtain ⟨v23, e23⟩ := g22 1 (by decide)
  obtain ⟨v24, e24⟩ := g22 2 (by decide)
  obtain ⟨v25, e25⟩ := g22 3 (by decide)
  obtain ⟨v26, e26⟩ := g22 4 (by decide)
  obtain ⟨v27, e27⟩ := g22 5 (by decide)
  obtain ⟨v28, e28⟩ := g22 6 (by decide)
  obtain ⟨v29, e29⟩ := g22 7 (by decide)
  have g23 : ∀ i, i < 8 → ∃ v : BitVec 64, cs[30 + i]? = some (.int .u64 (U v)) := by
    intro i hi
    obtain ⟨y, hy⟩ := some_of 23 (by decide)
    have a := hf 23 _ rfl
    rw [hy] at a
    obtain ⟨ys, m, _, _, _, hyl, hg⟩ := DataW.trod_array Try.underlying24 a
    have b := hg i hi
    obtain ⟨z, hz⟩ : ∃ z, ys[i]? = some z := ⟨_, List.getElem?_eq_getElem (by omega)⟩
    rw [hz, c22] at b
    have b' : DataW.trod enc Try.prog w base spare held m 22 ((((cs.drop 30).take 8).drop (i * 1)).take 1) = some z := b
    rw [cut hi] at b'
    exact fld64 Try.underlying22 b'
  obtain ⟨v30, e30⟩ := g23 0 (by decide)
  obtain ⟨v31, e31⟩ := g23 1 (by decide)
  obtain ⟨v32, e32⟩ := g23 2 (by decide)
  obtain ⟨v33, e33⟩ := g23 3 (by decide)
  obtain ⟨v34, e34⟩ := g23 4 (by decide)
  obtain ⟨v35, e35⟩ := g23 5 (by decide)
  obtain ⟨v36, e36⟩ := g23 6 (by decide)
  obtain ⟨v37, e37⟩ := g23 7 (by decide)
  refine ⟨⟨v0, v1, v2, v3, v4, v5, v6, v7, v8, v9, v10, v11, v12, v13, v14, v15, v16, v17, v18, v19, v20, v21, v22, v23, v24, v25, v26, v27, v28, v29, v30, v31, v32, v33, v34, v35, v36, v37⟩, List.ext_getElem? fun j => ?_⟩
  match j with
  | 0 => exact e0
  | 1 => exact e1
  | 2 => exact e2
  | 3 => exact e3
  | 4 => exact e4
  | 5 => exact e5
  | 6 => exact e6
  | 7 => exact e7
  | 8 => exact e8
  | 9 => exact e9
  | 10 => exact e10
  | 11 => exact e11
  | 12 => exact e12
  | 13 => exact e13
  | 14 => exact e14
  | 15 => exact e15
  | 16 => exact e16
  | 17 => exact e17
  | 18 => exact e18
  | 19 => exact e19
  | 20 => exact e20
  | 21 => exact e21
  | 22 => exact e22
  | 23 => exact e23
  | 24 => exact e24
  | 25 => exact e25
  | 26 => exact e26
  | 27 => exact e27
  | 28 => exact e28
  | 29 => exact e29
  | 30 => exact e30
  | 31 => exact e31
  | 32 => exact e32
  | 33 => exact e33
  | 34 => exact e34
  | 35 => exact e35
  | 36 => exact e36
  | 37 => exact e37
  | j + 38 =>
    rw [List.getElem?_eq_none (by omega), List.getElem?_eq_none (by show 38 ≤ j + 38; omega)]
end
/-- The argument. -/
theorem open_regs {H : Type} {enc : TypeId × Value → H} {w : World} {base b0 : Nat} {spare : Nat → Bool} {held : Bool} {r : Reach} {v : Value} {d : DataW H} {p : List MemPlace}
    (hv : Value.okWide Try.prog w r b0 26 v) (h : DataW.Trod enc Try.prog w base spare held 26 v d p) : ∃ r : Regs, v = .agg (C r) := by
  obtain ⟨cs, rfl, hsz⟩ := okWide_struct Try.underlying26 hv
  have c26 : Try.prog.cellsOf 26 = 38 := by kernel_rfl
  obtain ⟨fuel, hf⟩ := h
  obtain ⟨r, hr⟩ := regs_of_trod (cs := cs.toList) (by simpa [Value.cells] using hf) (by simp [hsz, c26])
  exact ⟨r, by rw [show cs = C r from Array.toList_inj.1 hr]⟩
end Go.Proofs.Ytgkajhpmgeofkaa
