/-
  Pages of 4096 bytes as values; the map from pages to their blocks. Nothing of the program's code stands here.
-/
import Derived.Test.YtnbifbllemcjfaaKept
import Derived.WideKeyPair
import Derived.DeepKeys4
import Derived.ChangeKeysEq
namespace Go.Proofs.Ytnbifbllemcjfaa
set_option linter.unusedVariables false
open Go.RowKit Go.Maps Go.WideMaps

/-! Pages. -/
theorem pg_is : ∃ f : (Nat → BitVec 8) → Array Value, ∀ c, f c = Array.ofFn (n := 4096) fun i => .int .u8 (U1 (c i.val)) := ⟨_, fun _ => rfl⟩
noncomputable def pg : (Nat → BitVec 8) → Array Value := Classical.choose pg_is
theorem pg_def (c : Nat → BitVec 8) : pg c = Array.ofFn (n := 4096) fun i => .int .u8 (U1 (c i.val)) := Classical.choose_spec pg_is c
theorem pg_size (c : Nat → BitVec 8) : (pg c).size = 4096 := by rw [pg_def]; simp
theorem pg_get (c : Nat → BitVec 8) {i : Nat} (h : i < 4096) : (pg c)[i]? = some (.int .u8 (U1 (c i))) := by
  rw [pg_def, Array.getElem?_ofFn, dif_pos h]
theorem pg_one (c : Nat → BitVec 8) : (pg c).all (·.oneCell') = true := by
  rw [Array.all_eq_true_iff_forall_mem]
  intro v hv
  obtain ⟨i, hi, e⟩ := Array.mem_iff_getElem.1 hv
  have hi' : i < 4096 := by rw [pg_size] at hi; exact hi
  have h2 := pg_get c hi'
  rw [Array.getElem?_eq_getElem hi, e] at h2
  cases h2
  rfl
def updB (c : Nat → BitVec 8) (i : Nat) (b : BitVec 8) : Nat → BitVec 8 := fun j => if j = i then b else c j
theorem pg_ext {c d : Nat → BitVec 8} (h : ∀ i, i < 4096 → c i = d i) : pg c = pg d := by
  rw [pg_def, pg_def]
  congr 1
  funext i
  rw [h i.val i.isLt]
theorem pg_set (c : Nat → BitVec 8) {i : Nat} (h : i < 4096) (b : BitVec 8) : (pg c).setIfInBounds i (.int .u8 (U1 b)) = pg (updB c i b) := by
  apply Array.ext
  · simp [pg_size]
  · intro j h1 h2
    have hj : j < 4096 := by rw [pg_size] at h2; exact h2
    have e1 := pg_get (updB c i b) hj
    have e2 := pg_get c hj
    rw [Array.getElem?_eq_getElem h2] at e1
    rw [Array.getElem_setIfInBounds (by rw [pg_size]; exact hj)]
    have e3 := Option.some.inj e1
    rw [e3]
    unfold updB
    by_cases e : i = j
    · subst e; simp
    · rw [if_neg e, if_neg (fun e' => e e'.symm)]
      rw [Array.getElem?_eq_getElem (by rw [pg_size]; exact hj)] at e2
      exact Option.some.inj e2
def isZ : Value → Bool
  | .int .u8 n => n == 0
  | _ => false
def allZ : List Value → Bool
  | [] => true
  | v :: r => isZ v && allZ r
def lenN : List Value → Nat → Bool
  | [], 0 => true
  | _ :: r, n + 1 => lenN r n
  | _, _ => false
theorem lenN_iff : ∀ {l : List Value} {n : Nat}, lenN l n = true → l.length = n
  | [], 0, _ => rfl
  | [], n + 1, h => by simp [lenN] at h
  | _ :: r, 0, h => by simp [lenN] at h
  | _ :: r, n + 1, h => by rw [List.length_cons, lenN_iff (l := r) (n := n) (by simpa [lenN] using h)]
theorem allZ_mem : ∀ {l : List Value}, allZ l = true → ∀ v ∈ l, v = .int .u8 0
  | [], _, v, hv => by cases hv
  | x :: r, h, v, hv => by
    simp only [allZ, Bool.and_eq_true] at h
    rcases List.mem_cons.1 hv with rfl | hv
    · have h1 := h.1
      unfold isZ at h1
      split at h1
      · simp at h1; rw [h1]
      · cases h1
    · exact allZ_mem h.2 v hv
def chk (t : TypeInfo) : Bool := match t.zero with
  | some (.agg xs) => allZ xs.toList && lenN xs.toList 4096 && t.size == 4096
  | _ => false
set_option maxRecDepth 100000 in
theorem chk58 : (Try.prog.info? 58).map chk = some true := by kernel_rfl
theorem zero58 : ∃ i, Try.prog.info? 58 = some i ∧ i.zero = some (.agg (pg fun _ => 0#8)) ∧ i.size = 4096 := by
  obtain ⟨i, hi, hc⟩ := Option.map_eq_some_iff.1 chk58
  refine ⟨i, hi, ?_⟩
  unfold chk at hc
  split at hc
  · rename_i xs hx
    simp only [Bool.and_eq_true, beq_iff_eq] at hc
    obtain ⟨⟨h1, h2⟩, h3⟩ := hc
    refine ⟨?_, h3⟩
    have hl := lenN_iff h2
    have he : xs = pg fun _ => 0#8 := ?_
    · rw [hx, he]
    apply Array.ext
    · rw [pg_size]; simpa using hl
    · intro j h1' h2'
      have hj : j < 4096 := by rw [pg_size] at h2'; exact h2'
      have e1 := pg_get (fun _ => 0#8) hj
      rw [Array.getElem?_eq_getElem h2'] at e1
      have e3 := Option.some.inj e1
      rw [e3]
      exact allZ_mem h1 _ (by simp)
  · cases hc
theorem size58 (c : Nat → BitVec 8) : (Try.prog.info? 58).map (·.size) = some (pg c).size := by
  obtain ⟨i, hi, -, h⟩ := zero58
  rw [hi, pg_size]; simp [h]
theorem cells5 : Try.prog.cellsOf 5 = 1 := by kernel_rfl
theorem info5 : ∃ i, Try.prog.info? 5 = some i := by
  have h : (Try.prog.info? 5).isSome = true := by kernel_rfl
  exact Option.isSome_iff_exists.1 h

/-! Whole pages, as one step. -/
def ldp (v : Value) : Sem Value := Instr.loadAt 58 v
def stp (v x : Value) : Sem Unit := Instr.storeAt 58 v x
def alp : Sem Value := Instr.alloc 58 true (.tuple #[])
def bdp : Sem Value := Instr.build 58 #[]
theorem loadAt_58 (v : Value) : Instr.loadAt 58 v = ldp v := rfl
theorem storeAt_58 (v x : Value) : Instr.storeAt 58 v x = stp v x := rfl
theorem alloc_58 : Instr.alloc 58 true (.tuple #[]) = alp := rfl
theorem build_58 : Instr.build 58 #[] = bdp := rfl
/-- A block is a page. -/
def PageAt (w : World) (b : Nat) (c : Nat → BitVec 8) : Prop := w.heap[b]? = some (.cells (pg c) 58 (0, 0))
theorem PageAt.ld {w : World} {b : Nat} {c : Nat → BitVec 8} (h : PageAt w b c) : (ldp (.pointer (some ⟨b, 0, none⟩))).run Try.prog w = .ok (.agg (pg c)) w := by
  unfold ldp
  simp only [Instr.loadAt, Instr.sureAddr, Sem.run_bind, Sem.run_pure, Result.andThen_ok, run_loadVar_row w b _ _ (pg c) (0, 0) _ h Try.underlying58 rfl (size58 c)]
theorem PageAt.st {w : World} {b : Nat} {c : Nat → BitVec 8} (h : PageAt w b c) (d : Nat → BitVec 8) : (stp (.pointer (some ⟨b, 0, none⟩)) (.agg (pg d))).run Try.prog w = .ok () (w.setRow b (pg d)) := by
  unfold stp
  simp only [Instr.storeAt, Instr.sureAddr, Sem.run_bind, Sem.run_pure, Result.andThen_ok, run_storeVar_row w b _ _ (pg c) (pg d) h (size58 d) (by rw [pg_size, pg_size]) (pg_one d)]
theorem run_zero58 (w : World) : (zeroValue 58).run Try.prog w = .ok (.agg (pg fun _ => 0#8)) w := by
  obtain ⟨i, hi, hz, -⟩ := zero58
  unfold zeroValue
  simp [typeInfo, hi, hz]
theorem run_alp (w : World) : alp.run Try.prog w = .ok (.pointer (some ⟨w.heap.size, 0, none⟩)) (w.alloc (.cells (pg fun _ => 0#8) 58)) := by
  unfold alp
  simp only [Instr.alloc, newVar, Sem.run_bind, Sem.run_pure, Result.andThen_ok, run_zero58, Value.cells]
  rfl
theorem run_bdp (w : World) : bdp.run Try.prog w = .ok (.agg (pg fun _ => 0#8)) w := by
  obtain ⟨i, hi⟩ := info5
  unfold bdp Instr.build
  simp only [Sem.run_bind, Result.andThen_ok, run_zero58, Value.cells, run_underlying Try.underlying58, run_sizeOf w hi]
  simp [Instr.fill]
theorem pageAt_new (w : World) : PageAt (w.alloc (.cells (pg fun _ => 0#8) 58)) w.heap.size fun _ => 0#8 := heap_alloc_new _ _
theorem PageAt.lt {w : World} {b : Nat} {c : Nat → BitVec 8} (h : PageAt w b c) : b < w.heap.size := (Array.getElem?_eq_some_iff.1 h).1
theorem PageAt.kept {w w' : World} {b : Nat} {c : Nat → BitVec 8} (h : PageAt w b c) (e : w'.heap[b]? = w.heap[b]?) : PageAt w' b c := e.trans h
theorem PageAt.cell {w : World} {b : Nat} {c : Nat → BitVec 8} (h : PageAt w b c) {i : Nat} (hi : i < 4096) : w.cell? ⟨b, i, none⟩ = some (.int .u8 (U1 (c i))) := by
  unfold PageAt at h
  simp [World.cell?, h, pg_get c hi]
theorem PageAt.frozen {w : World} {b : Nat} {c : Nat → BitVec 8} (h : PageAt w b c) (i : Nat) : w.frozen? ⟨b, i, none⟩ = false := by
  unfold PageAt at h
  simp [World.frozen?, h]
theorem PageAt.set {w : World} {b : Nat} {c : Nat → BitVec 8} (h : PageAt w b c) {i : Nat} (hi : i < 4096) (x : BitVec 8) : PageAt (w.setCell ⟨b, i, none⟩ (.int .u8 (U1 x))) b (updB c i x) :=
  (heap_setCell_same w b i _ _ _ h).trans (by rw [pg_set c hi])
/-- Two pages, byte by byte. -/
def samePg (c d : Nat → BitVec 8) : Bool := (List.range 4096).all fun i => c i == d i
theorem samePg_iff {c d : Nat → BitVec 8} : samePg c d = true ↔ ∀ i, i < 4096 → c i = d i := by
  unfold samePg; simp
theorem run_eqItems_pg (D : Nat) (c d : Nat → BitVec 8) (w : World) : ∀ l : List Nat, (∀ i ∈ l, i < 4096) →
    (Op.eqItems (D + 1) 5 1 (pg c) (pg d) l).run Try.prog w = .ok (l.all fun i => c i == d i) w
  | [], _ => by simp [Op.eqItems]
  | i :: r, h => by
    obtain ⟨ti, hti⟩ := info5
    have hi : i < 4096 := h i (by simp)
    have e1 : ∀ c : Nat → BitVec 8, (part 5 (pg c) (i * 1)).run Try.prog w = .ok (.int .u8 (U1 (c i))) w := fun c => by
      have hu : (isAgg 5).run Try.prog w = .ok false w := by simp [isAgg, run_underlying Try.underlying5]
      simp [part, hu, pg_get c hi]
    have e2 : (Op.equalIn (D + 1) 5 (.int .u8 (U1 (c i))) (.int .u8 (U1 (d i)))).run Try.prog w = .ok (c i == d i) w := by
      simp [Op.equalIn, run_underlying Try.underlying5, U1_beq]
    simp only [Op.eqItems, Sem.run_bind, e1, e2, Result.andThen_ok, List.all_cons]
    cases hb : (c i == d i)
    · simp
    · simpa using run_eqItems_pg D c d w r (fun j hj => h j (by simp [hj]))
theorem eq58 (c d : Nat → BitVec 8) (w : World) : (Op.equalIn 10000 58 (.agg (pg c)) (.agg (pg d))).run Try.prog w = .ok (samePg c d) w := by
  obtain ⟨i, hi⟩ := info5
  rw [run_equalIn_array w 9999 (n := 4096) _ _ Try.underlying58 hi, cells5]
  exact run_eqItems_pg 9998 c d w _ fun i hi => by simpa using hi
end Go.Proofs.Ytnbifbllemcjfaa
