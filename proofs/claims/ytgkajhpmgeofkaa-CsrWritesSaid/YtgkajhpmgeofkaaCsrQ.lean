/-
  The walk of held: what Reset and some writes have left.
-/
import Derived.Test.YtgkajhpmgeofkaaCsrL
import Derived.Test.YtgkajhpmgeofkaaCsrP
import Derived.RegionTactic
import Derived.Laws.CopyOwn
namespace Go.Proofs.Ytgkajhpmgeofkaa
set_option linter.unusedVariables false
open Go.RowKit

def heldS (L : Nat → Int × BitVec 64) : Nat → Regs
  | 0 => resetR
  | k + 1 => writeS (heldS L k) (L k).1 (L k).2
theorem heldS_succ (L : Nat → Int × BitVec 64) (k : Nat) : heldS L (k + 1) = writeS (heldS L k) (L k).1 (L k).2 := rfl
theorem heldS_zero (L : Nat → Int × BitVec 64) : heldS L 0 = resetR := rfl
theorem legal_held (L : Nat → Int × BitVec 64) : ∀ k, Legal (heldS L k)
  | 0 => legal_zero
  | k + 1 => legal_write (legal_held L k) _ _

/-- A load and a store of whole registers, as one step of a region that draws. -/
def ldv (v : Value) : Sem Value := Instr.loadAt 26 v
def stv (v x : Value) : Sem Unit := Instr.storeAt 26 v x
theorem loadAt_26 (v : Value) : Instr.loadAt 26 v = ldv v := rfl
theorem storeAt_26 (v x : Value) : Instr.storeAt 26 v x = stv v x := rfl
theorem run_ldv (w : World) (b : Nat) (r : Regs) (h : w.heap[b]? = some (.cells (C r) 26 (0, 0))) :
    (ldv (.pointer (some ⟨b, 0, none⟩))).run Try.prog w = .ok (.agg (C r)) w := by
  unfold ldv
  simp only [Instr.loadAt, Instr.sureAddr, Sem.run_bind, Sem.run_pure, Result.andThen_ok, run_loadVar_row w b _ _ (C r) (0, 0) _ h Try.underlying26 rfl size26]
theorem run_stv (w : World) (b : Nat) (r s : Regs) (h : w.heap[b]? = some (.cells (C r) 26 (0, 0))) :
    (stv (.pointer (some ⟨b, 0, none⟩)) (.agg (C s))).run Try.prog w = .ok () (w.setRow b (C s)) := by
  unfold stv
  simp only [Instr.storeAt, Instr.sureAddr, Sem.run_bind, Sem.run_pure, Result.andThen_ok, run_storeVar_row w b _ _ (C r) (C s) h size26 rfl (C_one s)]

def alv : Sem Value := Instr.alloc 26 true (.tuple #[])
theorem alloc_26 : Instr.alloc 26 true (.tuple #[]) = alv := rfl
theorem run_alv (w : World) : alv.run Try.prog w = .ok (.pointer (some ⟨w.heap.size, 0, none⟩)) (w.alloc (.cells (C zeroR) 26)) := by
  unfold alv
  simp only [Instr.alloc, newVar, Sem.run_bind, Sem.run_pure, Result.andThen_ok, (zero_of_info zero26).1, Value.cells]
  rfl
theorem ld_at {w : World} {b : Nat} {r : Regs} (h : w.heap[b]? = some (.cells (C r) 26 (0, 0))) : (ldv (.pointer (some ⟨b, 0, none⟩))).run Try.prog w = .ok (.agg (C r)) w := run_ldv w b r h
theorem st_at {w : World} {b : Nat} {r : Regs} (s : Regs) (h : w.heap[b]? = some (.cells (C r) 26 (0, 0))) : (stv (.pointer (some ⟨b, 0, none⟩)) (.agg (C s))).run Try.prog w = .ok () (w.setRow b (C s)) := run_stv w b r s h
theorem hD {w : World} {o : Obj} {n : Nat} (h : w.heap[n]? = some o) : w.drew.heap[n]? = some o := h
/-- What holds where a region ends; no panic, no leap. -/
def AtEnd (R : Act → World → Prop) : Exit → Act → World → Prop
  | .normal, a, w => R a w
  | _, _, _ => False
theorem atEnd_imp {R : Act → World → Prop} {Q : Exit → Act → World → Prop} (h : ∀ a w, R a w → Q .normal a w) : ∀ e a w, AtEnd R e a w → Q e a w := fun e a w k => by
  cases e <;> first | exact h a w k | exact False.elim k
theorem cell_at {w : World} {b : Nat} {r : Regs} (k : Nat) (h : w.heap[b]? = some (.cells (C r) 26 (0, 0))) : w.cell? ⟨b, k, none⟩ = (C r)[k]? := by simp [World.cell?, h]
theorem frozen_at {w : World} {b : Nat} {r : Regs} (k : Nat) (h : w.heap[b]? = some (.cells (C r) 26 (0, 0))) : w.frozen? ⟨b, k, none⟩ = false := by simp [World.frozen?, h]
theorem heap_set0 {w : World} {b : Nat} {r : Regs} (x : BitVec 64) (h : w.heap[b]? = some (.cells (C r) 26 (0, 0))) :
    (w.setCell ⟨b, 0, none⟩ (.int .u64 (U x))).heap[b]? = some (.cells (C { r with mstatus := x }) 26 (0, 0)) :=
  (heap_setCell_same w b 0 _ _ _ h).trans (by rw [C_set_0])
theorem wrap_succ {k n : Nat} (h : k < n) (hn : n ≤ maxLen) : wrap64 ((k : Int) + 1) = k + 1 := by
  have hm : maxLen = 9223372036854775807 := by decide
  unfold wrap64
  omega
theorem meas_succ {k n : Nat} (h : k < n) (hw : wrap64 ((k : Int) + 1) = k + 1) : n - (intOf (Value.int .i64 (wrap64 ((k : Int) + 1)))).toNat < n - (intOf (Value.int .i64 (k : Int))).toNat := by
  rw [hw]
  show n - ((k : Int) + 1).toNat < n - (k : Int).toNat
  clear hw
  omega
theorem addr_block (a : Addr) (i : Nat) : (a.add i).block = a.block := by unfold Addr.add; split <;> rfl
/-- The cells of a slice of lays. -/
def LaysAt (w : World) (s : Value) (n : Nat) (L : Nat → Int × BitVec 64) : Prop :=
  (n = 0 ∧ s = .slice none 0 0) ∨ ∃ (a : Addr) (cap : Nat), s = .slice (some a) n cap ∧ n ≤ cap ∧ cap ≤ maxLen ∧ (0 < n → a.block < w.heap.size) ∧
    ∀ i, i < n → w.cell? (a.add (i * 2)) = some (.int .i64 (L i).1) ∧ w.cell? ⟨(a.add (i * 2)).block, (a.add (i * 2)).off + 1, none⟩ = some (.int .u64 (U (L i).2))

attribute [local irreducible] more
attribute [local go_sem ↓] loadAt_26 storeAt_26
set_option maxHeartbeats 2000000 in
theorem held_walk (a : Addr) (n cap : Nat) (L : Nat → Int × BitVec 64) (w : World) (hn : n ≤ cap) (hc : cap ≤ maxLen) (hb : 0 < n → a.block < w.heap.size)
    (hL : ∀ i, i < n → w.cell? (a.add (i * 2)) = some (.int .i64 (L i).1) ∧ w.cell? ⟨(a.add (i * 2)).block, (a.add (i * 2)).off + 1, none⟩ = some (.int .u64 (U (L i).2))) :
    Calls Try.prog 20 #[.slice (some a) n cap] w fun e w' => e = .returned (.agg (C (heldS L n))) ∧ Below w.heap.size w w' := by
  go_enter Try.func20, Try.ntmps20
  go_wp2_with (first
    | (go_at_call 16; refine (Reset_any _).mono ?_; rintro e w' ⟨rfl, l, rfl⟩)
    | refine alloc26 rfl rfl ?_
    | (refine store26 rfl _ _ rfl _ rfl _ rfl _ _ (hA (by simp [size_more])) rfl ?_; rw [setRow_new _ _ _ _ _ (by simp [size_more])]))
  generalize Value.agg (C resetR) = q0
  go_loopw [4] (fun iv wr => ∃ k : Nat, k ≤ n ∧ iv = .int .i64 k ∧ Below w.heap.size w wr ∧ wr.heap[w.heap.size]? = some (.cells (C zeroR) 26 (0, 0)) ∧ wr.heap[w.heap.size + 1 + l.length]? = some (.cells (C (heldS L k)) 26 (0, 0))) (fun iv _ => n - (intOf iv).toNat)
  case atStart =>
    refine ⟨0, by omega, rfl, ?_, ?_, ?_⟩
    · exact ((((Below.refl _ _).alloc (Nat.le_refl _) _).trans ((below_more _ _).mono (by simp))).alloc (by simp [size_more]; omega) _)
    · exact hP (hM (hA rfl))
    · rw [heldS_zero]; exact hA (by simp [size_more])
  case round =>
    obtain ⟨k, hk, rfl, hbel, h2, h3⟩ := hrel
    have hL1 : ∀ w', Below w.heap.size w w' → ∀ i, i < n → w'.cell? (a.add (i * 2)) = some (.int .i64 (L i).1) := fun w' hw' i hi => by rw [hw'.cell (show (a.add (i * 2)).block < w.heap.size by rw [addr_block]; exact hb (Nat.lt_of_le_of_lt (Nat.zero_le _) hi))]; exact (hL i hi).1
    have hL2 : ∀ w', Below w.heap.size w w' → ∀ i, i < n → w'.cell? ⟨(a.add (i * 2)).block, (a.add (i * 2)).off + 1, none⟩ = some (.int .u64 (U (L i).2)) := fun w' hw' i hi => by rw [hw'.cell (p := ⟨(a.add (i * 2)).block, (a.add (i * 2)).off + 1, none⟩) (show (a.add (i * 2)).block < w.heap.size by rw [addr_block]; exact hb (Nat.lt_of_le_of_lt (Nat.zero_le _) hi))]; exact (hL i hi).2
    by_cases hlt : k < n
    · have hw1 := wrap_succ hlt (Nat.le_trans hn hc)
      have H3 := run_ldv wr.drew _ _ h3
      have H4 : ∀ m, (stv (.pointer (some ⟨w.heap.size + 1 + l.length, 0, none⟩)) (.agg (C (writeS (heldS L k) (L k).1 (L k).2)))).run Try.prog (more wr.drew m) = .ok () ((more wr.drew m).setRow (w.heap.size + 1 + l.length) (C (writeS (heldS L k) (L k).1 (L k).2))) := fun m => run_stv _ _ (heldS L k) _ (hM h3)
      have c1 := hL1 wr.drew hbel.drew k hlt
      have c2 := hL2 wr.drew hbel.drew k hlt
      have H1 := hide hL1
      have H2 := hide hL2
      have HL := hide hL
      clear hL1 hL2 hL
      go_wp2_with fail
      go_region_with ((go_at_call 18; refine (Write_any _ _ _ _).mono ?_; rintro e w' ⟨rfl, m, rfl⟩))
      all_goals
        have hb5 : w.heap.size + 1 + l.length ≠ w.heap.size := by omega
        have hb1 : Below w.heap.size w ((more wr.drew m).setRow (w.heap.size + 1 + l.length) (C (writeS (heldS L k) (L k).1 (L k).2))) :=
          below_setRow (hbel.drew.trans ((below_more m wr.drew).mono hbel.size)) (by omega) _
        have hb2 : ((more wr.drew m).setRow (w.heap.size + 1 + l.length) (C (writeS (heldS L k) (L k).1 (L k).2))).heap[w.heap.size]? = some (.cells (C zeroR) 26 (0, 0)) := by
          rw [setRow_other _ _ _ _ (by omega)]; exact hM h2
        have hb3 : ((more wr.drew m).setRow (w.heap.size + 1 + l.length) (C (writeS (heldS L k) (L k).1 (L k).2))).heap[w.heap.size + 1 + l.length]? = some (.cells (C (heldS L (k + 1))) 26 (0, 0)) := by
          rw [heldS_succ]
          exact setRow_heap _ _ _ _ _ _ (hM h3)
        clear H3 H4 H1 H2 HL c1 c2 h2 h3
        generalize (more wr.drew m).setRow (w.heap.size + 1 + l.length) (C (writeS (heldS L k) (L k).1 (L k).2)) = wn at *
        generalize Value.agg (C (heldS L k)) = q1
        generalize Value.agg (C (writeS (heldS L k) (L k).1 (L k).2)) = q2
        go_wp2_with fail
        go_roundw
        case rel => exact ⟨k + 1, by omega, by simp [hw1], hb1, hb2, hb3⟩
        case measure => exact meas_succ hlt hw1
    · obtain rfl : k = n := by omega
      clear hL1 hL2 hL
      go_wp2_with (first
        | (refine load26 rfl _ rfl _ rfl _ _ h3 ?_)
        | (refine store26 rfl _ _ rfl _ rfl _ rfl _ _ h2 rfl ?_))
      (try simp only [Exit.inBlock, Exit.then])
      exact ret26 rfl _ rfl _ _ (setRow_heap _ _ _ _ _ _ h2) rfl ⟨rfl, below_setRow hbel (Nat.le_refl _) _⟩
set_option maxHeartbeats 2000000 in
theorem held_nil (L : Nat → Int × BitVec 64) (w : World) :
    Calls Try.prog 20 #[.slice none 0 0] w fun e w' => e = .returned (.agg (C (heldS L 0))) ∧ Below w.heap.size w w' := by
  go_enter Try.func20, Try.ntmps20
  go_wp2_with (first
    | (go_at_call 16; refine (Reset_any _).mono ?_; rintro e w' ⟨rfl, l, rfl⟩)
    | refine alloc26 rfl rfl ?_
    | (refine store26 rfl _ _ rfl _ rfl _ rfl _ _ (hA (by simp [size_more])) rfl ?_; rw [setRow_new _ _ _ _ _ (by simp [size_more])]))
  generalize Value.agg (C resetR) = q0
  go_loopw [4] (fun iv wr => iv = .int .i64 0 ∧ Below w.heap.size w wr ∧ wr.heap[w.heap.size]? = some (.cells (C zeroR) 26 (0, 0)) ∧ wr.heap[w.heap.size + 1 + l.length]? = some (.cells (C (heldS L 0)) 26 (0, 0))) (fun iv _ => 0)
  case atStart =>
    refine ⟨rfl, ?_, ?_, ?_⟩
    · exact ((((Below.refl _ _).alloc (Nat.le_refl _) _).trans ((below_more _ _).mono (by simp))).alloc (by simp [size_more]; omega) _)
    · exact hP (hM (hA rfl))
    · rw [heldS_zero]; exact hA (by simp [size_more])
  case round =>
    obtain ⟨rfl, hbel, h2, h3⟩ := hrel
    go_wp2_with (first
      | (refine load26 rfl _ rfl _ rfl _ _ h3 ?_)
      | (refine store26 rfl _ _ rfl _ rfl _ rfl _ _ h2 rfl ?_))
    (try simp only [Exit.inBlock, Exit.then])
    exact ret26 rfl _ rfl _ _ (setRow_heap _ _ _ _ _ _ h2) rfl ⟨rfl, below_setRow hbel (Nat.le_refl _) _⟩

theorem held_any (s : Value) (n : Nat) (L : Nat → Int × BitVec 64) (w : World) (h : LaysAt w s n L) :
    Calls Try.prog 20 #[s] w fun e w' => e = .returned (.agg (C (heldS L n))) ∧ Below w.heap.size w w' := by
  rcases h with ⟨rfl, rfl⟩ | ⟨a, cap, rfl, hn, hc, hb, hL⟩
  · exact held_nil L w
  · exact held_walk a n cap L w hn hc hb hL
theorem LaysAt.below {w w' : World} {s : Value} {n : Nat} {L : Nat → Int × BitVec 64} (h : LaysAt w s n L) (b : Below w.heap.size w w') : LaysAt w' s n L := by
  rcases h with h | ⟨a, cap, h1, hn, hc, hb, hL⟩
  · exact .inl h
  · refine .inr ⟨a, cap, h1, hn, hc, fun z => Nat.lt_of_lt_of_le (hb z) b.size, fun i hi => ?_⟩
    have hb := hb (Nat.lt_of_le_of_lt (Nat.zero_le _) hi)
    rw [b.cell (p := a.add (i * 2)) (by rw [addr_block]; exact hb), b.cell (p := ⟨(a.add (i * 2)).block, (a.add (i * 2)).off + 1, none⟩) (show (a.add (i * 2)).block < w.heap.size by rw [addr_block]; exact hb)]
    exact hL i hi
end Go.Proofs.Ytgkajhpmgeofkaa
