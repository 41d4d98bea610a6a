/-
  The walks of csr.Reset and csr.Write. (Printed by gen_csrg.py.)
-/
import Derived.Test.YtgkajhpmgeofkaaCsrF
namespace Go.Proofs.Ytgkajhpmgeofkaa
set_option linter.unusedVariables false
open Go.RowKit

theorem ret26 {fn : Func} {p : Tmp} {R : Ending → World → Prop} {a : Act} {w : World} (h : fn.results = #[.cell p 26]) (g : Nat) (hp : a.tmps.getD p undef = .pointer (some ⟨g, 0, none⟩)) (r : Regs) (t : TypeId)
    (hg : w.heap[g]? = some (.cells (C r) t (0, 0))) (hd : a.defers = []) (hR : R (.returned (.agg (C r))) w) : bodyPost Try.prog fn R .ret a w :=
  bodyPost_ret (results_cell_row h _ _ g t (C r) (0, 0) _ hp hg Try.underlying26 rfl size26) hd hR

section
variable {ops : Array Oper} {rest : List Oper} {o : Oper} {a : Act} {w : World} {Q : Exit → Act → World → Prop}
/-- Into the registers' block, a block behind it, more behind that: the addresses, the settings. -/
theorem storeA (hgd : o.guard = none) (x y : Operand) (ho : o.op = .store 24 x y) (r s : Regs) (t : TypeId) (b : Obj) (l : List Obj)
    (hx : a.eval x = .pointer (some ⟨w.heap.size, 30, none⟩)) (hy : a.eval y = .agg (A8 s))
    (h : wpList Try.prog ops Q rest (a.put o.dst undef) (more ((w.alloc (.cells (C (withA r s)) t)).alloc b) l)) : wpList Try.prog ops Q (o :: rest) a (more ((w.alloc (.cells (C r) t)).alloc b) l) := by
  refine wpList_store_mid hgd 24 x y ho w.heap.size 30 (A8 s) hx hy (there_more l (there_past (there_new w r t 30 8 (by decide)) b)) size24 (A8_one s) ?_
  rw [setCells_more _ _ _ l _ (by simp <;> omega), setCells_past _ _ _ _ _ (by simp <;> omega), set_A8 w r s t _ rfl]
  exact h
theorem storeG (hgd : o.guard = none) (x y : Operand) (ho : o.op = .store 23 x y) (r s : Regs) (t : TypeId) (b : Obj) (l : List Obj)
    (hx : a.eval x = .pointer (some ⟨w.heap.size, 22, none⟩)) (hy : a.eval y = .agg (G s))
    (h : wpList Try.prog ops Q rest (a.put o.dst undef) (more ((w.alloc (.cells (C (withG r s)) t)).alloc b) l)) : wpList Try.prog ops Q (o :: rest) a (more ((w.alloc (.cells (C r) t)).alloc b) l) := by
  refine wpList_store_mid hgd 23 x y ho w.heap.size 22 (G s) hx hy (there_more l (there_past (there_new w r t 22 8 (by decide)) b)) size23 (G_one s) ?_
  rw [setCells_more _ _ _ l _ (by simp <;> omega), setCells_past _ _ _ _ _ (by simp <;> omega), set_G w r s t _ rfl]
  exact h
end
theorem heap_m1 (w : World) (a b : Obj) (l : List Obj) : (more ((w.alloc a).alloc b) l).heap[w.heap.size]? = some a := by
  rw [heap_more _ _ _ (by simp <;> omega), Below.heap_alloc _ _ _ (by simp <;> omega)]; exact heap_alloc_new _ _
theorem heap_m2 (w : World) (a b : Obj) (l : List Obj) : (more ((w.alloc a).alloc b) l).heap[w.heap.size + 1]? = some b := by
  rw [heap_more _ _ _ (by simp <;> omega)]; exact heap_alloc2_new _ _ _
theorem setRow_m2 (w : World) (a : Obj) (c c' : Array Value) (t : TypeId) (l : List Obj) : (more ((w.alloc a).alloc (.cells c t)) l).setRow (w.heap.size + 1) c' = more ((w.alloc a).alloc (.cells c' t)) l := by
  rw [setRow_more _ _ _ _ (by simp <;> omega), setRow_new _ _ _ _ _ (by simp <;> omega)]
theorem setRow_2 (w : World) (a : Obj) (c c' : Array Value) (t : TypeId) : ((w.alloc a).alloc (.cells c t)).setRow (w.heap.size + 1) c' = (w.alloc a).alloc (.cells c' t) :=
  setRow_m2 w a c c' t []

def zeroR : Regs := ⟨0#64, 0#64, 0#64, 0#64, 0#64, 0#64, 0#64, 0#64, 0#64, 0#64, 0#64, 0#64, 0#64, 0#64, 0#64, 0#64, 0#64, 0#64, 0#64, 0#64, 0#64, 0#64, 0#8, 0#8, 0#8, 0#8, 0#8, 0#8, 0#8, 0#8, 0#64, 0#64, 0#64, 0#64, 0#64, 0#64, 0#64, 0#64⟩
theorem zero26 : (Try.prog.info? 26).map (fun i => (i.zero, i.size)) = some (some (.agg (C zeroR)), 38) := by kernel_rfl
section
variable {ops : Array Oper} {rest : List Oper} {o : Oper} {a : Act} {w : World} {Q : Exit → Act → World → Prop}
theorem alloc26 (hw : Region.wanted o (yielded ops a.tmps) = true) (ho : o.op = .alloc 26)
    (h : wpList Try.prog ops Q rest (a.put o.dst (.pointer (some ⟨w.heap.size, 0, none⟩))) (w.alloc (.cells (C zeroR) 26))) : wpList Try.prog ops Q (o :: rest) a w :=
  BigFrame.wpList_want hw fun _ hK => by
    unfold Oper.wp execOp
    simp only [ho, Instr.alloc, newVar, Sem.run_bind, Sem.run_pure, Result.andThen_ok, (zero_of_info zero26).1, Value.cells]
    exact hK _ _ h
end

set_option maxRecDepth 100000 in
set_option maxHeartbeats 2000000 in
theorem Write_1 (r : Regs) (v : BitVec 64)  (w : World) : Calls Try.prog 18 #[.agg (C r), .int .i64 1, .int .u64 (U v)] w fun e w' => e = .returned (.agg (C ({ r with fcsr := layS r.fcsr v 31#64, mstatus := settledS (r.mstatus ||| 24576#64) }))) ∧ More w w' := by
  go_enter Try.func18, Try.ntmps18
  go_wp2_with (first | (go_at_call 28; refine (lay_any _ _ (31#64) _).mono ?_; rintro e w' ⟨rfl, rfl⟩) | (go_at_call 29; refine (settled_any _ _).mono ?_; rintro e w' ⟨rfl, rfl⟩) | refine alloc26 rfl rfl ?_ | (refine load26 rfl _ rfl _ rfl _ _ (heap_alloc2_old _ _ _) ?_) | (refine store26 rfl _ _ rfl _ rfl _ rfl _ _ (heap_alloc2_new _ _ _) rfl ?_; rw [setRow_2]))
  (try simp only [Exit.inBlock, Exit.then])
  exact ret26 rfl _ rfl _ _ (heap_alloc2_new _ _ _) rfl ⟨rfl, ((More.refl _).alloc _).alloc _⟩

set_option maxRecDepth 100000 in
set_option maxHeartbeats 2000000 in
theorem Write_2 (r : Regs) (v : BitVec 64)  (w : World) : Calls Try.prog 18 #[.agg (C r), .int .i64 2, .int .u64 (U v)] w fun e w' => e = .returned (.agg (C ({ r with fcsr := layS r.fcsr (v <<< 5) 224#64, mstatus := settledS (r.mstatus ||| 24576#64) }))) ∧ More w w' := by
  go_enter Try.func18, Try.ntmps18
  go_wp2_with (first | (go_at_call 28; refine (lay_any _ _ (224#64) _).mono ?_; rintro e w' ⟨rfl, rfl⟩) | (go_at_call 29; refine (settled_any _ _).mono ?_; rintro e w' ⟨rfl, rfl⟩) | refine alloc26 rfl rfl ?_ | (refine load26 rfl _ rfl _ rfl _ _ (heap_alloc2_old _ _ _) ?_) | (refine store26 rfl _ _ rfl _ rfl _ rfl _ _ (heap_alloc2_new _ _ _) rfl ?_; rw [setRow_2]))
  (try simp only [Exit.inBlock, Exit.then])
  exact ret26 rfl _ rfl _ _ (heap_alloc2_new _ _ _) rfl ⟨rfl, ((More.refl _).alloc _).alloc _⟩

set_option maxRecDepth 100000 in
set_option maxHeartbeats 2000000 in
theorem Write_3 (r : Regs) (v : BitVec 64)  (w : World) : Calls Try.prog 18 #[.agg (C r), .int .i64 3, .int .u64 (U v)] w fun e w' => e = .returned (.agg (C ({ r with fcsr := v &&& 255#64, mstatus := settledS (r.mstatus ||| 24576#64) }))) ∧ More w w' := by
  go_enter Try.func18, Try.ntmps18
  go_wp2_with (first | (go_at_call 28; refine (lay_any _ _ (0#64) _).mono ?_; rintro e w' ⟨rfl, rfl⟩) | (go_at_call 29; refine (settled_any _ _).mono ?_; rintro e w' ⟨rfl, rfl⟩) | refine alloc26 rfl rfl ?_ | (refine load26 rfl _ rfl _ rfl _ _ (heap_alloc2_old _ _ _) ?_) | (refine store26 rfl _ _ rfl _ rfl _ rfl _ _ (heap_alloc2_new _ _ _) rfl ?_; rw [setRow_2]))
  (try simp only [Exit.inBlock, Exit.then])
  exact ret26 rfl _ rfl _ _ (heap_alloc2_new _ _ _) rfl ⟨rfl, ((More.refl _).alloc _).alloc _⟩

set_option maxRecDepth 100000 in
set_option maxHeartbeats 2000000 in
theorem Write_256 (r : Regs) (v : BitVec 64)  (w : World) : Calls Try.prog 18 #[.agg (C r), .int .i64 256, .int .u64 (U v)] w fun e w' => e = .returned (.agg (C ({ r with mstatus := settledS (layS r.mstatus v 811298#64) }))) ∧ More w w' := by
  go_enter Try.func18, Try.ntmps18
  go_wp2_with (first | (go_at_call 28; refine (lay_any _ _ (811298#64) _).mono ?_; rintro e w' ⟨rfl, rfl⟩) | (go_at_call 29; refine (settled_any _ _).mono ?_; rintro e w' ⟨rfl, rfl⟩) | refine alloc26 rfl rfl ?_ | (refine load26 rfl _ rfl _ rfl _ _ (heap_alloc2_old _ _ _) ?_) | (refine store26 rfl _ _ rfl _ rfl _ rfl _ _ (heap_alloc2_new _ _ _) rfl ?_; rw [setRow_2]))
  (try simp only [Exit.inBlock, Exit.then])
  exact ret26 rfl _ rfl _ _ (heap_alloc2_new _ _ _) rfl ⟨rfl, ((More.refl _).alloc _).alloc _⟩

set_option maxRecDepth 100000 in
set_option maxHeartbeats 2000000 in
theorem Write_260 (r : Regs) (v : BitVec 64)  (w : World) : Calls Try.prog 18 #[.agg (C r), .int .i64 260, .int .u64 (U v)] w fun e w' => e = .returned (.agg (C ({ r with mie := layS r.mie v r.mideleg }))) ∧ More w w' := by
  go_enter Try.func18, Try.ntmps18
  go_wp2_with (first | (go_at_call 28; refine (lay_any _ _ (r.mideleg) _).mono ?_; rintro e w' ⟨rfl, rfl⟩) | (go_at_call 29; refine (settled_any _ _).mono ?_; rintro e w' ⟨rfl, rfl⟩) | refine alloc26 rfl rfl ?_ | (refine load26 rfl _ rfl _ rfl _ _ (heap_alloc2_old _ _ _) ?_) | (refine store26 rfl _ _ rfl _ rfl _ rfl _ _ (heap_alloc2_new _ _ _) rfl ?_; rw [setRow_2]))
  (try simp only [Exit.inBlock, Exit.then])
  exact ret26 rfl _ rfl _ _ (heap_alloc2_new _ _ _) rfl ⟨rfl, ((More.refl _).alloc _).alloc _⟩

set_option maxRecDepth 100000 in
set_option maxHeartbeats 2000000 in
theorem Write_261 (r : Regs) (v : BitVec 64)  (w : World) : Calls Try.prog 18 #[.agg (C r), .int .i64 261, .int .u64 (U v)] w fun e w' => e = .returned (.agg (C ({ r with stvec := v &&& 18446744073709551613#64 }))) ∧ More w w' := by
  go_enter Try.func18, Try.ntmps18
  go_wp2_with (first | (go_at_call 25; refine (place_261 _ _).mono ?_; rintro e w' ⟨rfl, rfl⟩) | refine alloc26 rfl rfl ?_ | (refine load26 rfl _ rfl _ rfl _ _ (heap_alloc2_old _ _ _) ?_) | (refine store26 rfl _ _ rfl _ rfl _ rfl _ _ (heap_alloc2_new _ _ _) rfl ?_; rw [setRow_2]))
  (try simp only [Exit.inBlock, Exit.then])
  exact ret26 rfl _ rfl _ _ (heap_alloc2_new _ _ _) rfl ⟨rfl, ((More.refl _).alloc _).alloc _⟩

set_option maxRecDepth 100000 in
set_option maxHeartbeats 2000000 in
theorem Write_262 (r : Regs) (v : BitVec 64)  (w : World) : Calls Try.prog 18 #[.agg (C r), .int .i64 262, .int .u64 (U v)] w fun e w' => e = .returned (.agg (C ({ r with scounteren := v &&& 7#64 }))) ∧ More w w' := by
  go_enter Try.func18, Try.ntmps18
  go_wp2_with (first | (go_at_call 25; refine (place_262 _ _).mono ?_; rintro e w' ⟨rfl, rfl⟩) | refine alloc26 rfl rfl ?_ | (refine load26 rfl _ rfl _ rfl _ _ (heap_alloc2_old _ _ _) ?_) | (refine store26 rfl _ _ rfl _ rfl _ rfl _ _ (heap_alloc2_new _ _ _) rfl ?_; rw [setRow_2]))
  (try simp only [Exit.inBlock, Exit.then])
  exact ret26 rfl _ rfl _ _ (heap_alloc2_new _ _ _) rfl ⟨rfl, ((More.refl _).alloc _).alloc _⟩

set_option maxRecDepth 100000 in
set_option maxHeartbeats 2000000 in
theorem Write_320 (r : Regs) (v : BitVec 64)  (w : World) : Calls Try.prog 18 #[.agg (C r), .int .i64 320, .int .u64 (U v)] w fun e w' => e = .returned (.agg (C ({ r with sscratch := v }))) ∧ More w w' := by
  go_enter Try.func18, Try.ntmps18
  go_wp2_with (first | (go_at_call 25; refine (place_320 _ _).mono ?_; rintro e w' ⟨rfl, rfl⟩) | refine alloc26 rfl rfl ?_ | (refine load26 rfl _ rfl _ rfl _ _ (heap_alloc2_old _ _ _) ?_) | (refine store26 rfl _ _ rfl _ rfl _ rfl _ _ (heap_alloc2_new _ _ _) rfl ?_; rw [setRow_2]))
  (try simp only [Exit.inBlock, Exit.then])
  exact ret26 rfl _ rfl _ _ (heap_alloc2_new _ _ _) rfl ⟨rfl, ((More.refl _).alloc _).alloc _⟩

set_option maxRecDepth 100000 in
set_option maxHeartbeats 2000000 in
theorem Write_321 (r : Regs) (v : BitVec 64)  (w : World) : Calls Try.prog 18 #[.agg (C r), .int .i64 321, .int .u64 (U v)] w fun e w' => e = .returned (.agg (C ({ r with sepc := v &&& 18446744073709551614#64 }))) ∧ More w w' := by
  go_enter Try.func18, Try.ntmps18
  go_wp2_with (first | (go_at_call 25; refine (place_321 _ _).mono ?_; rintro e w' ⟨rfl, rfl⟩) | refine alloc26 rfl rfl ?_ | (refine load26 rfl _ rfl _ rfl _ _ (heap_alloc2_old _ _ _) ?_) | (refine store26 rfl _ _ rfl _ rfl _ rfl _ _ (heap_alloc2_new _ _ _) rfl ?_; rw [setRow_2]))
  (try simp only [Exit.inBlock, Exit.then])
  exact ret26 rfl _ rfl _ _ (heap_alloc2_new _ _ _) rfl ⟨rfl, ((More.refl _).alloc _).alloc _⟩

set_option maxRecDepth 100000 in
set_option maxHeartbeats 2000000 in
theorem Write_322 (r : Regs) (v : BitVec 64)  (w : World) : Calls Try.prog 18 #[.agg (C r), .int .i64 322, .int .u64 (U v)] w fun e w' => e = .returned (.agg (C ({ r with scause := v }))) ∧ More w w' := by
  go_enter Try.func18, Try.ntmps18
  go_wp2_with (first | (go_at_call 25; refine (place_322 _ _).mono ?_; rintro e w' ⟨rfl, rfl⟩) | refine alloc26 rfl rfl ?_ | (refine load26 rfl _ rfl _ rfl _ _ (heap_alloc2_old _ _ _) ?_) | (refine store26 rfl _ _ rfl _ rfl _ rfl _ _ (heap_alloc2_new _ _ _) rfl ?_; rw [setRow_2]))
  (try simp only [Exit.inBlock, Exit.then])
  exact ret26 rfl _ rfl _ _ (heap_alloc2_new _ _ _) rfl ⟨rfl, ((More.refl _).alloc _).alloc _⟩

set_option maxRecDepth 100000 in
set_option maxHeartbeats 2000000 in
theorem Write_323 (r : Regs) (v : BitVec 64)  (w : World) : Calls Try.prog 18 #[.agg (C r), .int .i64 323, .int .u64 (U v)] w fun e w' => e = .returned (.agg (C ({ r with stval := v }))) ∧ More w w' := by
  go_enter Try.func18, Try.ntmps18
  go_wp2_with (first | (go_at_call 25; refine (place_323 _ _).mono ?_; rintro e w' ⟨rfl, rfl⟩) | refine alloc26 rfl rfl ?_ | (refine load26 rfl _ rfl _ rfl _ _ (heap_alloc2_old _ _ _) ?_) | (refine store26 rfl _ _ rfl _ rfl _ rfl _ _ (heap_alloc2_new _ _ _) rfl ?_; rw [setRow_2]))
  (try simp only [Exit.inBlock, Exit.then])
  exact ret26 rfl _ rfl _ _ (heap_alloc2_new _ _ _) rfl ⟨rfl, ((More.refl _).alloc _).alloc _⟩

set_option maxRecDepth 100000 in
set_option maxHeartbeats 2000000 in
theorem Write_324 (r : Regs) (v : BitVec 64)  (w : World) : Calls Try.prog 18 #[.agg (C r), .int .i64 324, .int .u64 (U v)] w fun e w' => e = .returned (.agg (C ({ r with mip := layS r.mip v (r.mideleg &&& 2#64) }))) ∧ More w w' := by
  go_enter Try.func18, Try.ntmps18
  go_wp2_with (first | (go_at_call 28; refine (lay_any _ _ (r.mideleg &&& 2#64) _).mono ?_; rintro e w' ⟨rfl, rfl⟩) | (go_at_call 29; refine (settled_any _ _).mono ?_; rintro e w' ⟨rfl, rfl⟩) | refine alloc26 rfl rfl ?_ | (refine load26 rfl _ rfl _ rfl _ _ (heap_alloc2_old _ _ _) ?_) | (refine store26 rfl _ _ rfl _ rfl _ rfl _ _ (heap_alloc2_new _ _ _) rfl ?_; rw [setRow_2]))
  (try simp only [Exit.inBlock, Exit.then])
  exact ret26 rfl _ rfl _ _ (heap_alloc2_new _ _ _) rfl ⟨rfl, ((More.refl _).alloc _).alloc _⟩

set_option maxRecDepth 100000 in
set_option maxHeartbeats 2000000 in
theorem Write_384a (r : Regs) (v : BitVec 64) (h0 : (U (v >>> 60) != 0) = false) (w : World) : Calls Try.prog 18 #[.agg (C r), .int .i64 384, .int .u64 (U v)] w fun e w' => e = .returned (.agg (C ({ r with satp := v }))) ∧ More w w' := by
  go_enter Try.func18, Try.ntmps18
  go_wp2_with (first | (go_at_call 25; refine (place_384 _ _).mono ?_; rintro e w' ⟨rfl, rfl⟩) | refine alloc26 rfl rfl ?_ | (refine load26 rfl _ rfl _ rfl _ _ (heap_alloc2_old _ _ _) ?_) | (refine store26 rfl _ _ rfl _ rfl _ rfl _ _ (heap_alloc2_new _ _ _) rfl ?_; rw [setRow_2]))
  (try simp only [Exit.inBlock, Exit.then])
  exact ret26 rfl _ rfl _ _ (heap_alloc2_new _ _ _) rfl ⟨rfl, ((More.refl _).alloc _).alloc _⟩

set_option maxRecDepth 100000 in
set_option maxHeartbeats 2000000 in
theorem Write_384b (r : Regs) (v : BitVec 64) (h0 : (U (v >>> 60) != 0) = true) (h8 : (U (v >>> 60) != 8) = false) (w : World) : Calls Try.prog 18 #[.agg (C r), .int .i64 384, .int .u64 (U v)] w fun e w' => e = .returned (.agg (C ({ r with satp := v }))) ∧ More w w' := by
  go_enter Try.func18, Try.ntmps18
  go_wp2_with (first | (go_at_call 25; refine (place_384 _ _).mono ?_; rintro e w' ⟨rfl, rfl⟩) | refine alloc26 rfl rfl ?_ | (refine load26 rfl _ rfl _ rfl _ _ (heap_alloc2_old _ _ _) ?_) | (refine store26 rfl _ _ rfl _ rfl _ rfl _ _ (heap_alloc2_new _ _ _) rfl ?_; rw [setRow_2]))
  (try simp only [Exit.inBlock, Exit.then])
  exact ret26 rfl _ rfl _ _ (heap_alloc2_new _ _ _) rfl ⟨rfl, ((More.refl _).alloc _).alloc _⟩

set_option maxRecDepth 100000 in
set_option maxHeartbeats 2000000 in
theorem Write_384c (r : Regs) (v : BitVec 64) (h0 : (U (v >>> 60) != 0) = true) (h8 : (U (v >>> 60) != 8) = true) (w : World) : Calls Try.prog 18 #[.agg (C r), .int .i64 384, .int .u64 (U v)] w fun e w' => e = .returned (.agg (C (r))) ∧ More w w' := by
  go_enter Try.func18, Try.ntmps18
  go_wp2_with (first | (go_at_call 25; refine (place_384 _ _).mono ?_; rintro e w' ⟨rfl, rfl⟩) | refine alloc26 rfl rfl ?_ | (refine load26 rfl _ rfl _ rfl _ _ (heap_alloc2_old _ _ _) ?_) | (refine store26 rfl _ _ rfl _ rfl _ rfl _ _ (heap_alloc2_new _ _ _) rfl ?_; rw [setRow_2]))
  (try simp only [Exit.inBlock, Exit.then])
  exact ret26 rfl _ rfl _ _ (heap_alloc2_new _ _ _) rfl ⟨rfl, ((More.refl _).alloc _).alloc _⟩

set_option maxRecDepth 100000 in
set_option maxHeartbeats 2000000 in
theorem Write_768y (r : Regs) (v : BitVec 64) (h : (U (v >>> 11 &&& 3#64) == 2) = true) (w : World) : Calls Try.prog 18 #[.agg (C r), .int .i64 768, .int .u64 (U v)] w fun e w' => e = .returned (.agg (C ({ r with mstatus := settledS (layS r.mstatus v 8282538#64) }))) ∧ More w w' := by
  go_enter Try.func18, Try.ntmps18
  go_wp2_with (first | (go_at_call 28; refine (lay_any _ _ 8282538#64 _).mono ?_; rintro e w' ⟨rfl, rfl⟩) | (go_at_call 29; refine (settled_any _ _).mono ?_; rintro e w' ⟨rfl, rfl⟩) | refine alloc26 rfl rfl ?_ | (refine load26 rfl _ rfl _ rfl _ _ (heap_alloc2_old _ _ _) ?_) | (refine store26 rfl _ _ rfl _ rfl _ rfl _ _ (heap_alloc2_new _ _ _) rfl ?_; rw [setRow_2]))
  (try simp only [Exit.inBlock, Exit.then])
  exact ret26 rfl _ rfl _ _ (heap_alloc2_new _ _ _) rfl ⟨rfl, ((More.refl _).alloc _).alloc _⟩

set_option maxRecDepth 100000 in
set_option maxHeartbeats 2000000 in
theorem Write_768n (r : Regs) (v : BitVec 64) (h : (U (v >>> 11 &&& 3#64) == 2) = false) (w : World) : Calls Try.prog 18 #[.agg (C r), .int .i64 768, .int .u64 (U v)] w fun e w' => e = .returned (.agg (C ({ r with mstatus := settledS (layS r.mstatus v 8288682#64) }))) ∧ More w w' := by
  go_enter Try.func18, Try.ntmps18
  go_wp2_with (first | (go_at_call 28; refine (lay_any _ _ 8288682#64 _).mono ?_; rintro e w' ⟨rfl, rfl⟩) | (go_at_call 29; refine (settled_any _ _).mono ?_; rintro e w' ⟨rfl, rfl⟩) | refine alloc26 rfl rfl ?_ | (refine load26 rfl _ rfl _ rfl _ _ (heap_alloc2_old _ _ _) ?_) | (refine store26 rfl _ _ rfl _ rfl _ rfl _ _ (heap_alloc2_new _ _ _) rfl ?_; rw [setRow_2]))
  (try simp only [Exit.inBlock, Exit.then])
  exact ret26 rfl _ rfl _ _ (heap_alloc2_new _ _ _) rfl ⟨rfl, ((More.refl _).alloc _).alloc _⟩

set_option maxRecDepth 100000 in
set_option maxHeartbeats 2000000 in
theorem Write_770 (r : Regs) (v : BitVec 64)  (w : World) : Calls Try.prog 18 #[.agg (C r), .int .i64 770, .int .u64 (U v)] w fun e w' => e = .returned (.agg (C ({ r with medeleg := v &&& 46078#64 }))) ∧ More w w' := by
  go_enter Try.func18, Try.ntmps18
  go_wp2_with (first | (go_at_call 25; refine (place_770 _ _).mono ?_; rintro e w' ⟨rfl, rfl⟩) | refine alloc26 rfl rfl ?_ | (refine load26 rfl _ rfl _ rfl _ _ (heap_alloc2_old _ _ _) ?_) | (refine store26 rfl _ _ rfl _ rfl _ rfl _ _ (heap_alloc2_new _ _ _) rfl ?_; rw [setRow_2]))
  (try simp only [Exit.inBlock, Exit.then])
  exact ret26 rfl _ rfl _ _ (heap_alloc2_new _ _ _) rfl ⟨rfl, ((More.refl _).alloc _).alloc _⟩

set_option maxRecDepth 100000 in
set_option maxHeartbeats 2000000 in
theorem Write_771 (r : Regs) (v : BitVec 64)  (w : World) : Calls Try.prog 18 #[.agg (C r), .int .i64 771, .int .u64 (U v)] w fun e w' => e = .returned (.agg (C ({ r with mideleg := v &&& 546#64 }))) ∧ More w w' := by
  go_enter Try.func18, Try.ntmps18
  go_wp2_with (first | (go_at_call 25; refine (place_771 _ _).mono ?_; rintro e w' ⟨rfl, rfl⟩) | refine alloc26 rfl rfl ?_ | (refine load26 rfl _ rfl _ rfl _ _ (heap_alloc2_old _ _ _) ?_) | (refine store26 rfl _ _ rfl _ rfl _ rfl _ _ (heap_alloc2_new _ _ _) rfl ?_; rw [setRow_2]))
  (try simp only [Exit.inBlock, Exit.then])
  exact ret26 rfl _ rfl _ _ (heap_alloc2_new _ _ _) rfl ⟨rfl, ((More.refl _).alloc _).alloc _⟩

set_option maxRecDepth 100000 in
set_option maxHeartbeats 2000000 in
theorem Write_772 (r : Regs) (v : BitVec 64)  (w : World) : Calls Try.prog 18 #[.agg (C r), .int .i64 772, .int .u64 (U v)] w fun e w' => e = .returned (.agg (C ({ r with mie := v &&& 2730#64 }))) ∧ More w w' := by
  go_enter Try.func18, Try.ntmps18
  go_wp2_with (first | (go_at_call 25; refine (place_772 _ _).mono ?_; rintro e w' ⟨rfl, rfl⟩) | refine alloc26 rfl rfl ?_ | (refine load26 rfl _ rfl _ rfl _ _ (heap_alloc2_old _ _ _) ?_) | (refine store26 rfl _ _ rfl _ rfl _ rfl _ _ (heap_alloc2_new _ _ _) rfl ?_; rw [setRow_2]))
  (try simp only [Exit.inBlock, Exit.then])
  exact ret26 rfl _ rfl _ _ (heap_alloc2_new _ _ _) rfl ⟨rfl, ((More.refl _).alloc _).alloc _⟩

set_option maxRecDepth 100000 in
set_option maxHeartbeats 2000000 in
theorem Write_773 (r : Regs) (v : BitVec 64)  (w : World) : Calls Try.prog 18 #[.agg (C r), .int .i64 773, .int .u64 (U v)] w fun e w' => e = .returned (.agg (C ({ r with mtvec := v &&& 18446744073709551613#64 }))) ∧ More w w' := by
  go_enter Try.func18, Try.ntmps18
  go_wp2_with (first | (go_at_call 25; refine (place_773 _ _).mono ?_; rintro e w' ⟨rfl, rfl⟩) | refine alloc26 rfl rfl ?_ | (refine load26 rfl _ rfl _ rfl _ _ (heap_alloc2_old _ _ _) ?_) | (refine store26 rfl _ _ rfl _ rfl _ rfl _ _ (heap_alloc2_new _ _ _) rfl ?_; rw [setRow_2]))
  (try simp only [Exit.inBlock, Exit.then])
  exact ret26 rfl _ rfl _ _ (heap_alloc2_new _ _ _) rfl ⟨rfl, ((More.refl _).alloc _).alloc _⟩

set_option maxRecDepth 100000 in
set_option maxHeartbeats 2000000 in
theorem Write_774 (r : Regs) (v : BitVec 64)  (w : World) : Calls Try.prog 18 #[.agg (C r), .int .i64 774, .int .u64 (U v)] w fun e w' => e = .returned (.agg (C ({ r with mcounteren := v &&& 7#64 }))) ∧ More w w' := by
  go_enter Try.func18, Try.ntmps18
  go_wp2_with (first | (go_at_call 25; refine (place_774 _ _).mono ?_; rintro e w' ⟨rfl, rfl⟩) | refine alloc26 rfl rfl ?_ | (refine load26 rfl _ rfl _ rfl _ _ (heap_alloc2_old _ _ _) ?_) | (refine store26 rfl _ _ rfl _ rfl _ rfl _ _ (heap_alloc2_new _ _ _) rfl ?_; rw [setRow_2]))
  (try simp only [Exit.inBlock, Exit.then])
  exact ret26 rfl _ rfl _ _ (heap_alloc2_new _ _ _) rfl ⟨rfl, ((More.refl _).alloc _).alloc _⟩

set_option maxRecDepth 100000 in
set_option maxHeartbeats 2000000 in
theorem Write_800 (r : Regs) (v : BitVec 64)  (w : World) : Calls Try.prog 18 #[.agg (C r), .int .i64 800, .int .u64 (U v)] w fun e w' => e = .returned (.agg (C ({ r with mcountinhibit := v &&& 5#64 }))) ∧ More w w' := by
  go_enter Try.func18, Try.ntmps18
  go_wp2_with (first | (go_at_call 25; refine (place_800 _ _).mono ?_; rintro e w' ⟨rfl, rfl⟩) | refine alloc26 rfl rfl ?_ | (refine load26 rfl _ rfl _ rfl _ _ (heap_alloc2_old _ _ _) ?_) | (refine store26 rfl _ _ rfl _ rfl _ rfl _ _ (heap_alloc2_new _ _ _) rfl ?_; rw [setRow_2]))
  (try simp only [Exit.inBlock, Exit.then])
  exact ret26 rfl _ rfl _ _ (heap_alloc2_new _ _ _) rfl ⟨rfl, ((More.refl _).alloc _).alloc _⟩

set_option maxRecDepth 100000 in
set_option maxHeartbeats 2000000 in
theorem Write_832 (r : Regs) (v : BitVec 64)  (w : World) : Calls Try.prog 18 #[.agg (C r), .int .i64 832, .int .u64 (U v)] w fun e w' => e = .returned (.agg (C ({ r with mscratch := v }))) ∧ More w w' := by
  go_enter Try.func18, Try.ntmps18
  go_wp2_with (first | (go_at_call 25; refine (place_832 _ _).mono ?_; rintro e w' ⟨rfl, rfl⟩) | refine alloc26 rfl rfl ?_ | (refine load26 rfl _ rfl _ rfl _ _ (heap_alloc2_old _ _ _) ?_) | (refine store26 rfl _ _ rfl _ rfl _ rfl _ _ (heap_alloc2_new _ _ _) rfl ?_; rw [setRow_2]))
  (try simp only [Exit.inBlock, Exit.then])
  exact ret26 rfl _ rfl _ _ (heap_alloc2_new _ _ _) rfl ⟨rfl, ((More.refl _).alloc _).alloc _⟩

set_option maxRecDepth 100000 in
set_option maxHeartbeats 2000000 in
theorem Write_833 (r : Regs) (v : BitVec 64)  (w : World) : Calls Try.prog 18 #[.agg (C r), .int .i64 833, .int .u64 (U v)] w fun e w' => e = .returned (.agg (C ({ r with mepc := v &&& 18446744073709551614#64 }))) ∧ More w w' := by
  go_enter Try.func18, Try.ntmps18
  go_wp2_with (first | (go_at_call 25; refine (place_833 _ _).mono ?_; rintro e w' ⟨rfl, rfl⟩) | refine alloc26 rfl rfl ?_ | (refine load26 rfl _ rfl _ rfl _ _ (heap_alloc2_old _ _ _) ?_) | (refine store26 rfl _ _ rfl _ rfl _ rfl _ _ (heap_alloc2_new _ _ _) rfl ?_; rw [setRow_2]))
  (try simp only [Exit.inBlock, Exit.then])
  exact ret26 rfl _ rfl _ _ (heap_alloc2_new _ _ _) rfl ⟨rfl, ((More.refl _).alloc _).alloc _⟩

set_option maxRecDepth 100000 in
set_option maxHeartbeats 2000000 in
theorem Write_834 (r : Regs) (v : BitVec 64)  (w : World) : Calls Try.prog 18 #[.agg (C r), .int .i64 834, .int .u64 (U v)] w fun e w' => e = .returned (.agg (C ({ r with mcause := v }))) ∧ More w w' := by
  go_enter Try.func18, Try.ntmps18
  go_wp2_with (first | (go_at_call 25; refine (place_834 _ _).mono ?_; rintro e w' ⟨rfl, rfl⟩) | refine alloc26 rfl rfl ?_ | (refine load26 rfl _ rfl _ rfl _ _ (heap_alloc2_old _ _ _) ?_) | (refine store26 rfl _ _ rfl _ rfl _ rfl _ _ (heap_alloc2_new _ _ _) rfl ?_; rw [setRow_2]))
  (try simp only [Exit.inBlock, Exit.then])
  exact ret26 rfl _ rfl _ _ (heap_alloc2_new _ _ _) rfl ⟨rfl, ((More.refl _).alloc _).alloc _⟩

set_option maxRecDepth 100000 in
set_option maxHeartbeats 2000000 in
theorem Write_835 (r : Regs) (v : BitVec 64)  (w : World) : Calls Try.prog 18 #[.agg (C r), .int .i64 835, .int .u64 (U v)] w fun e w' => e = .returned (.agg (C ({ r with mtval := v }))) ∧ More w w' := by
  go_enter Try.func18, Try.ntmps18
  go_wp2_with (first | (go_at_call 25; refine (place_835 _ _).mono ?_; rintro e w' ⟨rfl, rfl⟩) | refine alloc26 rfl rfl ?_ | (refine load26 rfl _ rfl _ rfl _ _ (heap_alloc2_old _ _ _) ?_) | (refine store26 rfl _ _ rfl _ rfl _ rfl _ _ (heap_alloc2_new _ _ _) rfl ?_; rw [setRow_2]))
  (try simp only [Exit.inBlock, Exit.then])
  exact ret26 rfl _ rfl _ _ (heap_alloc2_new _ _ _) rfl ⟨rfl, ((More.refl _).alloc _).alloc _⟩

set_option maxRecDepth 100000 in
set_option maxHeartbeats 2000000 in
theorem Write_836 (r : Regs) (v : BitVec 64)  (w : World) : Calls Try.prog 18 #[.agg (C r), .int .i64 836, .int .u64 (U v)] w fun e w' => e = .returned (.agg (C ({ r with mip := layS r.mip v 546#64 }))) ∧ More w w' := by
  go_enter Try.func18, Try.ntmps18
  go_wp2_with (first | (go_at_call 28; refine (lay_any _ _ (546#64) _).mono ?_; rintro e w' ⟨rfl, rfl⟩) | (go_at_call 29; refine (settled_any _ _).mono ?_; rintro e w' ⟨rfl, rfl⟩) | refine alloc26 rfl rfl ?_ | (refine load26 rfl _ rfl _ rfl _ _ (heap_alloc2_old _ _ _) ?_) | (refine store26 rfl _ _ rfl _ rfl _ rfl _ _ (heap_alloc2_new _ _ _) rfl ?_; rw [setRow_2]))
  (try simp only [Exit.inBlock, Exit.then])
  exact ret26 rfl _ rfl _ _ (heap_alloc2_new _ _ _) rfl ⟨rfl, ((More.refl _).alloc _).alloc _⟩

theorem withG_w (r : Regs) (v : BitVec 64) : withG r (cfgW r v) = cfgW r v := rfl
set_option maxRecDepth 100000 in
set_option maxHeartbeats 2000000 in
theorem Write_928 (r : Regs) (v : BitVec 64)  (w : World) : Calls Try.prog 18 #[.agg (C r), .int .i64 928, .int .u64 (U v)] w fun e w' => e = .returned (.agg (C (withG r (cfgW r v)))) ∧ More w w' := by
  go_enter Try.func18, Try.ntmps18
  go_wp2_with (first | (go_at_call 30; refine (Config_any r v _).mono ?_; rintro e w' ⟨rfl, l, rfl⟩) | (refine storeG rfl _ _ rfl _ _ _ _ _ rfl rfl ?_) | refine alloc26 rfl rfl ?_ | (refine load26 rfl _ rfl _ rfl _ _ (heap_m1 _ _ _ _) ?_) | (refine store26 rfl _ _ rfl _ rfl _ rfl _ _ (heap_m2 _ _ _ _) rfl ?_; rw [setRow_m2]))
  (try simp only [Exit.inBlock, Exit.then])
  exact ret26 rfl _ rfl _ _ (heap_m2 _ _ _ _) rfl ⟨rfl, (((More.refl _).alloc _).alloc _).more _⟩

theorem withA_0 (r : Regs) (v : BitVec 64) : withA r (adrW0 r v) = adrW0 r v := by unfold adrW0; split <;> rfl
set_option maxRecDepth 100000 in
set_option maxHeartbeats 2000000 in
theorem Write_944 (r : Regs) (v : BitVec 64)  (w : World) : Calls Try.prog 18 #[.agg (C r), .int .i64 944, .int .u64 (U v)] w fun e w' => e = .returned (.agg (C (withA r (adrW0 r v)))) ∧ More w w' := by
  go_enter Try.func18, Try.ntmps18
  go_wp2_with (first | (go_at_call 27; refine (Address_0 r v _).mono ?_; rintro e w' ⟨rfl, l, rfl⟩) | (refine storeA rfl _ _ rfl _ _ _ _ _ rfl rfl ?_) | refine alloc26 rfl rfl ?_ | (refine load26 rfl _ rfl _ rfl _ _ (heap_m1 _ _ _ _) ?_) | (refine store26 rfl _ _ rfl _ rfl _ rfl _ _ (heap_m2 _ _ _ _) rfl ?_; rw [setRow_m2]))
  (try simp only [Exit.inBlock, Exit.then])
  exact ret26 rfl _ rfl _ _ (heap_m2 _ _ _ _) rfl ⟨rfl, (((More.refl _).alloc _).alloc _).more _⟩

theorem withA_1 (r : Regs) (v : BitVec 64) : withA r (adrW1 r v) = adrW1 r v := by unfold adrW1; split <;> rfl
set_option maxRecDepth 100000 in
set_option maxHeartbeats 2000000 in
theorem Write_945 (r : Regs) (v : BitVec 64)  (w : World) : Calls Try.prog 18 #[.agg (C r), .int .i64 945, .int .u64 (U v)] w fun e w' => e = .returned (.agg (C (withA r (adrW1 r v)))) ∧ More w w' := by
  go_enter Try.func18, Try.ntmps18
  go_wp2_with (first | (go_at_call 27; refine (Address_1 r v _).mono ?_; rintro e w' ⟨rfl, l, rfl⟩) | (refine storeA rfl _ _ rfl _ _ _ _ _ rfl rfl ?_) | refine alloc26 rfl rfl ?_ | (refine load26 rfl _ rfl _ rfl _ _ (heap_m1 _ _ _ _) ?_) | (refine store26 rfl _ _ rfl _ rfl _ rfl _ _ (heap_m2 _ _ _ _) rfl ?_; rw [setRow_m2]))
  (try simp only [Exit.inBlock, Exit.then])
  exact ret26 rfl _ rfl _ _ (heap_m2 _ _ _ _) rfl ⟨rfl, (((More.refl _).alloc _).alloc _).more _⟩

theorem withA_2 (r : Regs) (v : BitVec 64) : withA r (adrW2 r v) = adrW2 r v := by unfold adrW2; split <;> rfl
set_option maxRecDepth 100000 in
set_option maxHeartbeats 2000000 in
theorem Write_946 (r : Regs) (v : BitVec 64)  (w : World) : Calls Try.prog 18 #[.agg (C r), .int .i64 946, .int .u64 (U v)] w fun e w' => e = .returned (.agg (C (withA r (adrW2 r v)))) ∧ More w w' := by
  go_enter Try.func18, Try.ntmps18
  go_wp2_with (first | (go_at_call 27; refine (Address_2 r v _).mono ?_; rintro e w' ⟨rfl, l, rfl⟩) | (refine storeA rfl _ _ rfl _ _ _ _ _ rfl rfl ?_) | refine alloc26 rfl rfl ?_ | (refine load26 rfl _ rfl _ rfl _ _ (heap_m1 _ _ _ _) ?_) | (refine store26 rfl _ _ rfl _ rfl _ rfl _ _ (heap_m2 _ _ _ _) rfl ?_; rw [setRow_m2]))
  (try simp only [Exit.inBlock, Exit.then])
  exact ret26 rfl _ rfl _ _ (heap_m2 _ _ _ _) rfl ⟨rfl, (((More.refl _).alloc _).alloc _).more _⟩

theorem withA_3 (r : Regs) (v : BitVec 64) : withA r (adrW3 r v) = adrW3 r v := by unfold adrW3; split <;> rfl
set_option maxRecDepth 100000 in
set_option maxHeartbeats 2000000 in
theorem Write_947 (r : Regs) (v : BitVec 64)  (w : World) : Calls Try.prog 18 #[.agg (C r), .int .i64 947, .int .u64 (U v)] w fun e w' => e = .returned (.agg (C (withA r (adrW3 r v)))) ∧ More w w' := by
  go_enter Try.func18, Try.ntmps18
  go_wp2_with (first | (go_at_call 27; refine (Address_3 r v _).mono ?_; rintro e w' ⟨rfl, l, rfl⟩) | (refine storeA rfl _ _ rfl _ _ _ _ _ rfl rfl ?_) | refine alloc26 rfl rfl ?_ | (refine load26 rfl _ rfl _ rfl _ _ (heap_m1 _ _ _ _) ?_) | (refine store26 rfl _ _ rfl _ rfl _ rfl _ _ (heap_m2 _ _ _ _) rfl ?_; rw [setRow_m2]))
  (try simp only [Exit.inBlock, Exit.then])
  exact ret26 rfl _ rfl _ _ (heap_m2 _ _ _ _) rfl ⟨rfl, (((More.refl _).alloc _).alloc _).more _⟩

theorem withA_4 (r : Regs) (v : BitVec 64) : withA r (adrW4 r v) = adrW4 r v := by unfold adrW4; split <;> rfl
set_option maxRecDepth 100000 in
set_option maxHeartbeats 2000000 in
theorem Write_948 (r : Regs) (v : BitVec 64)  (w : World) : Calls Try.prog 18 #[.agg (C r), .int .i64 948, .int .u64 (U v)] w fun e w' => e = .returned (.agg (C (withA r (adrW4 r v)))) ∧ More w w' := by
  go_enter Try.func18, Try.ntmps18
  go_wp2_with (first | (go_at_call 27; refine (Address_4 r v _).mono ?_; rintro e w' ⟨rfl, l, rfl⟩) | (refine storeA rfl _ _ rfl _ _ _ _ _ rfl rfl ?_) | refine alloc26 rfl rfl ?_ | (refine load26 rfl _ rfl _ rfl _ _ (heap_m1 _ _ _ _) ?_) | (refine store26 rfl _ _ rfl _ rfl _ rfl _ _ (heap_m2 _ _ _ _) rfl ?_; rw [setRow_m2]))
  (try simp only [Exit.inBlock, Exit.then])
  exact ret26 rfl _ rfl _ _ (heap_m2 _ _ _ _) rfl ⟨rfl, (((More.refl _).alloc _).alloc _).more _⟩

theorem withA_5 (r : Regs) (v : BitVec 64) : withA r (adrW5 r v) = adrW5 r v := by unfold adrW5; split <;> rfl
set_option maxRecDepth 100000 in
set_option maxHeartbeats 2000000 in
theorem Write_949 (r : Regs) (v : BitVec 64)  (w : World) : Calls Try.prog 18 #[.agg (C r), .int .i64 949, .int .u64 (U v)] w fun e w' => e = .returned (.agg (C (withA r (adrW5 r v)))) ∧ More w w' := by
  go_enter Try.func18, Try.ntmps18
  go_wp2_with (first | (go_at_call 27; refine (Address_5 r v _).mono ?_; rintro e w' ⟨rfl, l, rfl⟩) | (refine storeA rfl _ _ rfl _ _ _ _ _ rfl rfl ?_) | refine alloc26 rfl rfl ?_ | (refine load26 rfl _ rfl _ rfl _ _ (heap_m1 _ _ _ _) ?_) | (refine store26 rfl _ _ rfl _ rfl _ rfl _ _ (heap_m2 _ _ _ _) rfl ?_; rw [setRow_m2]))
  (try simp only [Exit.inBlock, Exit.then])
  exact ret26 rfl _ rfl _ _ (heap_m2 _ _ _ _) rfl ⟨rfl, (((More.refl _).alloc _).alloc _).more _⟩

theorem withA_6 (r : Regs) (v : BitVec 64) : withA r (adrW6 r v) = adrW6 r v := by unfold adrW6; split <;> rfl
set_option maxRecDepth 100000 in
set_option maxHeartbeats 2000000 in
theorem Write_950 (r : Regs) (v : BitVec 64)  (w : World) : Calls Try.prog 18 #[.agg (C r), .int .i64 950, .int .u64 (U v)] w fun e w' => e = .returned (.agg (C (withA r (adrW6 r v)))) ∧ More w w' := by
  go_enter Try.func18, Try.ntmps18
  go_wp2_with (first | (go_at_call 27; refine (Address_6 r v _).mono ?_; rintro e w' ⟨rfl, l, rfl⟩) | (refine storeA rfl _ _ rfl _ _ _ _ _ rfl rfl ?_) | refine alloc26 rfl rfl ?_ | (refine load26 rfl _ rfl _ rfl _ _ (heap_m1 _ _ _ _) ?_) | (refine store26 rfl _ _ rfl _ rfl _ rfl _ _ (heap_m2 _ _ _ _) rfl ?_; rw [setRow_m2]))
  (try simp only [Exit.inBlock, Exit.then])
  exact ret26 rfl _ rfl _ _ (heap_m2 _ _ _ _) rfl ⟨rfl, (((More.refl _).alloc _).alloc _).more _⟩

theorem withA_7 (r : Regs) (v : BitVec 64) : withA r (adrW7 r v) = adrW7 r v := by unfold adrW7; split <;> rfl
set_option maxRecDepth 100000 in
set_option maxHeartbeats 2000000 in
theorem Write_951 (r : Regs) (v : BitVec 64)  (w : World) : Calls Try.prog 18 #[.agg (C r), .int .i64 951, .int .u64 (U v)] w fun e w' => e = .returned (.agg (C (withA r (adrW7 r v)))) ∧ More w w' := by
  go_enter Try.func18, Try.ntmps18
  go_wp2_with (first | (go_at_call 27; refine (Address_7 r v _).mono ?_; rintro e w' ⟨rfl, l, rfl⟩) | (refine storeA rfl _ _ rfl _ _ _ _ _ rfl rfl ?_) | refine alloc26 rfl rfl ?_ | (refine load26 rfl _ rfl _ rfl _ _ (heap_m1 _ _ _ _) ?_) | (refine store26 rfl _ _ rfl _ rfl _ rfl _ _ (heap_m2 _ _ _ _) rfl ?_; rw [setRow_m2]))
  (try simp only [Exit.inBlock, Exit.then])
  exact ret26 rfl _ rfl _ _ (heap_m2 _ _ _ _) rfl ⟨rfl, (((More.refl _).alloc _).alloc _).more _⟩

set_option maxRecDepth 100000 in
set_option maxHeartbeats 2000000 in
theorem Write_2816 (r : Regs) (v : BitVec 64)  (w : World) : Calls Try.prog 18 #[.agg (C r), .int .i64 2816, .int .u64 (U v)] w fun e w' => e = .returned (.agg (C ({ r with mcycle := v }))) ∧ More w w' := by
  go_enter Try.func18, Try.ntmps18
  go_wp2_with (first | (go_at_call 25; refine (place_2816 _ _).mono ?_; rintro e w' ⟨rfl, rfl⟩) | refine alloc26 rfl rfl ?_ | (refine load26 rfl _ rfl _ rfl _ _ (heap_alloc2_old _ _ _) ?_) | (refine store26 rfl _ _ rfl _ rfl _ rfl _ _ (heap_alloc2_new _ _ _) rfl ?_; rw [setRow_2]))
  (try simp only [Exit.inBlock, Exit.then])
  exact ret26 rfl _ rfl _ _ (heap_alloc2_new _ _ _) rfl ⟨rfl, ((More.refl _).alloc _).alloc _⟩

set_option maxRecDepth 100000 in
set_option maxHeartbeats 2000000 in
theorem Write_2818 (r : Regs) (v : BitVec 64)  (w : World) : Calls Try.prog 18 #[.agg (C r), .int .i64 2818, .int .u64 (U v)] w fun e w' => e = .returned (.agg (C ({ r with minstret := v }))) ∧ More w w' := by
  go_enter Try.func18, Try.ntmps18
  go_wp2_with (first | (go_at_call 25; refine (place_2818 _ _).mono ?_; rintro e w' ⟨rfl, rfl⟩) | refine alloc26 rfl rfl ?_ | (refine load26 rfl _ rfl _ rfl _ _ (heap_alloc2_old _ _ _) ?_) | (refine store26 rfl _ _ rfl _ rfl _ rfl _ _ (heap_alloc2_new _ _ _) rfl ?_; rw [setRow_2]))
  (try simp only [Exit.inBlock, Exit.then])
  exact ret26 rfl _ rfl _ _ (heap_alloc2_new _ _ _) rfl ⟨rfl, ((More.refl _).alloc _).alloc _⟩

set_option maxRecDepth 100000 in
set_option maxHeartbeats 4000000 in
theorem Write_none (r : Regs) (n : Int) (v : BitVec 64) (n1 : (n == 1) = false) (n2 : (n == 2) = false) (n3 : (n == 3) = false) (n256 : (n == 256) = false) (n260 : (n == 260) = false) (n261 : (n == 261) = false) (n262 : (n == 262) = false) (n320 : (n == 320) = false) (n321 : (n == 321) = false) (n322 : (n == 322) = false) (n323 : (n == 323) = false) (n324 : (n == 324) = false) (n384 : (n == 384) = false) (n768 : (n == 768) = false) (n770 : (n == 770) = false) (n771 : (n == 771) = false) (n772 : (n == 772) = false) (n773 : (n == 773) = false) (n774 : (n == 774) = false) (n800 : (n == 800) = false) (n832 : (n == 832) = false) (n833 : (n == 833) = false) (n834 : (n == 834) = false) (n835 : (n == 835) = false) (n836 : (n == 836) = false) (n928 : (n == 928) = false) (n2816 : (n == 2816) = false) (n2818 : (n == 2818) = false) (h : ¬ (944 ≤ n ∧ n ≤ 951)) (w : World) : Calls Try.prog 18 #[.agg (C r), .int .i64 n, .int .u64 (U v)] w fun e w' => e = .returned (.agg (C r)) ∧ More w w' := by
  have c : Hid (∀ b w, Calls Try.prog 25 #[.pointer (some ⟨b, 0, none⟩), .int .i64 n] w fun e w' => e = .returned (.pointer none) ∧ w = w') := fun b w => place_none b n n261 n262 n320 n321 n322 n323 n384 n768 n770 n771 n772 n773 n774 n800 n832 n833 n834 n835 n2816 n2818 w
  go_enter Try.func18, Try.ntmps18
  go_wp2_with (first | (go_at_call 25; refine (c.out _ _).mono ?_; rintro e w' ⟨rfl, rfl⟩) | refine alloc26 rfl rfl ?_ | (refine load26 rfl _ rfl _ rfl _ _ (heap_alloc2_old _ _ _) ?_) | (refine store26 rfl _ _ rfl _ rfl _ rfl _ _ (heap_alloc2_new _ _ _) rfl ?_; rw [setRow_2]))
  all_goals
    (try simp only [Exit.inBlock, Exit.then])
    exact ret26 rfl _ rfl _ _ (heap_alloc2_new _ _ _) rfl ⟨rfl, ((More.refl _).alloc _).alloc _⟩

theorem Write_any (r : Regs) (n : Int) (v : BitVec 64) (w : World) : Calls Try.prog 18 #[.agg (C r), .int .i64 n, .int .u64 (U v)] w fun e w' => e = .returned (.agg (C (writeS r n v))) ∧ More w w' := by

  by_cases n1 : n = 1
  · subst n1; rw [writeS_1]; exact Write_1 r v w
  by_cases n2 : n = 2
  · subst n2; rw [writeS_2]; exact Write_2 r v w
  by_cases n3 : n = 3
  · subst n3; rw [writeS_3]; exact Write_3 r v w
  by_cases n256 : n = 256
  · subst n256; rw [writeS_256]; exact Write_256 r v w
  by_cases n260 : n = 260
  · subst n260; rw [writeS_260]; exact Write_260 r v w
  by_cases n261 : n = 261
  · subst n261; rw [writeS_261]; exact Write_261 r v w
  by_cases n262 : n = 262
  · subst n262; rw [writeS_262]; exact Write_262 r v w
  by_cases n320 : n = 320
  · subst n320; rw [writeS_320]; exact Write_320 r v w
  by_cases n321 : n = 321
  · subst n321; rw [writeS_321]; exact Write_321 r v w
  by_cases n322 : n = 322
  · subst n322; rw [writeS_322]; exact Write_322 r v w
  by_cases n323 : n = 323
  · subst n323; rw [writeS_323]; exact Write_323 r v w
  by_cases n324 : n = 324
  · subst n324; rw [writeS_324]; exact Write_324 r v w
  by_cases n384 : n = 384
  · subst n384; rw [writeS_384]
    have e0 : (U (v >>> 60) != 0) = (v >>> 60 != 0#64) := U_bne _ 0#64
    have e8 : (U (v >>> 60) != 8) = (v >>> 60 != 8#64) := U_bne _ 8#64
    by_cases h0 : v >>> 60 = 0#64
    · rw [if_pos (.inl h0)]; exact Write_384a r v (by rw [e0, h0]; rfl) w
    · by_cases h8 : v >>> 60 = 8#64
      · rw [if_pos (.inr h8)]; exact Write_384b r v (by rw [e0]; simpa using h0) (by rw [e8, h8]; rfl) w
      · rw [if_neg (by rintro (h | h); exact h0 h; exact h8 h)]; exact Write_384c r v (by rw [e0]; simpa using h0) (by rw [e8]; simpa using h8) w
  by_cases n768 : n = 768
  · subst n768; rw [writeS_768]
    have e : (U (v >>> 11 &&& 3#64) == 2) = (v >>> 11 &&& 3#64 == 2#64) := U_beq _ 2#64
    by_cases h : v >>> 11 &&& 3#64 = 2#64
    · rw [if_pos h]; exact Write_768y r v (by rw [e, h]; rfl) w
    · rw [if_neg h]; exact Write_768n r v (by rw [e]; simpa using h) w
  by_cases n770 : n = 770
  · subst n770; rw [writeS_770]; exact Write_770 r v w
  by_cases n771 : n = 771
  · subst n771; rw [writeS_771]; exact Write_771 r v w
  by_cases n772 : n = 772
  · subst n772; rw [writeS_772]; exact Write_772 r v w
  by_cases n773 : n = 773
  · subst n773; rw [writeS_773]; exact Write_773 r v w
  by_cases n774 : n = 774
  · subst n774; rw [writeS_774]; exact Write_774 r v w
  by_cases n800 : n = 800
  · subst n800; rw [writeS_800]; exact Write_800 r v w
  by_cases n832 : n = 832
  · subst n832; rw [writeS_832]; exact Write_832 r v w
  by_cases n833 : n = 833
  · subst n833; rw [writeS_833]; exact Write_833 r v w
  by_cases n834 : n = 834
  · subst n834; rw [writeS_834]; exact Write_834 r v w
  by_cases n835 : n = 835
  · subst n835; rw [writeS_835]; exact Write_835 r v w
  by_cases n836 : n = 836
  · subst n836; rw [writeS_836]; exact Write_836 r v w
  by_cases n928 : n = 928
  · subst n928; rw [writeS_928, ← withG_w]; exact Write_928 r v w
  by_cases n944 : n = 944
  · subst n944; rw [writeS_944, ← withA_0]; exact Write_944 r v w
  by_cases n945 : n = 945
  · subst n945; rw [writeS_945, ← withA_1]; exact Write_945 r v w
  by_cases n946 : n = 946
  · subst n946; rw [writeS_946, ← withA_2]; exact Write_946 r v w
  by_cases n947 : n = 947
  · subst n947; rw [writeS_947, ← withA_3]; exact Write_947 r v w
  by_cases n948 : n = 948
  · subst n948; rw [writeS_948, ← withA_4]; exact Write_948 r v w
  by_cases n949 : n = 949
  · subst n949; rw [writeS_949, ← withA_5]; exact Write_949 r v w
  by_cases n950 : n = 950
  · subst n950; rw [writeS_950, ← withA_6]; exact Write_950 r v w
  by_cases n951 : n = 951
  · subst n951; rw [writeS_951, ← withA_7]; exact Write_951 r v w
  by_cases n2816 : n = 2816
  · subst n2816; rw [writeS_2816]; exact Write_2816 r v w
  by_cases n2818 : n = 2818
  · subst n2818; rw [writeS_2818]; exact Write_2818 r v w
  rw [writeS_none r n v n1 n2 n3 n256 n260 n261 n262 n320 n321 n322 n323 n324 n384 n768 n770 n771 n772 n773 n774 n800 n832 n833 n834 n835 n836 n928 n944 n945 n946 n947 n948 n949 n950 n951 n2816 n2818]
  exact Write_none r n v (beq_eq_false_iff_ne.2 n1) (beq_eq_false_iff_ne.2 n2) (beq_eq_false_iff_ne.2 n3) (beq_eq_false_iff_ne.2 n256) (beq_eq_false_iff_ne.2 n260) (beq_eq_false_iff_ne.2 n261) (beq_eq_false_iff_ne.2 n262) (beq_eq_false_iff_ne.2 n320) (beq_eq_false_iff_ne.2 n321) (beq_eq_false_iff_ne.2 n322) (beq_eq_false_iff_ne.2 n323) (beq_eq_false_iff_ne.2 n324) (beq_eq_false_iff_ne.2 n384) (beq_eq_false_iff_ne.2 n768) (beq_eq_false_iff_ne.2 n770) (beq_eq_false_iff_ne.2 n771) (beq_eq_false_iff_ne.2 n772) (beq_eq_false_iff_ne.2 n773) (beq_eq_false_iff_ne.2 n774) (beq_eq_false_iff_ne.2 n800) (beq_eq_false_iff_ne.2 n832) (beq_eq_false_iff_ne.2 n833) (beq_eq_false_iff_ne.2 n834) (beq_eq_false_iff_ne.2 n835) (beq_eq_false_iff_ne.2 n836) (beq_eq_false_iff_ne.2 n928) (beq_eq_false_iff_ne.2 n2816) (beq_eq_false_iff_ne.2 n2818) (by omega) w

end Go.Proofs.Ytgkajhpmgeofkaa