/-
  Walks: the sort of at most one number; Flush.
-/
import Derived.Test.YtpflodhnniochaaCacheG
namespace Go.Proofs.Ytpflodhnniochaa
set_option linter.unusedVariables false
open Go.RowKit Go.Maps

set_option maxRecDepth 100000 in
set_option maxHeartbeats 4000000 in
theorem Len_0 (w : World) : Calls Try.prog 36 #[.int .u64 0] w fun e w' => (∃ m, e = .returned (.int .i64 m)) ∧ w' = w := by
  go_enter Try.func36, Try.ntmps36
  go_wp2
  go_ret
  exact ⟨⟨_, rfl⟩, rfl⟩
set_option maxRecDepth 100000 in
set_option maxHeartbeats 4000000 in
theorem Len_1 (w : World) : Calls Try.prog 36 #[.int .u64 1] w fun e w' => (∃ m, e = .returned (.int .i64 m)) ∧ w' = w := by
  go_enter Try.func36, Try.ntmps36
  go_wp2
  go_ret
  exact ⟨⟨_, rfl⟩, rfl⟩
set_option maxRecDepth 100000 in
set_option maxHeartbeats 4000000 in
theorem Ins_1 (w : World) (v : Value) : Calls Try.prog 37 #[v, .int .i64 0, .int .i64 1] w fun e w' => e = .returned (.tuple #[]) ∧ w' = w := by
  go_enter Try.func37, Try.ntmps37
  go_wp2
  refine wp_loop_rounds 1 ?_
  rw [rounds_succ]
  go_wp2
  go_end0
  exact ⟨rfl, rfl⟩
set_option maxRecDepth 100000 in
set_option maxHeartbeats 4000000 in
theorem Ins_0 (w : World) (v : Value) : Calls Try.prog 37 #[v, .int .i64 0, .int .i64 0] w fun e w' => e = .returned (.tuple #[]) ∧ w' = w := by
  go_enter Try.func37, Try.ntmps37
  go_wp2
  refine wp_loop_rounds 1 ?_
  rw [rounds_succ]
  go_wp2
  go_end0
  exact ⟨rfl, rfl⟩
set_option maxRecDepth 100000 in
set_option maxHeartbeats 4000000 in
theorem Pdq_0 (w : World) (v : Value) (m : Int) : Calls Try.prog 35 #[v, .int .i64 0, .int .i64 0, .int .i64 m] w fun e w' => e = .returned (.tuple #[]) ∧ w' = w := by
  go_enter Try.func35, Try.ntmps35
  go_wp2_with fail
  refine wp_loop_rounds 1 ?_
  rw [rounds_succ]
  go_wp2_with (go_at_call 37; refine (Ins_0 _ _).mono ?_; rintro e w' ⟨rfl, rfl⟩)
  (try simp only [Exit.inBlock, Exit.then])
  exact bodyPost_ret (results_none rfl _ _ _) rfl ⟨rfl, rfl⟩
set_option maxRecDepth 100000 in
set_option maxHeartbeats 4000000 in
theorem Pdq_1 (w : World) (v : Value) (m : Int) : Calls Try.prog 35 #[v, .int .i64 0, .int .i64 1, .int .i64 m] w fun e w' => e = .returned (.tuple #[]) ∧ w' = w := by
  go_enter Try.func35, Try.ntmps35
  go_wp2_with fail
  refine wp_loop_rounds 1 ?_
  rw [rounds_succ]
  go_wp2_with (go_at_call 37; refine (Ins_1 _ _).mono ?_; rintro e w' ⟨rfl, rfl⟩)
  (try simp only [Exit.inBlock, Exit.then])
  exact bodyPost_ret (results_none rfl _ _ _) rfl ⟨rfl, rfl⟩
theorem Sort_0 (w : World) : Calls Try.prog 31 #[.slice none 0 0] w fun e w' => e = .returned (.tuple #[]) ∧ w' = w := by
  go_enter Try.func31, Try.ntmps31
  go_wp2_with (first
    | (go_at_call 36; refine (Len_0 _).mono ?_; rintro e w' ⟨⟨m, rfl⟩, rfl⟩)
    | (go_at_call 35; refine (Pdq_0 _ _ _).mono ?_; rintro e w' ⟨rfl, rfl⟩))
  go_end0
  exact ⟨rfl, rfl⟩
theorem Sort_1 (w : World) (a : Addr) (cap : Nat) : Calls Try.prog 31 #[.slice (some a) 1 cap] w fun e w' => e = .returned (.tuple #[]) ∧ w' = w := by
  go_enter Try.func31, Try.ntmps31
  go_wp2_with (first
    | (go_at_call 36; refine (Len_1 _).mono ?_; rintro e w' ⟨⟨m, rfl⟩, rfl⟩)
    | (go_at_call 35; refine (Pdq_1 _ _ _).mono ?_; rintro e w' ⟨rfl, rfl⟩))
  go_end0
  exact ⟨rfl, rfl⟩

/-! Flush. -/
def uCells (l : List (BitVec 64)) : List Value := l.map fun x => .int .u64 (U x)
/-- The first addresses of the lines that are written, among the first k places. -/
def outS (s : St) : Nat → List (BitVec 64)
  | 0 => []
  | k + 1 => outS s k ++ (if (s.pl k).is = true ∧ (s.pl k).written = true then [(s.pl k).line <<< 6] else [])
def flushS (s : St) : St := { s with pl := fun _ => ⟨0#64, false, false⟩, wh := fun _ => none, sl := fun _ => ⟨0#64, false, false, 0⟩ }
theorem ok_flush {s : St} (h : Ok s) : Ok (flushS s) := ⟨h.sets, h.ways, h.ns, h.delay, fun L n e => by simp [flushS] at e, fun i hi e => by simp [flushS] at e⟩
theorem out_length (s : St) : ∀ k, (outS s k).length ≤ k
  | 0 => Nat.le_refl _
  | k + 1 => by
    have := out_length s k
    rw [outS, List.length_append]
    split <;> simp <;> omega
theorem clear_row {w : World} {t e ty T : TypeId} {z : Value} {k : Nat} (ht : Try.prog.underlying t = some (.slice e)) (hv : ∀ w, (zeroValue e).run Try.prog w = .ok z w) (hk : z.cells.size = k) (h1 : ∀ v ∈ z.cells.toList, v.oneCell' = true)
    {b n c : Nat} (hn : 0 < n) {cs : Array Value} (hg : w.heap[b]? = some (.cells cs T (0, 0))) (hcs : n * k ≤ cs.size) :
    (Builtin.clear_ #[t] ty #[.slice (some ⟨b, 0, none⟩) n c]).run Try.prog w = .ok (.tuple #[]) (w.setRow b ((Builtin.zeroCells z.cells n).toList ++ cs.toList.drop (n * k)).toArray) := by
  have hz : (Builtin.zeroCells z.cells n).toList.length = n * k := by rw [Array.length_toList, size_zeroCells, hk]
  have hall : ∀ v ∈ (Builtin.zeroCells z.cells n).toList, v.oneCell' = true := by
    intro v hv
    unfold Builtin.zeroCells at hv
    simp only [Array.toList_map, List.mem_map] at hv
    obtain ⟨i, hi, rfl⟩ := hv
    have hlt : i % z.cells.size < z.cells.size := by
      rcases Nat.eq_zero_or_pos z.cells.size with e | e
      · rw [e] at hi; simp at hi
      · exact Nat.mod_lt _ e
    rw [getElem!_pos z.cells _ hlt]
    exact h1 _ (by simp)
  have hst := run_storeCells_at (P := Try.prog) b 0 T (Builtin.zeroCells z.cells n).toList 0 cs w hg (by rw [hz]; omega) hall
  simp only [List.take_zero, List.nil_append, Nat.add_zero, Nat.zero_add, hz] at hst
  obtain ⟨m, rfl⟩ : ∃ m, n = m + 1 := ⟨n - 1, by omega⟩
  simp [Builtin.clear_, run_underlying ht, hv, hst, Result.andThen]
theorem wpList_clear {ops : Array Oper} {rest : List Oper} {o : Oper} {a : Act} {w w' : World} {Q : Exit → Act → World → Prop} (hgd : o.guard = none) (x : Operand) (t : TypeId)
    (ho : o.op = .call { callee := .builtin .clear, args := #[x], argTypes := #[t] }) (v : Value) (hx : a.eval x = v) (hr : ∀ ty, (Builtin.clear_ #[t] ty #[v]).run Try.prog w = .ok (.tuple #[]) w')
    (h : wpList Try.prog ops Q rest (a.put o.dst (.tuple #[])) w') : wpList Try.prog ops Q (o :: rest) a w :=
  wpList_plain hgd fun K hK => by
    unfold Oper.wp execOp
    simp only [ho, resolve, invoke, builtin, Sem.run_bind, Sem.run_pure, Result.andThen_ok, List.map_toArray, List.map_cons, List.map_nil, hx, hr]
    exact hK _ _ h
theorem run_setObj_map {w : World} {b : Nat} {es : Array MapEntry} {clock : Nat} (hb : w.heap[b]? = some (.map es clock)) (o' : Obj) : (setObj b o').run Try.prog w = .ok () (ChangeMaps.setBlock w b o') := by
  simp [setObj, Sem.run, hb, ChangeMaps.setBlock]
theorem size_setRow (w : World) (g : Nat) (cs : Array Value) : (w.setRow g cs).heap.size = w.heap.size := by simp [World.setRow]
theorem HasMap.clear {w : World} {b : Nat} {m : BitVec 64} {f : BitVec 64 → Option Nat} (h : HasMap w b m f) :
    ∃ w', (∀ ty, (Builtin.clear_ #[56] ty #[.map (some b)]).run Try.prog w = .ok (.tuple #[]) w') ∧ HasMap w' b m (fun _ => none) ∧ w.mapTurned w' b := by
  obtain ⟨D, ⟨es, clock, hb, F, _, _⟩, _⟩ := h
  refine ⟨ChangeMaps.setBlock w b (.map #[] clock), fun ty => ?_, ⟨.map [], tight (n := 0) ⟨#[], clock, ChangeMaps.heap_setBlock_same hb _, ⟨by simp, MapKept.stamped_empty clock, by simp⟩, Nat.le_refl _, rfl⟩, reads_none _⟩, ⟨es, clock, #[], clock, hb, rfl⟩⟩
  simp [Builtin.clear_, run_underlying Try.underlying56, MapKept.run_getObj_map hb, run_setObj_map hb, Result.andThen]

theorem cell_two (w : World) (p : Obj) (x : Value) (t : TypeId) : ∀ j u, [x][j]? = some u → ((w.alloc p).alloc (.cells #[x] t)).cell? ((⟨w.heap.size + 1, 0, none⟩ : Addr).add j) = some u := by
  have h := cell_one_new (w.alloc p) x t
  rw [World.size_alloc] at h
  exact h
theorem infoU : (Try.prog.info? 22).map (fun i => (i.zero, i.size, i.bytes)) = some (some (.int .u64 0), 1, 8) := by kernel_rfl
theorem zeroPl (w : World) : (zeroValue 69).run Try.prog w = .ok (.agg #[.int .u64 0, .bool false, .bool false]) w := by kernel_rfl
theorem zeroSl (w : World) : (zeroValue 72).run Try.prog w = .ok (.agg #[.int .u64 0, .bool false, .bool false, .int .i64 0]) w := by kernel_rfl
theorem setRow_ne {w : World} {b g : Nat} (cs : Array Value) (h : b ≠ g) : (w.setRow g cs).heap[b]? = w.heap[b]? := setRow_other w g b cs h

def zPd (n : Nat) (cs : Array Value) : Array Value := ((Builtin.zeroCells #[.int .u64 0, .bool false, .bool false] n).toList ++ cs.toList.drop (n * 3)).toArray
def zSd (n : Nat) (cs : Array Value) : Array Value := ((Builtin.zeroCells #[.int .u64 0, .bool false, .bool false, .int .i64 0] n).toList ++ cs.toList.drop (n * 4)).toArray
theorem zd_at (z : Array Value) (n k i j : Nat) (hz : z.size = k) (hi : i < n) (hj : j < k) (l : List Value) : (((Builtin.zeroCells z n).toList ++ l).toArray)[i * k + j]? = some z[j]! := by
  have h1 : i * k + j < n * k := by
    have := Nat.mul_le_mul_right k (show i + 1 ≤ n from hi)
    rw [Nat.add_mul] at this
    omega
  have h3 : (Builtin.zeroCells z n).toList.length = n * k := by rw [Array.length_toList, size_zeroCells, hz]
  have h4 := made_at z n k i j hz hi hj
  have h5 : Builtin.zeroCells z n = madeCells z (n * k) := by unfold Builtin.zeroCells madeCells; rw [hz]
  rw [List.getElem?_toArray, List.getElem?_append_left (by rw [h3]; exact h1), h5, Array.getElem?_toList, h4]
theorem zd_size (z : Array Value) (n k : Nat) (hz : z.size = k) (l : List Value) : n * k ≤ (((Builtin.zeroCells z n).toList ++ l).toArray).size := by
  rw [List.size_toArray, List.length_append, Array.length_toList, size_zeroCells, hz]
  omega
theorem row_zPd {w : World} {b n : Nat} {cs : Array Value} (h : w.heap[b]? = some (.cells (zPd n cs) 69 (0, 0))) : Row w b 69 3 n (plV fun _ => ⟨0#64, false, false⟩) := by
  refine ⟨_, h, zd_size _ n 3 rfl _, fun i j hi hj => ?_⟩
  unfold zPd
  rw [zd_at _ n 3 i j rfl hi hj]
  rcases (by omega : j = 0 ∨ j = 1 ∨ j = 2) with rfl | rfl | rfl <;> rfl
theorem row_zSd {w : World} {b n : Nat} {cs : Array Value} (h : w.heap[b]? = some (.cells (zSd n cs) 72 (0, 0))) : Row w b 72 4 n (slV fun _ => ⟨0#64, false, false, 0⟩) := by
  refine ⟨_, h, zd_size _ n 4 rfl _, fun i j hi hj => ?_⟩
  unfold zSd
  rw [zd_at _ n 4 i j rfl hi hj]
  rcases (by omega : j = 0 ∨ j = 1 ∨ j = 2 ∨ j = 3) with rfl | rfl | rfl | rfl <;> rfl
/-- All of the cache is cleared. -/
theorem flush_steps {w : World} {g : G} {s : St} (h : Held w g s) : ∃ w6 w7 w8 : World,
    (∀ ty, (Builtin.clear_ #[55] ty #[.slice (some ⟨g.a, 0, none⟩) s.n g.ka]).run Try.prog w = .ok (.tuple #[]) w6) ∧
    (∀ ty, (Builtin.clear_ #[56] ty #[.map (some g.m)]).run Try.prog w6 = .ok (.tuple #[]) w7) ∧
    (∀ ty, (Builtin.clear_ #[57] ty #[.slice (some ⟨g.s, 0, none⟩) s.ns g.ks]).run Try.prog w7 = .ok (.tuple #[]) w8) ∧
    w6.cell? ⟨g.c, 5, none⟩ = some (.map (some g.m)) ∧ w7.cell? ⟨g.c, 6, none⟩ = some (.slice (some ⟨g.s, 0, none⟩) s.ns g.ks) ∧ Held w8 g (flushS s) ∧ Kept g.own w w8 := by
  obtain ⟨cs, ha, has, _⟩ := h.a
  obtain ⟨ds, hs, hss, _⟩ := h.s
  have hn := h.ok.n_le
  have hns := h.ok.ns
  have r1 : ∀ ty, (Builtin.clear_ #[55] ty #[.slice (some ⟨g.a, 0, none⟩) s.n g.ka]).run Try.prog w = .ok (.tuple #[]) (w.setRow g.a (zPd s.n cs)) := fun ty =>
    clear_row (k := 3) Try.underlying55 zeroPl rfl (by simp [Value.cells] <;> decide) (by omega) ha has
  have m6 : HasMap (w.setRow g.a (zPd s.n cs)) g.m s.m s.wh := h.m.kept (setRow_ne _ h.ap.am.symm)
  obtain ⟨w7, r2, m7, t7⟩ := m6.clear
  have hs7 : w7.heap[g.s]? = some (.cells ds 72 (0, 0)) := ((t7.grown.block _ (by rw [size_setRow]; exact h.lt (.inr (.inr (.inr rfl)))) (fun e => h.ap.ms.symm (Option.some.inj e))).trans (setRow_ne _ h.ap.as_.symm)).trans hs
  have hc7 : w7.heap[g.c]? = some (.cells (cCells g s) 59 (0, 0)) := ((t7.grown.block _ (by rw [size_setRow]; exact h.lt (.inl rfl)) (fun e => h.ap.cm (Option.some.inj e))).trans (setRow_ne _ h.ap.ca)).trans h.c
  have ha7 : w7.heap[g.a]? = some (.cells (zPd s.n cs) 69 (0, 0)) := (t7.grown.block _ (by rw [size_setRow]; exact h.lt (.inr (.inl rfl))) (fun e => h.ap.am (Option.some.inj e))).trans (setRow_heap w g.a _ _ _ _ ha)
  have r3 : ∀ ty, (Builtin.clear_ #[57] ty #[.slice (some ⟨g.s, 0, none⟩) s.ns g.ks]).run Try.prog w7 = .ok (.tuple #[]) (w7.setRow g.s (zSd s.ns ds)) := fun ty =>
    clear_row (k := 4) Try.underlying57 zeroSl rfl (by simp [Value.cells] <;> decide) (by omega) hs7 hss
  refine ⟨_, w7, _, r1, r2, r3, ?_, ?_, ⟨ok_flush h.ok, h.ap, (setRow_ne _ h.ap.cs).trans hc7, row_zPd ((setRow_ne _ h.ap.as_).trans ha7), m7.kept (setRow_ne _ h.ap.ms), row_zSd (setRow_heap w7 g.s _ _ _ _ hs7)⟩, ?_⟩
  · have hc6 : (w.setRow g.a (zPd s.n cs)).heap[g.c]? = some (.cells (cCells g s) 59 (0, 0)) := (setRow_ne _ h.ap.ca).trans h.c
    simp [World.cell?, hc6, cCells]
  · simp [World.cell?, hc7, cCells]
  · exact ((((Kept.refl _ w).setRow g.a (zPd s.n cs) (.inl (.inr (.inl rfl)))).turned t7 (.inl (.inr (.inr (.inl rfl))))).setRow g.s (zSd s.ns ds) (.inl (.inr (.inr (.inr rfl)))))

set_option maxRecDepth 100000 in
set_option maxHeartbeats 4000000 in
theorem Flush_any (w : World) (g : G) (s : St) (h : Held w g s) (hl1 : (outS s s.n).length ≤ 1) :
    Calls Try.prog 20 #[.pointer (some ⟨g.c, 0, none⟩)] w fun e w' =>
      ∃ v, e = .returned v ∧ w'.ownsRow w.heap.size 22 1 v (outS s s.n).length (uCells (outS s s.n)) ∧ Held w' g (flushS s) ∧ Kept g.own w w' := by
  obtain ⟨i0, hi, hz0, hz1, hz2⟩ := info_parts infoU
  have c4 := h.cf.c4
  go_enter Try.func20, Try.ntmps20
  go_wp2
  go_loopw [3, 11] (fun ov iv wr => ∃ k : Nat, k ≤ s.n ∧ iv = .int .i64 k ∧ Still w wr ∧ wr.ownsRow w.heap.size 22 1 ov (outS s k).length (uCells (outS s k)) ∧ ((outS s k).length = 0 → ov = .slice none 0 0)) (fun _ iv _ => s.n - (intOf iv).toNat)
  case atStart => exact ⟨0, Nat.zero_le _, rfl, Kept.refl _ _, World.ownsRow_nil _ _ _ _, fun _ => rfl⟩
  case round =>
    obtain ⟨k, hk, rfl, hst, ho, hnil⟩ := hrel
    have hh := h.still hst
    by_cases hlt : k < s.n
    · have hn512 := h.ok.n_le.2
      have hms := meas_succ2 hlt
      have hk1 : k + 1 ≤ s.n := hlt
      have hb : 0 ≤ (k : Int) := by omega
      have hb2 : ((k : Nat) : Int) < (s.n : Nat) := by omega
      have e0 := hh.a.cell k 0 hlt (by decide)
      have e1 := hh.a.cell k 1 hlt (by decide)
      have e2 := hh.a.cell k 2 hlt (by decide)
      simp only [plV, Nat.add_zero] at e0 e1 e2
      have hlen := out_length s k
      have hst' : outS s (k + 1) = outS s k ++ (if (s.pl k).is = true ∧ (s.pl k).written = true then [(s.pl k).line <<< 6] else []) := rfl
      by_cases hc : (s.pl k).is = true ∧ (s.pl k).written = true
      · obtain ⟨i1, i2⟩ := hc
        rw [if_pos ⟨i1, i2⟩] at hst'
        have hst' := hide hst'
        rw [i1] at e1
        rw [i2] at e2
        have hbw : w.heap.size ≤ wr.heap.size := hst.size
        have q1 : (outS s k).length + 1 ≤ maxLen := by rw [maxLen_is]; omega
        have q2 : ((outS s k).length + 1) * 8 ≤ 140737488355328 := by omega
        have q3 : w.heap.size ≤ wr.heap.size + 1 + 1 := by omega
        go_wp2_with (at_builtin; refine wpList_append_own_at _ rfl _ _ 44 rfl w.heap.size 22 i0 (.int .u64 0) 1 8 Try.underlying44 hi hz0 hz1 hz2 rfl (by decide) _ _ _ rfl ((ho.alloc _).alloc _) ⟨wr.heap.size + 1, 0, none⟩ 1 1 [.int .u64 (U ((s.pl k).line <<< 6))] rfl rfl (cell_two _ _ _ _) (fun u hu => by simp at hu; subst hu; rfl) q1 q2 (by simp only [World.size_alloc]; exact q3) ?_; intro v' w1 hown' hgrow hnil' hloc)
        have hst2 : Still w w1 := ((hst.alloc _).alloc _).grown hgrow (fun p hp => .inr (World.ownsRow.lt ho p hp).1)
        have hl : Hid ((outS s (k + 1)).length = (outS s k).length + 1 ∧ uCells (outS s (k + 1)) = uCells (outS s k) ++ [.int .u64 (U ((s.pl k).line <<< 6))]) := hide (by rw [hst'.out]; simp [uCells])
        clear hgrow hnil' hloc hnil
        go_roundw
        case rel => exact ⟨k + 1, hk1, by simp, hst2, by rw [hl.out.1, hl.out.2]; exact hown', fun e => by rw [hl.out.1] at e; cases e⟩
        case measure => exact hms
      · rw [if_neg hc, List.append_nil] at hst'
        have hst' := hide hst'
        cases i1 : (s.pl k).is with
        | false =>
          rw [i1] at e1
          go_wp2
          go_roundw
          case rel => exact ⟨k + 1, hk1, by simp, hst.alloc _, by rw [hst'.out]; exact ho.alloc _, by rw [hst'.out]; exact hnil⟩
          case measure => exact hms
        | true =>
          have i2 : (s.pl k).written = false := by
            cases e : (s.pl k).written
            · rfl
            · exact absurd ⟨i1, e⟩ hc
          rw [i1] at e1
          rw [i2] at e2
          go_wp2
          go_roundw
          case rel => exact ⟨k + 1, hk1, by simp, hst.alloc _, by rw [hst'.out]; exact ho.alloc _, by rw [hst'.out]; exact hnil⟩
          case measure => exact hms
    · obtain rfl : k = s.n := by omega
      obtain ⟨w6, w7, w8, r1, r2, r3, c5, c6, h8, hK8⟩ := flush_steps hh
      have hKf := (hst.mono (T := g.own) (fun _ e => e.elim)).trans hK8
      have ho8 := Owns.kept ho hK8 (fun b hb hw => absurd (h.lt hw) (Nat.not_lt.2 hb))
      have c4 := hh.cf.c4
      have c50 := hh.cf.c5
      by_cases h0 : (outS s s.n).length = 0
      · obtain rfl := hnil h0
        go_wp2_with (first
          | (go_at_call 31; refine (Sort_0 _).mono ?_; rintro e w' ⟨rfl, rfl⟩)
          | refine wpList_clear rfl _ 55 rfl _ rfl r1 ?_
          | refine wpList_clear rfl _ 56 rfl _ rfl r2 ?_
          | refine wpList_clear rfl _ 57 rfl _ rfl r3 ?_)
        go_ret
        exact ⟨_, rfl, ho8, h8, hKf⟩
      · have h1 : (outS s s.n).length = 1 := by omega
        obtain ⟨gb, cap, rfl, -, -⟩ := World.ownsRow.form ho (by omega)
        have ho8 := hide ho8
        rw [h1]
        clear ho
        go_wp2_with (first
          | (go_at_call 31; refine (Sort_1 _ _ _).mono ?_; rintro e w' ⟨rfl, rfl⟩)
          | refine wpList_clear rfl _ 55 rfl _ rfl r1 ?_
          | refine wpList_clear rfl _ 56 rfl _ rfl r2 ?_
          | refine wpList_clear rfl _ 57 rfl _ rfl r3 ?_)
        go_ret
        exact ⟨_, rfl, by have := ho8.out; rw [h1] at this ⊢; exact this, h8, hKf⟩
end Go.Proofs.Ytpflodhnniochaa
