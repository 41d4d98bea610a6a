/-
  Walk: New.
-/
import Derived.Test.YtpflodhnniochaaCacheF
namespace Go.Proofs.Ytpflodhnniochaa
set_option linter.unusedVariables false
open Go.RowKit Go.Maps

def newS (sets ways ns delay : Nat) (seed : BitVec 64) : St := ⟨sets, ways, delay, seed, ns, fun _ => ⟨0#64, false, false⟩, fun _ => none, fun _ => ⟨0#64, false, false, 0⟩⟩
structure Fine (sets ways ns delay : Nat) : Prop where
  sets : sets = 1 ∨ sets = 2 ∨ sets = 4 ∨ sets = 8 ∨ sets = 16 ∨ sets = 32 ∨ sets = 64
  ways : 1 ≤ ways ∧ ways ≤ 8
  ns : 1 ≤ ns ∧ ns ≤ 8
  delay : 1 ≤ delay ∧ delay ≤ 64
theorem infoP : (Try.prog.info? 69).map (fun i => (i.zero, i.size, i.bytes)) = some (some (.agg #[.int .u64 0, .bool false, .bool false]), 3, 16) := by kernel_rfl
theorem infoS : (Try.prog.info? 72).map (fun i => (i.zero, i.size, i.bytes)) = some (some (.agg #[.int .u64 0, .bool false, .bool false, .int .i64 0]), 4, 24) := by kernel_rfl
def mkP (v v' : Value) : Sem Value := Instr.makeSlice 55 v v'
def mkS (v v' : Value) : Sem Value := Instr.makeSlice 57 v v'
theorem mkP_eq (v v' : Value) : Instr.makeSlice 55 v v' = mkP v v' := rfl
theorem mkS_eq (v v' : Value) : Instr.makeSlice 57 v v' = mkS v v' := rfl
def zP (n : Nat) : Array Value := madeCells #[.int .u64 0, .bool false, .bool false] (n * 3)
def zS (n : Nat) : Array Value := madeCells #[.int .u64 0, .bool false, .bool false, .int .i64 0] (n * 4)
theorem run_mkP (w : World) {n : Nat} (hn : n ≤ 512) : (mkP (.int .i64 (n : Int)) (.int .i64 (n : Int))).run Try.prog w = .ok (.slice (some ⟨w.heap.size, 0, none⟩) n n) (w.alloc (.cells (zP n) 69)) := by
  obtain ⟨i0, hi, hz0, hz1, hz2⟩ := info_parts infoP
  have h := run_make (P := Try.prog) w 55 69 i0 _ Try.underlying55 hi hz0 .i64 .i64 n n (by omega) (Int.le_refl _) (by rw [hz2]; omega) (by omega)
  rw [hz1] at h
  simp only [Int.toNat_natCast] at h
  exact h
theorem run_mkS (w : World) {n : Nat} (hn : n ≤ 512) : (mkS (.int .i64 (n : Int)) (.int .i64 (n : Int))).run Try.prog w = .ok (.slice (some ⟨w.heap.size, 0, none⟩) n n) (w.alloc (.cells (zS n) 72)) := by
  obtain ⟨i0, hi, hz0, hz1, hz2⟩ := info_parts infoS
  have h := run_make (P := Try.prog) w 57 72 i0 _ Try.underlying57 hi hz0 .i64 .i64 n n (by omega) (Int.le_refl _) (by rw [hz2]; omega) (by omega)
  rw [hz1] at h
  simp only [Int.toNat_natCast] at h
  exact h
theorem made_at (z : Array Value) (n k i j : Nat) (hz : z.size = k) (hi : i < n) (hj : j < k) : (madeCells z (n * k))[i * k + j]? = some z[j]! := by
  have h1 : i * k + j < n * k := by
    have := Nat.mul_le_mul_right k (show i + 1 ≤ n from hi)
    rw [Nat.add_mul] at this
    omega
  unfold madeCells
  have h2 : (i * k + j) % z.size = j := by rw [hz, Nat.mul_comm, Nat.mul_add_mod, Nat.mod_eq_of_lt hj]
  simp [h1, h2]
theorem row_zP {w : World} {b n : Nat} (h : w.heap[b]? = some (.cells (zP n) 69 (0, 0))) : Row w b 69 3 n (plV fun _ => ⟨0#64, false, false⟩) := by
  refine ⟨_, h, by simp [zP, size_madeCells], fun i j hi hj => ?_⟩
  unfold zP
  rw [made_at _ n 3 i j rfl hi hj]
  rcases (by omega : j = 0 ∨ j = 1 ∨ j = 2) with rfl | rfl | rfl <;> rfl
theorem row_zS {w : World} {b n : Nat} (h : w.heap[b]? = some (.cells (zS n) 72 (0, 0))) : Row w b 72 4 n (slV fun _ => ⟨0#64, false, false, 0⟩) := by
  refine ⟨_, h, by simp [zS, size_madeCells], fun i j hi hj => ?_⟩
  unfold zS
  rw [made_at _ n 4 i j rfl hi hj]
  rcases (by omega : j = 0 ∨ j = 1 ∨ j = 2 ∨ j = 3) with rfl | rfl | rfl | rfl <;> rfl
theorem ok_new {sets ways ns delay : Nat} {seed : BitVec 64} (h : Fine sets ways ns delay) : Ok (newS sets ways ns delay seed) :=
  ⟨h.sets, h.ways, h.ns, h.delay, fun L n e => by simp [newS] at e, fun i hi e => by simp [newS] at e⟩
theorem held_new {w : World} {g : G} {sets ways ns delay N : Nat} {seed : BitVec 64} (h : Fine sets ways ns delay) (hN : N = sets * ways)
    (hc : w.heap[g.c]? = some (.cells #[.int .i64 (sets : Nat), .int .i64 (ways : Nat), .int .i64 (delay : Nat), .int .u64 (U seed), .slice (some ⟨g.a, 0, none⟩) N g.ka, .map (some g.m), .slice (some ⟨g.s, 0, none⟩) ns g.ks] 59 (0, 0)))
    (ha : w.heap[g.a]? = some (.cells (zP N) 69 (0, 0))) (hm : w.heap[g.m]? = some (.map #[] 0)) (hs : w.heap[g.s]? = some (.cells (zS ns) 72 (0, 0))) (ap : Apart g) : Held w g (newS sets ways ns delay seed) :=
  by
  subst hN
  exact ⟨ok_new h, ap, hc, row_zP ha, ⟨.map [], tight (n := 0) ⟨#[], 0, hm, ⟨by simp, MapKept.stamped_empty 0, by simp⟩, Nat.le_refl _, rfl⟩, reads_none _⟩, row_zS hs⟩

theorem four (w : World) (a b c d : Obj) : ((((w.alloc a).alloc b).alloc c).alloc d).drew.heap[w.heap.size]? = some a ∧ ((((w.alloc a).alloc b).alloc c).alloc d).drew.heap[w.heap.size + 1]? = some b ∧
    ((((w.alloc a).alloc b).alloc c).alloc d).drew.heap[w.heap.size + 1 + 1]? = some c ∧ ((((w.alloc a).alloc b).alloc c).alloc d).drew.heap[w.heap.size + 1 + 1 + 1]? = some d := by
  refine ⟨?_, ?_, ?_, ?_⟩
  · exact (Below.heap_alloc _ _ _ (by simp only [World.size_alloc]; omega)).trans ((Below.heap_alloc _ _ _ (by simp only [World.size_alloc]; omega)).trans ((Below.heap_alloc _ _ _ (by simp only [World.size_alloc]; omega)).trans (heap_alloc_new w a)))
  · exact (Below.heap_alloc _ _ _ (by simp only [World.size_alloc]; omega)).trans ((Below.heap_alloc _ _ _ (by simp only [World.size_alloc]; omega)).trans (by have := heap_alloc_new (w.alloc a) b; rwa [World.size_alloc] at this))
  · exact (Below.heap_alloc _ _ _ (by simp only [World.size_alloc]; omega)).trans (by have := heap_alloc_new ((w.alloc a).alloc b) c; rwa [World.size_alloc, World.size_alloc] at this)
  · have := heap_alloc_new (((w.alloc a).alloc b).alloc c) d
    rw [World.size_alloc, World.size_alloc, World.size_alloc] at this
    exact this
theorem still4 (w : World) (a b c d : Obj) : Still w ((((w.alloc a).alloc b).alloc c).alloc d).drew := ((((Kept.refl _ w).alloc a).alloc b).alloc c).alloc d |>.drew

attribute [local go_sem ↓] mkP_eq mkS_eq

set_option maxRecDepth 100000 in
set_option maxHeartbeats 2000000 in
theorem New_1 (w : World) (ways ns delay : Nat) (seed : BitVec 64) (hw : 1 ≤ ways ∧ ways ≤ 8) (hn : 1 ≤ ns ∧ ns ≤ 8) (hd : 1 ≤ delay ∧ delay ≤ 64) :
    Calls Try.prog 9 #[.int .i64 1, .int .i64 (ways : Nat), .int .i64 (ns : Nat), .int .i64 (delay : Nat), .int .u64 (U seed)] w fun e w' =>
      ∃ g, e = .returned (.pointer (some ⟨g.c, 0, none⟩)) ∧ Held w' g (newS 1 ways ns delay seed) ∧ Still w w' ∧ ∀ b, g.own b → w.heap.size ≤ b := by
  obtain ⟨hw1, hw2⟩ := hw
  obtain ⟨hn1, hn2⟩ := hn
  obtain ⟨hd1, hd2⟩ := hd
  have hmP : ∀ w, (mkP (.int .i64 (ways : Int)) (.int .i64 (ways : Int))).run Try.prog w = .ok (.slice (some ⟨w.heap.size, 0, none⟩) (1 * ways) (1 * ways)) (w.alloc (.cells (zP (1 * ways)) 69)) := fun w => by
    have := run_mkP w (n := 1 * ways) (by omega)
    simpa using this
  have hmS : ∀ w, (mkS (.int .i64 (ns : Int)) (.int .i64 (ns : Int))).run Try.prog w = .ok (.slice (some ⟨w.heap.size, 0, none⟩) ns ns) (w.alloc (.cells (zS ns) 72)) := fun w => run_mkS w (by omega)
  have f1 : ¬ (ways : Int) < 1 := by omega
  have f2 : ¬ (8 : Int) < ways := by omega
  have f3 : ¬ (ns : Int) < 1 := by omega
  have f4 : ¬ (8 : Int) < ns := by omega
  have f5 : ¬ (delay : Int) < 1 := by omega
  have f6 : ¬ (64 : Int) < delay := by omega
  have hfine : Fine 1 ways ns delay := ⟨by decide, ⟨hw1, hw2⟩, ⟨hn1, hn2⟩, ⟨hd1, hd2⟩⟩
  have hfine := hide hfine
  have hmm := @run_makeMap Try.prog
  have hwp : IntKind.i64.wrap (ways : Int) = (ways : Int) := by rw [IntKind.wrap_i64]; omega
  go_enter Try.func9, Try.ntmps9
  go_wp2
  go_region
  all_goals
    clear hmP hmS hmm hwp f1 f2 f3 f4 f5 f6
    go_wp2
    go_ret
    refine ⟨⟨_, _, _, _, _, _⟩, rfl, held_new hfine.out (by omega) (four w _ _ _ _).2.2.2 ?ha ?hm ?hs ?ap, still4 w _ _ _ _, ?own⟩
    case ha => first | exact (four w _ _ _ _).1 | exact (four w _ _ _ _).2.1 | exact (four w _ _ _ _).2.2.1
    case hm => first | exact (four w _ _ _ _).1 | exact (four w _ _ _ _).2.1 | exact (four w _ _ _ _).2.2.1
    case hs => first | exact (four w _ _ _ _).1 | exact (four w _ _ _ _).2.1 | exact (four w _ _ _ _).2.2.1
    case ap => clear hw1 hw2 hn1 hn2 hd1 hd2; constructor <;> (dsimp only; (try simp only [Array.length_toList]); omega)
    case own => clear hw1 hw2 hn1 hn2 hd1 hd2; rintro b (rfl | rfl | rfl | rfl) <;> (dsimp only; (try simp only [Array.length_toList]); omega)

set_option maxRecDepth 100000 in
set_option maxHeartbeats 2000000 in
theorem New_2 (w : World) (ways ns delay : Nat) (seed : BitVec 64) (hw : 1 ≤ ways ∧ ways ≤ 8) (hn : 1 ≤ ns ∧ ns ≤ 8) (hd : 1 ≤ delay ∧ delay ≤ 64) :
    Calls Try.prog 9 #[.int .i64 2, .int .i64 (ways : Nat), .int .i64 (ns : Nat), .int .i64 (delay : Nat), .int .u64 (U seed)] w fun e w' =>
      ∃ g, e = .returned (.pointer (some ⟨g.c, 0, none⟩)) ∧ Held w' g (newS 2 ways ns delay seed) ∧ Still w w' ∧ ∀ b, g.own b → w.heap.size ≤ b := by
  obtain ⟨hw1, hw2⟩ := hw
  obtain ⟨hn1, hn2⟩ := hn
  obtain ⟨hd1, hd2⟩ := hd
  have hmP : ∀ w, (mkP (.int .i64 (2 * (ways : Int))) (.int .i64 (2 * (ways : Int)))).run Try.prog w = .ok (.slice (some ⟨w.heap.size, 0, none⟩) (2 * ways) (2 * ways)) (w.alloc (.cells (zP (2 * ways)) 69)) := fun w => by
    have := run_mkP w (n := 2 * ways) (by omega)
    simpa using this
  have hmS : ∀ w, (mkS (.int .i64 (ns : Int)) (.int .i64 (ns : Int))).run Try.prog w = .ok (.slice (some ⟨w.heap.size, 0, none⟩) ns ns) (w.alloc (.cells (zS ns) 72)) := fun w => run_mkS w (by omega)
  have f1 : ¬ (ways : Int) < 1 := by omega
  have f2 : ¬ (8 : Int) < ways := by omega
  have f3 : ¬ (ns : Int) < 1 := by omega
  have f4 : ¬ (8 : Int) < ns := by omega
  have f5 : ¬ (delay : Int) < 1 := by omega
  have f6 : ¬ (64 : Int) < delay := by omega
  have hfine : Fine 2 ways ns delay := ⟨by decide, ⟨hw1, hw2⟩, ⟨hn1, hn2⟩, ⟨hd1, hd2⟩⟩
  have hfine := hide hfine
  have hmm := @run_makeMap Try.prog
  have hwp : IntKind.i64.wrap (2 * (ways : Int)) = (2 * (ways : Int)) := by rw [IntKind.wrap_i64]; omega
  go_enter Try.func9, Try.ntmps9
  go_wp2
  go_region
  all_goals
    clear hmP hmS hmm hwp f1 f2 f3 f4 f5 f6
    go_wp2
    go_ret
    refine ⟨⟨_, _, _, _, _, _⟩, rfl, held_new hfine.out (by omega) (four w _ _ _ _).2.2.2 ?ha ?hm ?hs ?ap, still4 w _ _ _ _, ?own⟩
    case ha => first | exact (four w _ _ _ _).1 | exact (four w _ _ _ _).2.1 | exact (four w _ _ _ _).2.2.1
    case hm => first | exact (four w _ _ _ _).1 | exact (four w _ _ _ _).2.1 | exact (four w _ _ _ _).2.2.1
    case hs => first | exact (four w _ _ _ _).1 | exact (four w _ _ _ _).2.1 | exact (four w _ _ _ _).2.2.1
    case ap => clear hw1 hw2 hn1 hn2 hd1 hd2; constructor <;> (dsimp only; (try simp only [Array.length_toList]); omega)
    case own => clear hw1 hw2 hn1 hn2 hd1 hd2; rintro b (rfl | rfl | rfl | rfl) <;> (dsimp only; (try simp only [Array.length_toList]); omega)

set_option maxRecDepth 100000 in
set_option maxHeartbeats 2000000 in
theorem New_4 (w : World) (ways ns delay : Nat) (seed : BitVec 64) (hw : 1 ≤ ways ∧ ways ≤ 8) (hn : 1 ≤ ns ∧ ns ≤ 8) (hd : 1 ≤ delay ∧ delay ≤ 64) :
    Calls Try.prog 9 #[.int .i64 4, .int .i64 (ways : Nat), .int .i64 (ns : Nat), .int .i64 (delay : Nat), .int .u64 (U seed)] w fun e w' =>
      ∃ g, e = .returned (.pointer (some ⟨g.c, 0, none⟩)) ∧ Held w' g (newS 4 ways ns delay seed) ∧ Still w w' ∧ ∀ b, g.own b → w.heap.size ≤ b := by
  obtain ⟨hw1, hw2⟩ := hw
  obtain ⟨hn1, hn2⟩ := hn
  obtain ⟨hd1, hd2⟩ := hd
  have hmP : ∀ w, (mkP (.int .i64 (4 * (ways : Int))) (.int .i64 (4 * (ways : Int)))).run Try.prog w = .ok (.slice (some ⟨w.heap.size, 0, none⟩) (4 * ways) (4 * ways)) (w.alloc (.cells (zP (4 * ways)) 69)) := fun w => by
    have := run_mkP w (n := 4 * ways) (by omega)
    simpa using this
  have hmS : ∀ w, (mkS (.int .i64 (ns : Int)) (.int .i64 (ns : Int))).run Try.prog w = .ok (.slice (some ⟨w.heap.size, 0, none⟩) ns ns) (w.alloc (.cells (zS ns) 72)) := fun w => run_mkS w (by omega)
  have f1 : ¬ (ways : Int) < 1 := by omega
  have f2 : ¬ (8 : Int) < ways := by omega
  have f3 : ¬ (ns : Int) < 1 := by omega
  have f4 : ¬ (8 : Int) < ns := by omega
  have f5 : ¬ (delay : Int) < 1 := by omega
  have f6 : ¬ (64 : Int) < delay := by omega
  have hfine : Fine 4 ways ns delay := ⟨by decide, ⟨hw1, hw2⟩, ⟨hn1, hn2⟩, ⟨hd1, hd2⟩⟩
  have hfine := hide hfine
  have hmm := @run_makeMap Try.prog
  have hwp : IntKind.i64.wrap (4 * (ways : Int)) = (4 * (ways : Int)) := by rw [IntKind.wrap_i64]; omega
  go_enter Try.func9, Try.ntmps9
  go_wp2
  go_region
  all_goals
    clear hmP hmS hmm hwp f1 f2 f3 f4 f5 f6
    go_wp2
    go_ret
    refine ⟨⟨_, _, _, _, _, _⟩, rfl, held_new hfine.out (by omega) (four w _ _ _ _).2.2.2 ?ha ?hm ?hs ?ap, still4 w _ _ _ _, ?own⟩
    case ha => first | exact (four w _ _ _ _).1 | exact (four w _ _ _ _).2.1 | exact (four w _ _ _ _).2.2.1
    case hm => first | exact (four w _ _ _ _).1 | exact (four w _ _ _ _).2.1 | exact (four w _ _ _ _).2.2.1
    case hs => first | exact (four w _ _ _ _).1 | exact (four w _ _ _ _).2.1 | exact (four w _ _ _ _).2.2.1
    case ap => clear hw1 hw2 hn1 hn2 hd1 hd2; constructor <;> (dsimp only; (try simp only [Array.length_toList]); omega)
    case own => clear hw1 hw2 hn1 hn2 hd1 hd2; rintro b (rfl | rfl | rfl | rfl) <;> (dsimp only; (try simp only [Array.length_toList]); omega)

set_option maxRecDepth 100000 in
set_option maxHeartbeats 2000000 in
theorem New_8 (w : World) (ways ns delay : Nat) (seed : BitVec 64) (hw : 1 ≤ ways ∧ ways ≤ 8) (hn : 1 ≤ ns ∧ ns ≤ 8) (hd : 1 ≤ delay ∧ delay ≤ 64) :
    Calls Try.prog 9 #[.int .i64 8, .int .i64 (ways : Nat), .int .i64 (ns : Nat), .int .i64 (delay : Nat), .int .u64 (U seed)] w fun e w' =>
      ∃ g, e = .returned (.pointer (some ⟨g.c, 0, none⟩)) ∧ Held w' g (newS 8 ways ns delay seed) ∧ Still w w' ∧ ∀ b, g.own b → w.heap.size ≤ b := by
  obtain ⟨hw1, hw2⟩ := hw
  obtain ⟨hn1, hn2⟩ := hn
  obtain ⟨hd1, hd2⟩ := hd
  have hmP : ∀ w, (mkP (.int .i64 (8 * (ways : Int))) (.int .i64 (8 * (ways : Int)))).run Try.prog w = .ok (.slice (some ⟨w.heap.size, 0, none⟩) (8 * ways) (8 * ways)) (w.alloc (.cells (zP (8 * ways)) 69)) := fun w => by
    have := run_mkP w (n := 8 * ways) (by omega)
    simpa using this
  have hmS : ∀ w, (mkS (.int .i64 (ns : Int)) (.int .i64 (ns : Int))).run Try.prog w = .ok (.slice (some ⟨w.heap.size, 0, none⟩) ns ns) (w.alloc (.cells (zS ns) 72)) := fun w => run_mkS w (by omega)
  have f1 : ¬ (ways : Int) < 1 := by omega
  have f2 : ¬ (8 : Int) < ways := by omega
  have f3 : ¬ (ns : Int) < 1 := by omega
  have f4 : ¬ (8 : Int) < ns := by omega
  have f5 : ¬ (delay : Int) < 1 := by omega
  have f6 : ¬ (64 : Int) < delay := by omega
  have hfine : Fine 8 ways ns delay := ⟨by decide, ⟨hw1, hw2⟩, ⟨hn1, hn2⟩, ⟨hd1, hd2⟩⟩
  have hfine := hide hfine
  have hmm := @run_makeMap Try.prog
  have hwp : IntKind.i64.wrap (8 * (ways : Int)) = (8 * (ways : Int)) := by rw [IntKind.wrap_i64]; omega
  go_enter Try.func9, Try.ntmps9
  go_wp2
  go_region
  all_goals
    clear hmP hmS hmm hwp f1 f2 f3 f4 f5 f6
    go_wp2
    go_ret
    refine ⟨⟨_, _, _, _, _, _⟩, rfl, held_new hfine.out (by omega) (four w _ _ _ _).2.2.2 ?ha ?hm ?hs ?ap, still4 w _ _ _ _, ?own⟩
    case ha => first | exact (four w _ _ _ _).1 | exact (four w _ _ _ _).2.1 | exact (four w _ _ _ _).2.2.1
    case hm => first | exact (four w _ _ _ _).1 | exact (four w _ _ _ _).2.1 | exact (four w _ _ _ _).2.2.1
    case hs => first | exact (four w _ _ _ _).1 | exact (four w _ _ _ _).2.1 | exact (four w _ _ _ _).2.2.1
    case ap => clear hw1 hw2 hn1 hn2 hd1 hd2; constructor <;> (dsimp only; (try simp only [Array.length_toList]); omega)
    case own => clear hw1 hw2 hn1 hn2 hd1 hd2; rintro b (rfl | rfl | rfl | rfl) <;> (dsimp only; (try simp only [Array.length_toList]); omega)

set_option maxRecDepth 100000 in
set_option maxHeartbeats 2000000 in
theorem New_16 (w : World) (ways ns delay : Nat) (seed : BitVec 64) (hw : 1 ≤ ways ∧ ways ≤ 8) (hn : 1 ≤ ns ∧ ns ≤ 8) (hd : 1 ≤ delay ∧ delay ≤ 64) :
    Calls Try.prog 9 #[.int .i64 16, .int .i64 (ways : Nat), .int .i64 (ns : Nat), .int .i64 (delay : Nat), .int .u64 (U seed)] w fun e w' =>
      ∃ g, e = .returned (.pointer (some ⟨g.c, 0, none⟩)) ∧ Held w' g (newS 16 ways ns delay seed) ∧ Still w w' ∧ ∀ b, g.own b → w.heap.size ≤ b := by
  obtain ⟨hw1, hw2⟩ := hw
  obtain ⟨hn1, hn2⟩ := hn
  obtain ⟨hd1, hd2⟩ := hd
  have hmP : ∀ w, (mkP (.int .i64 (16 * (ways : Int))) (.int .i64 (16 * (ways : Int)))).run Try.prog w = .ok (.slice (some ⟨w.heap.size, 0, none⟩) (16 * ways) (16 * ways)) (w.alloc (.cells (zP (16 * ways)) 69)) := fun w => by
    have := run_mkP w (n := 16 * ways) (by omega)
    simpa using this
  have hmS : ∀ w, (mkS (.int .i64 (ns : Int)) (.int .i64 (ns : Int))).run Try.prog w = .ok (.slice (some ⟨w.heap.size, 0, none⟩) ns ns) (w.alloc (.cells (zS ns) 72)) := fun w => run_mkS w (by omega)
  have f1 : ¬ (ways : Int) < 1 := by omega
  have f2 : ¬ (8 : Int) < ways := by omega
  have f3 : ¬ (ns : Int) < 1 := by omega
  have f4 : ¬ (8 : Int) < ns := by omega
  have f5 : ¬ (delay : Int) < 1 := by omega
  have f6 : ¬ (64 : Int) < delay := by omega
  have hfine : Fine 16 ways ns delay := ⟨by decide, ⟨hw1, hw2⟩, ⟨hn1, hn2⟩, ⟨hd1, hd2⟩⟩
  have hfine := hide hfine
  have hmm := @run_makeMap Try.prog
  have hwp : IntKind.i64.wrap (16 * (ways : Int)) = (16 * (ways : Int)) := by rw [IntKind.wrap_i64]; omega
  go_enter Try.func9, Try.ntmps9
  go_wp2
  go_region
  all_goals
    clear hmP hmS hmm hwp f1 f2 f3 f4 f5 f6
    go_wp2
    go_ret
    refine ⟨⟨_, _, _, _, _, _⟩, rfl, held_new hfine.out (by omega) (four w _ _ _ _).2.2.2 ?ha ?hm ?hs ?ap, still4 w _ _ _ _, ?own⟩
    case ha => first | exact (four w _ _ _ _).1 | exact (four w _ _ _ _).2.1 | exact (four w _ _ _ _).2.2.1
    case hm => first | exact (four w _ _ _ _).1 | exact (four w _ _ _ _).2.1 | exact (four w _ _ _ _).2.2.1
    case hs => first | exact (four w _ _ _ _).1 | exact (four w _ _ _ _).2.1 | exact (four w _ _ _ _).2.2.1
    case ap => clear hw1 hw2 hn1 hn2 hd1 hd2; constructor <;> (dsimp only; (try simp only [Array.length_toList]); omega)
    case own => clear hw1 hw2 hn1 hn2 hd1 hd2; rintro b (rfl | rfl | rfl | rfl) <;> (dsimp only; (try simp only [Array.length_toList]); omega)

set_option maxRecDepth 100000 in
set_option maxHeartbeats 2000000 in
theorem New_32 (w : World) (ways ns delay : Nat) (seed : BitVec 64) (hw : 1 ≤ ways ∧ ways ≤ 8) (hn : 1 ≤ ns ∧ ns ≤ 8) (hd : 1 ≤ delay ∧ delay ≤ 64) :
    Calls Try.prog 9 #[.int .i64 32, .int .i64 (ways : Nat), .int .i64 (ns : Nat), .int .i64 (delay : Nat), .int .u64 (U seed)] w fun e w' =>
      ∃ g, e = .returned (.pointer (some ⟨g.c, 0, none⟩)) ∧ Held w' g (newS 32 ways ns delay seed) ∧ Still w w' ∧ ∀ b, g.own b → w.heap.size ≤ b := by
  obtain ⟨hw1, hw2⟩ := hw
  obtain ⟨hn1, hn2⟩ := hn
  obtain ⟨hd1, hd2⟩ := hd
  have hmP : ∀ w, (mkP (.int .i64 (32 * (ways : Int))) (.int .i64 (32 * (ways : Int)))).run Try.prog w = .ok (.slice (some ⟨w.heap.size, 0, none⟩) (32 * ways) (32 * ways)) (w.alloc (.cells (zP (32 * ways)) 69)) := fun w => by
    have := run_mkP w (n := 32 * ways) (by omega)
    simpa using this
  have hmS : ∀ w, (mkS (.int .i64 (ns : Int)) (.int .i64 (ns : Int))).run Try.prog w = .ok (.slice (some ⟨w.heap.size, 0, none⟩) ns ns) (w.alloc (.cells (zS ns) 72)) := fun w => run_mkS w (by omega)
  have f1 : ¬ (ways : Int) < 1 := by omega
  have f2 : ¬ (8 : Int) < ways := by omega
  have f3 : ¬ (ns : Int) < 1 := by omega
  have f4 : ¬ (8 : Int) < ns := by omega
  have f5 : ¬ (delay : Int) < 1 := by omega
  have f6 : ¬ (64 : Int) < delay := by omega
  have hfine : Fine 32 ways ns delay := ⟨by decide, ⟨hw1, hw2⟩, ⟨hn1, hn2⟩, ⟨hd1, hd2⟩⟩
  have hfine := hide hfine
  have hmm := @run_makeMap Try.prog
  have hwp : IntKind.i64.wrap (32 * (ways : Int)) = (32 * (ways : Int)) := by rw [IntKind.wrap_i64]; omega
  go_enter Try.func9, Try.ntmps9
  go_wp2
  go_region
  all_goals
    clear hmP hmS hmm hwp f1 f2 f3 f4 f5 f6
    go_wp2
    go_ret
    refine ⟨⟨_, _, _, _, _, _⟩, rfl, held_new hfine.out (by omega) (four w _ _ _ _).2.2.2 ?ha ?hm ?hs ?ap, still4 w _ _ _ _, ?own⟩
    case ha => first | exact (four w _ _ _ _).1 | exact (four w _ _ _ _).2.1 | exact (four w _ _ _ _).2.2.1
    case hm => first | exact (four w _ _ _ _).1 | exact (four w _ _ _ _).2.1 | exact (four w _ _ _ _).2.2.1
    case hs => first | exact (four w _ _ _ _).1 | exact (four w _ _ _ _).2.1 | exact (four w _ _ _ _).2.2.1
    case ap => clear hw1 hw2 hn1 hn2 hd1 hd2; constructor <;> (dsimp only; (try simp only [Array.length_toList]); omega)
    case own => clear hw1 hw2 hn1 hn2 hd1 hd2; rintro b (rfl | rfl | rfl | rfl) <;> (dsimp only; (try simp only [Array.length_toList]); omega)

set_option maxRecDepth 100000 in
set_option maxHeartbeats 2000000 in
theorem New_64 (w : World) (ways ns delay : Nat) (seed : BitVec 64) (hw : 1 ≤ ways ∧ ways ≤ 8) (hn : 1 ≤ ns ∧ ns ≤ 8) (hd : 1 ≤ delay ∧ delay ≤ 64) :
    Calls Try.prog 9 #[.int .i64 64, .int .i64 (ways : Nat), .int .i64 (ns : Nat), .int .i64 (delay : Nat), .int .u64 (U seed)] w fun e w' =>
      ∃ g, e = .returned (.pointer (some ⟨g.c, 0, none⟩)) ∧ Held w' g (newS 64 ways ns delay seed) ∧ Still w w' ∧ ∀ b, g.own b → w.heap.size ≤ b := by
  obtain ⟨hw1, hw2⟩ := hw
  obtain ⟨hn1, hn2⟩ := hn
  obtain ⟨hd1, hd2⟩ := hd
  have hmP : ∀ w, (mkP (.int .i64 (64 * (ways : Int))) (.int .i64 (64 * (ways : Int)))).run Try.prog w = .ok (.slice (some ⟨w.heap.size, 0, none⟩) (64 * ways) (64 * ways)) (w.alloc (.cells (zP (64 * ways)) 69)) := fun w => by
    have := run_mkP w (n := 64 * ways) (by omega)
    simpa using this
  have hmS : ∀ w, (mkS (.int .i64 (ns : Int)) (.int .i64 (ns : Int))).run Try.prog w = .ok (.slice (some ⟨w.heap.size, 0, none⟩) ns ns) (w.alloc (.cells (zS ns) 72)) := fun w => run_mkS w (by omega)
  have f1 : ¬ (ways : Int) < 1 := by omega
  have f2 : ¬ (8 : Int) < ways := by omega
  have f3 : ¬ (ns : Int) < 1 := by omega
  have f4 : ¬ (8 : Int) < ns := by omega
  have f5 : ¬ (delay : Int) < 1 := by omega
  have f6 : ¬ (64 : Int) < delay := by omega
  have hfine : Fine 64 ways ns delay := ⟨by decide, ⟨hw1, hw2⟩, ⟨hn1, hn2⟩, ⟨hd1, hd2⟩⟩
  have hfine := hide hfine
  have hmm := @run_makeMap Try.prog
  have hwp : IntKind.i64.wrap (64 * (ways : Int)) = (64 * (ways : Int)) := by rw [IntKind.wrap_i64]; omega
  go_enter Try.func9, Try.ntmps9
  go_wp2
  go_region
  all_goals
    clear hmP hmS hmm hwp f1 f2 f3 f4 f5 f6
    go_wp2
    go_ret
    refine ⟨⟨_, _, _, _, _, _⟩, rfl, held_new hfine.out (by omega) (four w _ _ _ _).2.2.2 ?ha ?hm ?hs ?ap, still4 w _ _ _ _, ?own⟩
    case ha => first | exact (four w _ _ _ _).1 | exact (four w _ _ _ _).2.1 | exact (four w _ _ _ _).2.2.1
    case hm => first | exact (four w _ _ _ _).1 | exact (four w _ _ _ _).2.1 | exact (four w _ _ _ _).2.2.1
    case hs => first | exact (four w _ _ _ _).1 | exact (four w _ _ _ _).2.1 | exact (four w _ _ _ _).2.2.1
    case ap => clear hw1 hw2 hn1 hn2 hd1 hd2; constructor <;> (dsimp only; (try simp only [Array.length_toList]); omega)
    case own => clear hw1 hw2 hn1 hn2 hd1 hd2; rintro b (rfl | rfl | rfl | rfl) <;> (dsimp only; (try simp only [Array.length_toList]); omega)
end Go.Proofs.Ytpflodhnniochaa
