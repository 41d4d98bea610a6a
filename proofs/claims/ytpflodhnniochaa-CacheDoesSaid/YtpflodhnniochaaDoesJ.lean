/-
  The reference's New.
-/
import Derived.Test.YtpflodhnniochaaDoesI
import Derived.Deep.AppendLies
import Derived.Deep.RegionLaw
namespace Go.Proofs.Ytpflodhnniochaa
set_option linter.unusedVariables false
open Go.RowKit Go.Maps

theorem powB_fine {sets ways ns delay : Nat} (h : Fine sets ways ns delay) : powB (sets : Int) = true := by
  unfold powB
  rw [decide_eq_true_iff]
  have := h.sets
  omega
theorem infoRow : (Try.prog.info? 61).map (fun i => (i.zero, i.size, i.bytes)) = some (some (.slice none 0 0), 1, 24) := by kernel_rfl
attribute [local go_sem ↓] mkL_eq
set_option maxRecDepth 100000 in
set_option maxHeartbeats 8000000 in
theorem NewR_fine (w : World) {sets ways ns delay : Nat} (hfine : Fine sets ways ns delay) (seed : BitVec 64) :
    Calls Try.prog 10 #[.int .i64 (sets : Nat), .int .i64 (ways : Nat), .int .i64 (ns : Nat), .int .i64 (delay : Nat), .int .u64 (U seed)] w fun e w' =>
      ∃ g : R, e = .returned (.pointer (some ⟨g.c, 0, none⟩)) ∧ HeldR w' g (newS sets ways ns delay seed) ∧ Still w w' ∧ ∀ b, g.own sets b → w.heap.size ≤ b := by
  obtain ⟨i0, hi, hz0, hz1, hz2⟩ := info_parts infoRow
  have hp := powB_fine hfine
  have hsl : 1 ≤ sets ∧ sets ≤ 64 := (ok_new (seed := seed) hfine).sets_le
  obtain ⟨hw1, hw2⟩ := hfine.ways
  obtain ⟨hn1, hn2⟩ := hfine.ns
  obtain ⟨hd1, hd2⟩ := hfine.delay
  have f1 : decide ((ways : Int) < 1) = false := by simp; omega
  have f2 : decide ((8 : Int) < ways) = false := by simp; omega
  have f3 : decide ((ns : Int) < 1) = false := by simp; omega
  have f4 : decide ((8 : Int) < ns) = false := by simp; omega
  have f5 : decide ((delay : Int) < 1) = false := by simp; omega
  have f6 : decide ((64 : Int) < delay) = false := by simp; omega
  have hmS : ∀ w, (mkL (.int .i64 (ns : Int)) (.int .i64 (ns : Int))).run Try.prog w = .ok (.slice (some ⟨w.heap.size, 0, none⟩) ns ns) (w.alloc (.cells (zS ns) 76)) := fun w => run_mkL w (by omega)
  go_enter Try.func10, Try.ntmps10
  go_wp2_with fail
  go_at_call 25
  refine (Power_any w _).mono ?_
  rw [hp]
  rintro e w' ⟨rfl, rfl⟩
  go_wp2_with fail
  have hN0 : NewAt ((w.alloc (.cells (zS ns) 76)).alloc (.cells #[.slice none 0 0, .slice (some ⟨w.heap.size, 0, none⟩) ns ns, .int .i64 (delay : Nat), .int .u64 (U seed)] 64)) w.heap.size (w.heap.size + 1) w.heap.size ns ns delay seed ways 0 (.slice none 0 0) (fun _ => 0) (fun _ => 0) (fun _ _ => ⟨0#64, false, false, 0⟩) (fun _ => ⟨0#64, false, false, 0⟩) :=
    ⟨⟨Nat.le_refl _, Nat.le_succ _, by omega⟩, by have := heap_alloc_new (w.alloc (.cells (zS ns) 76)) (.cells #[.slice none 0 0, .slice (some ⟨w.heap.size, 0, none⟩) ns ns, .int .i64 (delay : Nat), .int .u64 (U seed)] 64); rwa [World.size_alloc] at this,
      (row_zL (heap_alloc_new _ _)).kept (Below.heap_alloc _ _ _ (by simp)), World.ownsRow_nil _ _ _ _, ⟨(by intro e; cases e), (by intro e; cases e)⟩, fun j hj => absurd hj (Nat.not_lt_zero _), fun j k hj => absurd hj (Nat.not_lt_zero _)⟩
  have hS0 : Still w ((w.alloc (.cells (zS ns) 76)).alloc (.cells #[.slice none 0 0, .slice (some ⟨w.heap.size, 0, none⟩) ns ns, .int .i64 (delay : Nat), .int .u64 (U seed)] 64)) := ((Kept.refl _ w).alloc _).alloc _
  clear hmS f1 f2 f3 f4 f5 f6 hp
  generalize (w.alloc (.cells (zS ns) 76)).alloc (.cells #[.slice none 0 0, .slice (some ⟨w.heap.size, 0, none⟩) ns ns, .int .i64 (delay : Nat), .int .u64 (U seed)] 64) = w1 at hN0 hS0 ⊢
  generalize w.heap.size + 1 = cb at hN0 ⊢
  go_loopw [13] (fun iv wr => ∃ (i : Nat) (v : Value) (row kr : Nat → Nat), i ≤ sets ∧ iv = .int .i64 i ∧ NewAt wr w.heap.size cb w.heap.size ns ns delay seed ways i v row kr (fun _ _ => ⟨0#64, false, false, 0⟩) (fun _ => ⟨0#64, false, false, 0⟩) ∧ Still w wr) (fun iv _ => sets - (intOf iv).toNat)
  case atStart => exact ⟨0, _, _, _, Nat.zero_le _, rfl, hN0, hS0⟩
  case round =>
    obtain ⟨i, v, row, kr, hi', rfl, hN, hS⟩ := hrel
    clear hN0 hS0
    by_cases hlt : i < sets
    · have hms := hide (meas_succ2 hlt)
      have hi1 : i + 1 ≤ sets := hlt
      have hb : 0 ≤ (i : Int) := by omega
      have hb2 : (i : Int) < (sets : Int) := by omega
      obtain ⟨c0, cz⟩ := hN.cell0
      have hmW : ∀ w, (mkL (.int .i64 (ways : Int)) (.int .i64 (ways : Int))).run Try.prog w = .ok (.slice (some ⟨w.heap.size, 0, none⟩) ways ways) (w.alloc (.cells (zS ways) 76)) := fun w => run_mkL w (by omega)
      have hcl : cb < wr.heap.size := (Array.getElem?_eq_some_iff.1 hN.c).1
      have K8 : Still wr ((wr.alloc (.cells (zS ways) 76)).alloc (.cells #[.slice (some ⟨wr.heap.size, 0, none⟩) ways ways] 61)).drew := (((Kept.refl _ wr).alloc _).alloc _).drew
      have HO := (hN.still K8).o
      have hsz8 : ((wr.alloc (.cells (zS ways) 76)).alloc (.cells #[.slice (some ⟨wr.heap.size, 0, none⟩) ways ways] 61)).drew.heap.size = wr.heap.size + 1 + 1 := by simp
      have hnews : ∀ j u, ([.slice (some ⟨wr.heap.size, 0, none⟩) ways ways] : List Value)[j]? = some u → ((wr.alloc (.cells (zS ways) 76)).alloc (.cells #[.slice (some ⟨wr.heap.size, 0, none⟩) ways ways] 61)).drew.cell? ((⟨wr.heap.size + 1, 0, none⟩ : Addr).add j) = some u := fun j u hj => by
        have := cell_one (wr.alloc (.cells (zS ways) 76)) (.slice (some ⟨wr.heap.size, 0, none⟩) ways ways) 61 j u hj
        rwa [World.size_alloc] at this
      have q0 : w.heap.size ≤ wr.heap.size := hS.size
      have q3 : w.heap.size ≤ ((wr.alloc (.cells (zS ways) 76)).alloc (.cells #[.slice (some ⟨wr.heap.size, 0, none⟩) ways ways] 61)).drew.heap.size := by rw [hsz8]; omega
      have q1 : i + 1 ≤ maxLen := by rw [maxLen_is]; omega
      have q2 : (i + 1) * 24 ≤ 140737488355328 := by omega
      have hrow8 : Row ((wr.alloc (.cells (zS ways) 76)).alloc (.cells #[.slice (some ⟨wr.heap.size, 0, none⟩) ways ways] 61)).drew wr.heap.size 76 4 ways (slV fun _ => ⟨0#64, false, false, 0⟩) :=
        (row_zL (heap_alloc_new wr _)).kept (Below.heap_alloc _ _ _ (by simp))
      have hcb : ∀ w8, World.grownBy ((wr.alloc (.cells (zS ways) 76)).alloc (.cells #[.slice (some ⟨wr.heap.size, 0, none⟩) ways ways] 61)).drew w8 v.ownBlock → w8.cell? ⟨cb, 0, none⟩ = some v ∧ w8.frozen? ⟨cb, 0, none⟩ = false := fun w8 hg => by
        have hc := ((hg.block cb (by simp; omega) (fun e => hN.vb.1 e.symm)).trans (K8.block cb hcl (fun e => e))).trans hN.c
        exact ⟨by simp [World.cell?, hc], by simp [World.frozen?, hc]⟩
      replace hcb := hide hcb
      replace hN := hide hN
      replace hS := hide hS
      replace hrow8 := hide hrow8
      replace K8 := hide K8
      replace hsz8 := hide hsz8
      go_wp2_with fail
      go_region_law (first
        | (refine step_append_lies _ (by rfl) _ _ 62 (by rfl) w.heap.size 61 i0 _ 1 24 Try.underlying62 hi hz0 hz1 hz2 rfl (by decide) v i _ (by rfl) HO ⟨wr.heap.size + 1, 0, none⟩ 1 1 [.slice (some ⟨wr.heap.size, 0, none⟩) ways ways] (by rfl) rfl hnews (by simp [Value.oneCell']) (by decide) q1 q2 q3 _ hsz8.out ?_; intro g8 cap8 w8 hown8 hg8 hat8 hlt8; obtain ⟨z0, z1⟩ := hcb.out _ hg8))
      all_goals
        have hN9 := hN.out.next (rb := wr.heap.size) (c := ways) q0 (Nat.le_refl _) (by rw [hsz8.out]; omega) K8.out hrow8.out hg8 hown8 (hat8.imp id fun e => e.trans hsz8.out.symm)
        have hS9 : Still w (w8.setCell ⟨cb, 0, none⟩ (.slice (some ⟨g8, 0, none⟩) (i + 1) cap8)) := ((hS.out.trans K8.out).grown hg8 (fun p hp => .inr (World.ownsRow.lt hN.out.o p hp).1)).setCell _ _ (.inr hN.out.lo.2.1)
        replace hN9 := hide hN9
        replace hS9 := hide hS9
        clear hcb hN hS hrow8 K8 HO hsz8 hnews hown8 hg8 hat8 hlt8 z0 z1 c0 cz q1 q2 q3
        go_wp2_with fail
        go_roundw
        case rel => exact ⟨i + 1, _, _, _, hi1, by simp, hN9.out, hS9.out⟩
        case measure => exact hms.out
    · obtain rfl : i = sets := by omega
      obtain ⟨g, rfl, hH, ho⟩ := NewAt.done (s := newS i ways ns delay seed) hN hsl.1
      clear hN
      go_wp2_with fail
      go_ret
      exact ⟨g, rfl, hH, hS, ho⟩
set_option maxRecDepth 100000 in
set_option maxHeartbeats 4000000 in
theorem NewR_bad (w : World) (sets ways ns delay : Int) (seed : BitVec 64) (h : Bad sets ways ns delay) :
    Calls Try.prog 10 #[.int .i64 sets, .int .i64 ways, .int .i64 ns, .int .i64 delay, .int .u64 (U seed)] w fun e w' => e = .returned (.pointer none) ∧ w = w' := by
  cases hp : powB sets
  · go_enter Try.func10, Try.ntmps10
    go_wp2_with fail
    go_at_call 25
    refine (Power_any w _).mono ?_
    rw [hp]
    rintro e w' ⟨rfl, rfl⟩
    go_wp2
    go_ret
    exact ⟨rfl, rfl⟩
  · have h1 : ways < 1 ∨ 8 < ways ∨ ns < 1 ∨ 8 < ns ∨ delay < 1 ∨ 64 < delay := by
      unfold powB at hp
      rw [decide_eq_true_iff] at hp
      exact h.resolve_left (fun e => e hp)
    clear h
    by_cases a0 : ways < 1
    · have b0 : decide (ways < 1) = true := decide_eq_true a0
      clear h1 a0
      go_enter Try.func10, Try.ntmps10
      go_wp2_with fail
      go_at_call 25
      refine (Power_any w _).mono ?_
      rw [hp]
      rintro e w' ⟨rfl, rfl⟩
      go_wp2
      go_ret
      exact ⟨rfl, rfl⟩
    by_cases a1 : 8 < ways
    · have b1 : decide (8 < ways) = true := decide_eq_true a1
      have f0 : decide (ways < 1) = false := decide_eq_false a0
      clear h1 a0 a1
      go_enter Try.func10, Try.ntmps10
      go_wp2_with fail
      go_at_call 25
      refine (Power_any w _).mono ?_
      rw [hp]
      rintro e w' ⟨rfl, rfl⟩
      go_wp2
      go_ret
      exact ⟨rfl, rfl⟩
    by_cases a2 : ns < 1
    · have b2 : decide (ns < 1) = true := decide_eq_true a2
      have f0 : decide (ways < 1) = false := decide_eq_false a0
      have f1 : decide (8 < ways) = false := decide_eq_false a1
      clear h1 a0 a1 a2
      go_enter Try.func10, Try.ntmps10
      go_wp2_with fail
      go_at_call 25
      refine (Power_any w _).mono ?_
      rw [hp]
      rintro e w' ⟨rfl, rfl⟩
      go_wp2
      go_ret
      exact ⟨rfl, rfl⟩
    by_cases a3 : 8 < ns
    · have b3 : decide (8 < ns) = true := decide_eq_true a3
      have f0 : decide (ways < 1) = false := decide_eq_false a0
      have f1 : decide (8 < ways) = false := decide_eq_false a1
      have f2 : decide (ns < 1) = false := decide_eq_false a2
      clear h1 a0 a1 a2 a3
      go_enter Try.func10, Try.ntmps10
      go_wp2_with fail
      go_at_call 25
      refine (Power_any w _).mono ?_
      rw [hp]
      rintro e w' ⟨rfl, rfl⟩
      go_wp2
      go_ret
      exact ⟨rfl, rfl⟩
    by_cases a4 : delay < 1
    · have b4 : decide (delay < 1) = true := decide_eq_true a4
      have f0 : decide (ways < 1) = false := decide_eq_false a0
      have f1 : decide (8 < ways) = false := decide_eq_false a1
      have f2 : decide (ns < 1) = false := decide_eq_false a2
      have f3 : decide (8 < ns) = false := decide_eq_false a3
      clear h1 a0 a1 a2 a3 a4
      go_enter Try.func10, Try.ntmps10
      go_wp2_with fail
      go_at_call 25
      refine (Power_any w _).mono ?_
      rw [hp]
      rintro e w' ⟨rfl, rfl⟩
      go_wp2
      go_ret
      exact ⟨rfl, rfl⟩
    by_cases a5 : 64 < delay
    · have b5 : decide (64 < delay) = true := decide_eq_true a5
      have f0 : decide (ways < 1) = false := decide_eq_false a0
      have f1 : decide (8 < ways) = false := decide_eq_false a1
      have f2 : decide (ns < 1) = false := decide_eq_false a2
      have f3 : decide (8 < ns) = false := decide_eq_false a3
      have f4 : decide (delay < 1) = false := decide_eq_false a4
      clear h1 a0 a1 a2 a3 a4 a5
      go_enter Try.func10, Try.ntmps10
      go_wp2_with fail
      go_at_call 25
      refine (Power_any w _).mono ?_
      rw [hp]
      rintro e w' ⟨rfl, rfl⟩
      go_wp2
      go_ret
      exact ⟨rfl, rfl⟩
    exact absurd h1 (by omega)
end Go.Proofs.Ytpflodhnniochaa
