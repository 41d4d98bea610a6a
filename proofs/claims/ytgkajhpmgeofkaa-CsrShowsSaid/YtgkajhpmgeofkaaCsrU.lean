/-
  The walk of CsrShows. (Printed by gen_csru.py.)
-/
import Derived.Test.YtgkajhpmgeofkaaCsrQ
import Derived.Test.YtgkajhpmgeofkaaCsrEq
import Derived.Test.YtgkajhpmgeofkaaWf
import Derived.Deep.RegionHeld3
namespace Go.Proofs.Ytgkajhpmgeofkaa
set_option linter.unusedVariables false
open Go.RowKit

/-- One set of registers, in block b. -/
def One (b : Nat) (r : Regs) (W w : World) : Prop := Below W.heap.size W w ∧ w.heap[b]? = some (.cells (C r) 26 (0, 0))
theorem One.run {b : Nat} {r : Regs} {W w : World} (h : One b r W w) : One b r W w ∧ (ldv (.pointer (some ⟨b, 0, none⟩))).run Try.prog w = .ok (.agg (C r)) w ∧ w.cell? ⟨b, 3, none⟩ = some (.int .u64 (U r.mideleg)) :=
  ⟨h, ld_at h.2, (cell_at 3 h.2).trans (C_get_3 r)⟩
theorem One.more {b : Nat} {r : Regs} {W w w' : World} (h : One b r W w) (m : More w w') : One b r W w' := by
  obtain ⟨l, rfl⟩ := m
  exact ⟨h.1.trans ((below_more l w).mono h.1.size), hM h.2⟩
theorem One.drew {b : Nat} {r : Regs} {W w : World} (h : One b r W w) : One b r W w.drew := ⟨h.1.drew, hD h.2⟩
/-- Three sets. -/
def Three (b g g' : Nat) (r d e : Regs) (W w : World) : Prop :=
  One b r W w ∧ w.heap[g]? = some (.cells (C d) 26 (0, 0)) ∧ w.heap[g']? = some (.cells (C e) 26 (0, 0))
theorem Three.run {b g g' : Nat} {r d e : Regs} {W w : World} (h : Three b g g' r d e W w) : Three b g g' r d e W w ∧ (ldv (.pointer (some ⟨g, 0, none⟩))).run Try.prog w = .ok (.agg (C d)) w ∧
    (ldv (.pointer (some ⟨g', 0, none⟩))).run Try.prog w = .ok (.agg (C e)) w ∧ w.cell? ⟨b, 3, none⟩ = some (.int .u64 (U r.mideleg)) :=
  ⟨h, ld_at h.2.1, ld_at h.2.2, h.1.run.2.2⟩
theorem Three.more {b g g' : Nat} {r d e : Regs} {W w w' : World} (h : Three b g g' r d e W w) (m : More w w') : Three b g g' r d e W w' := by
  have h1 := h.1.more m
  obtain ⟨l, rfl⟩ := m
  exact ⟨h1, hM h.2.1, hM h.2.2⟩
theorem Three.drew {b g g' : Nat} {r d e : Regs} {W w : World} (h : Three b g g' r d e W w) : Three b g g' r d e W w.drew := ⟨h.1.drew, hD h.2.1, hD h.2.2⟩

theorem U_ne {x y : BitVec 64} (h : x = y) : (U x != U y) = false := by rw [h]; simp
theorem U_eq {x y : BitVec 64} (h : x = y) : (U x == U y) = true := by rw [h]; simp

attribute [local irreducible] more
attribute [local go_sem ↓] loadAt_26
set_option maxRecDepth 100000 in
set_option maxHeartbeats 4000000 in
theorem CsrShows_walk (s : Value) (k : Nat) (L : Nat → Int × BitVec 64) (l v : BitVec 64) (w : World) (h : LaysAt w s k L) : Calls Try.prog 8 #[s, .int .u64 (U l), .int .u64 (U v)] w fun e w' => e = .returned (.bool true) ∧ Below w.heap.size w w' := by
  have hleg := hide (legal_held L k)
  have hh : Hid (∀ w' , Below w.heap.size w w' → Calls Try.prog 20 #[s] w' fun e w'' => e = .returned (.agg (C (heldS L k))) ∧ Below w'.heap.size w' w'') := hide fun w' b => held_any s k L w' (h.below b)
  generalize heldS L k = r at *
  clear h
  have hR : Hid (∀ q n w, Calls Try.prog 14 #[.agg (C q), .int .i64 n, .int .u64 (U l), .int .u64 0] w fun e w' => e = .returned (.int .u64 (U (readS q n l 0#64))) ∧ More w w') := hide fun q n w => by
    have t := Read_any q n l 0#64 w
    rw [show U 0#64 = 0 by kernel_rfl] at t
    exact t
  have hR0 : Hid (∀ q n w, Calls Try.prog 14 #[.agg (C q), .int .i64 n, .int .u64 0, .int .u64 0] w fun e w' => e = .returned (.int .u64 (U (readS q n 0#64 0#64))) ∧ More w w') := hide fun q n w => by
    have t := Read_any q n 0#64 0#64 w
    rw [show U 0#64 = 0 by kernel_rfl] at t
    exact t
  have f1 : (U (readS r 256 l 0#64 &&& ~~~readS r 768 l 0#64) != 0) = false := by
    rw [readS_256, readS_768, not_and_self]; rfl
  have f2 : (U (readS r 260 l 0#64) != U (readS r 772 l 0#64 &&& r.mideleg)) = false := U_ne (by rw [readS_260, readS_772])
  have f3 : (U (readS r 324 l 0#64) != U (readS r 836 l 0#64 &&& r.mideleg)) = false := U_ne (by rw [readS_324, readS_836])
  have e1 := hide (show (U ((writeS r 256 v).mstatus &&& 9223372036853964509#64) != U (r.mstatus &&& 9223372036853964509#64)) = false from U_ne (by rw [writeS_256]; exact show_hidden hleg.out.ms v))
  have e2 := hide (show (U ((writeS r 260 v).mie &&& ~~~r.mideleg) != U (r.mie &&& ~~~r.mideleg)) = false from U_ne (by rw [writeS_260]; exact show_sie _ _ _))
  have e3 := hide (show (U ((writeS r 324 v).mip &&& 18446744073709551613#64) != U (r.mip &&& 18446744073709551613#64)) = false from U_ne (by rw [writeS_324]; exact show_sip _ _ _))
  have e4 := hide (show (U (readS (writeS r 256 v) 256 0#64 0#64 &&& 811298#64) == U (v &&& 811298#64)) = true from U_eq (by rw [readS_256, writeS_256]; exact show_read _ _))
  have e5 := hide (show (U (readS (writeS r 260 v) 260 0#64 0#64) == U (v &&& r.mideleg)) = true from U_eq (by rw [readS_260, writeS_260]; exact show_read2 _ _ _))
  clear hleg
  go_enter Try.func8, Try.ntmps8
  go_wp2_with fail
  go_at_call 11
  refine (awake_any _).mono ?_
  rintro e w' ⟨rfl, l0, rfl⟩
  go_wp2_with fail
  go_at_call 20
  refine (hh.out _ (below_more _ _)).mono ?_
  rintro e w1 ⟨rfl, hb1⟩
  have hB0 : Below w.heap.size w w1 := (below_more l0 w).trans (hb1.mono (below_more l0 w).size)
  have h1 : One w1.heap.size r w (w1.alloc (.cells (C r) 26)) := ⟨hB0.alloc hB0.size _, hA rfl⟩
  clear hb1 hB0 hh
  go_wp2_with (first
    | refine alloc26 rfl rfl ?_
    | (refine store26 rfl _ _ rfl _ rfl _ rfl _ _ (hA rfl) rfl ?_; rw [setRow_new _ _ _ _ _ rfl]; generalize w1.alloc (.cells (C r) 26) = wr at *))
  generalize w1.heap.size = b at *
  refine Code.wp_mono (Q := AtEnd fun a w' => ∃ (x3 x4 x5 x8 x9 x10 x11 x12 x13 x14 x15 x16 x17 x18 x19 x20 x21 x22 x23 x24 x25 x26 x27 x28 x29 x30 x31 x32 x33 x34 x35 x36 x37 x38 x39 x40 x41 x42 x43 x44 x45 x46 x48 x49 x50 x51 x52 x53 x54 x55 x56 x57 x58 x59 x60 x61 x62 x63 x64 x65 x66 x67 x68 x69 x70 x71 x72 x73 x74 x75 x76 x77 x78 x79 x80 x81 x82 x83 x84 x85 x86 x87 x88 x89 x90 x91 x92 x93 x94 x95 x96 x97 x98 x99 x100 x101 x102 : Value), a = ⟨#[s, .int .u64 (U l), .int .u64 (U v), x3, x4, x5, .bool false, .pointer (some ⟨b, 0, none⟩), x8, x9, x10, x11, x12, x13, x14, x15, x16, x17, x18, x19, x20, x21, x22, x23, x24, x25, x26, x27, x28, x29, x30, x31, x32, x33, x34, x35, x36, x37, x38, x39, x40, x41, x42, x43, x44, x45, x46, .bool false, x48, x49, x50, x51, x52, x53, x54, x55, x56, x57, x58, x59, x60, x61, x62, x63, x64, x65, x66, x67, x68, x69, x70, x71, x72, x73, x74, x75, x76, x77, x78, x79, x80, x81, x82, x83, x84, x85, x86, x87, x88, x89, x90, x91, x92, x93, x94, x95, x96, x97, x98, x99, x100, x101, x102], []⟩ ∧ One b r w w') ?imp ?reg
  case reg =>
    clear e1 e2 e3 e4 e5

    go_region_held3 (fun w' => One b r w w' ∧ (ldv (.pointer (some ⟨b, 0, none⟩))).run Try.prog w' = .ok (.agg (C r)) w' ∧ w'.cell? ⟨b, 3, none⟩ = some (.int .u64 (U r.mideleg)))
      (first | exact (One.drew h1).run | exact (One.more (And.left (by assumption)) hm).run)
      (first
      | (go_at_call 14; refine (hR.out _ _ _).mono ?_; rintro e w' ⟨rfl, hm⟩))
    all_goals exact ⟨_, _, _, _, _, _, _, _, _, _, _, _, _, _, _, _, _, _, _, _, _, _, _, _, _, _, _, _, _, _, _, _, _, _, _, _, _, _, _, _, _, _, _, _, _, _, _, _, _, _, _, _, _, _, _, _, _, _, _, _, _, _, _, _, _, _, _, _, _, _, _, _, _, _, _, _, _, _, _, _, _, _, _, _, _, _, _, _, _, _, _, _, _, _, _, _, _, rfl, And.left (by assumption)⟩
  case imp =>
    refine atEnd_imp ?_
    clear f1 f2 f3 h1 hR
    rintro a w4 ⟨x3, x4, x5, x8, x9, x10, x11, x12, x13, x14, x15, x16, x17, x18, x19, x20, x21, x22, x23, x24, x25, x26, x27, x28, x29, x30, x31, x32, x33, x34, x35, x36, x37, x38, x39, x40, x41, x42, x43, x44, x45, x46, x48, x49, x50, x51, x52, x53, x54, x55, x56, x57, x58, x59, x60, x61, x62, x63, x64, x65, x66, x67, x68, x69, x70, x71, x72, x73, x74, x75, x76, x77, x78, x79, x80, x81, x82, x83, x84, x85, x86, x87, x88, x89, x90, x91, x92, x93, x94, x95, x96, x97, x98, x99, x100, x101, x102, rfl, h1⟩
    go_wp2_with (refine load26 rfl _ rfl _ rfl _ _ h1.2 ?_)
    refine (Write_any r 256 v _).mono ?_
    rintro e w' ⟨rfl, m1, rfl⟩
    go_wp2_with (first
      | refine alloc26 rfl rfl ?_
      | (refine store26 rfl _ _ rfl _ rfl _ rfl _ _ (hA (by simp [size_more])) rfl ?_; rw [setRow_new _ _ _ _ _ (by simp [size_more])])
      | refine load26 rfl _ rfl _ rfl _ _ (hP (hM h1.2)) ?_)
    refine (Write_any r 260 v _).mono ?_
    rintro e w' ⟨rfl, m2, rfl⟩
    go_wp2_with (first
      | refine alloc26 rfl rfl ?_
      | (refine store26 rfl _ _ rfl _ rfl _ rfl _ _ (hA (by simp [size_more])) rfl ?_; rw [setRow_new _ _ _ _ _ (by simp [size_more])])
      | refine load26 rfl _ rfl _ rfl _ _ (hP (hM (hP (hM h1.2)))) ?_)
    refine (Write_any r 324 v _).mono ?_
    rintro e w' ⟨rfl, m3, rfl⟩
    have hM : More w4 ((more ((more ((more w4 m1).alloc (.cells (C (writeS r 256 v)) 26)) m2).alloc (.cells (C (writeS r 260 v)) 26)) m3).alloc (.cells (C (writeS r 324 v)) 26)) := (((((((More.refl w4).more m1).alloc _).more m2).alloc _).more m3).alloc _)
    have H0 := h1.more hM
    have H1 : ((more ((more ((more w4 m1).alloc (.cells (C (writeS r 256 v)) 26)) m2).alloc (.cells (C (writeS r 260 v)) 26)) m3).alloc (.cells (C (writeS r 324 v)) 26)).heap[w4.heap.size + m1.length]? = some (.cells (C (writeS r 256 v)) 26 (0, 0)) := hP (Go.Proofs.Ytgkajhpmgeofkaa.hM (hP (Go.Proofs.Ytgkajhpmgeofkaa.hM (hA (by simp [size_more])))))
    have H2 : ((more ((more ((more w4 m1).alloc (.cells (C (writeS r 256 v)) 26)) m2).alloc (.cells (C (writeS r 260 v)) 26)) m3).alloc (.cells (C (writeS r 324 v)) 26)).heap[w4.heap.size + m1.length + 1 + m2.length]? = some (.cells (C (writeS r 260 v)) 26 (0, 0)) := hP (Go.Proofs.Ytgkajhpmgeofkaa.hM (hA (by simp [size_more])))
    have H3 : ((more ((more ((more w4 m1).alloc (.cells (C (writeS r 256 v)) 26)) m2).alloc (.cells (C (writeS r 260 v)) 26)) m3).alloc (.cells (C (writeS r 324 v)) 26)).heap[w4.heap.size + m1.length + 1 + m2.length + 1 + m3.length]? = some (.cells (C (writeS r 324 v)) 26 (0, 0)) := hA (by simp [size_more])
    clear hM
    have e1 := e1.out
    have e2 := e2.out
    have e3 := e3.out
    have e4 := e4.out
    have e5 := e5.out
    generalize writeS r 256 v = d at *
    generalize writeS r 260 v = c at *
    generalize writeS r 324 v = f at *
    have hT : Three b (w4.heap.size + m1.length) (w4.heap.size + m1.length + 1 + m2.length) r d c w _ := ⟨H0, H1, H2⟩
    have k0 : ∀ k, World.cell? _ ⟨b, k, none⟩ = (C r)[k]? := fun k => cell_at k H0.2
    have k1 : ∀ k, World.cell? _ ⟨w4.heap.size + m1.length, k, none⟩ = (C d)[k]? := fun k => cell_at k H1
    have k2 : ∀ k, World.cell? _ ⟨w4.heap.size + m1.length + 1 + m2.length, k, none⟩ = (C c)[k]? := fun k => cell_at k H2
    have k3 : ∀ k, World.cell? _ ⟨w4.heap.size + m1.length + 1 + m2.length + 1 + m3.length, k, none⟩ = (C f)[k]? := fun k => cell_at k H3
    clear H0 H1 H2 H3
    go_wp2_with (first
      | refine alloc26 rfl rfl ?_
      | (refine store26 rfl _ _ rfl _ rfl _ rfl _ _ (hA (by simp [size_more])) rfl ?_; rw [setRow_new _ _ _ _ _ (by simp [size_more])]; generalize (more ((more ((more w4 m1).alloc (.cells (C d) 26)) m2).alloc (.cells (C c) 26)) m3).alloc (.cells (C f) 26) = wx at *))
    clear k0 k1 k2 k3 e1 e2 e3
    go_region_held3 (fun w' => Three b (w4.heap.size + m1.length) (w4.heap.size + m1.length + 1 + m2.length) r d c w w' ∧ (ldv (.pointer (some ⟨w4.heap.size + m1.length, 0, none⟩))).run Try.prog w' = .ok (.agg (C d)) w' ∧
        (ldv (.pointer (some ⟨w4.heap.size + m1.length + 1 + m2.length, 0, none⟩))).run Try.prog w' = .ok (.agg (C c)) w' ∧ w'.cell? ⟨b, 3, none⟩ = some (.int .u64 (U r.mideleg)))
      (first | exact (Three.drew hT).run | exact (Three.more (And.left (by assumption)) hm).run)
      (first
      | (go_at_call 14; refine (hR0.out _ _ _).mono ?_; rintro e w' ⟨rfl, hm⟩))
    all_goals
      go_wp2
      go_ret
      exact ⟨rfl, (And.left (a := Three b (w4.heap.size + m1.length) (w4.heap.size + m1.length + 1 + m2.length) r d c w _) (by assumption)).1.1⟩
theorem CsrShows_walk' (s : Value) (k : Nat) (L : Nat → Int × BitVec 64) (l v : Int) (hl : (Lit.int .u64 l).wf = true) (hv : (Lit.int .u64 v).wf = true) (w : World) (h : LaysAt w s k L) : Calls Try.prog 8 #[s, .int .u64 l, .int .u64 v] w fun e w' => e = .returned (.bool true) ∧ Below w.heap.size w w' := by
  rw [U_of_wf hl, U_of_wf hv]
  exact CsrShows_walk s k L _ _ w h
end Go.Proofs.Ytgkajhpmgeofkaa
