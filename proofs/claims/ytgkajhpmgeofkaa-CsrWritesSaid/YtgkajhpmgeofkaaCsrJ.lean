/-
  The walk of awake.
-/
import Derived.Test.YtgkajhpmgeofkaaCsrH
import Derived.Test.YtgkajhpmgeofkaaCsrE
namespace Go.Proofs.Ytgkajhpmgeofkaa
set_option linter.unusedVariables false
open Go.RowKit

theorem hA {w : World} {o : Obj} {n : Nat} (h : n = w.heap.size) : (w.alloc o).heap[n]? = some o := by subst h; exact heap_alloc_new _ _
theorem hM {w : World} {o : Obj} {n : Nat} {l : List Obj} (h : w.heap[n]? = some o) : (more w l).heap[n]? = some o := by
  rw [heap_more _ _ _ (Array.getElem?_eq_some_iff.1 h).1]; exact h
theorem hP {w : World} {o o' : Obj} {n : Nat} (h : w.heap[n]? = some o) : (w.alloc o').heap[n]? = some o := by
  rw [Below.heap_alloc _ _ _ (Array.getElem?_eq_some_iff.1 h).1]; exact h

attribute [local irreducible] more
set_option maxRecDepth 100000 in
set_option maxHeartbeats 1000000 in
theorem awake_walk (z c d : Regs) (w : World)
    (h0 : Hid (∀ w, Calls Try.prog 16 #[] w fun e w' => e = .returned (.agg (C z)) ∧ More w w'))
    (h1 : Hid (∀ w, Calls Try.prog 18 #[.agg (C z), .int .i64 768, .int .u64 18446744073709551615] w fun e w' => e = .returned (.agg (C c)) ∧ More w w'))
    (h2 : Hid (∀ w, Calls Try.prog 18 #[.agg (C c), .int .i64 836, .int .u64 4095] w fun e w' => e = .returned (.agg (C d)) ∧ More w w'))
    (h3 : Hid (∀ w, Calls Try.prog 14 #[.agg (C z), .int .i64 768, .int .u64 0, .int .u64 0] w fun e w' => e = .returned (.int .u64 42949672960) ∧ More w w'))
    (h4 : Hid (∀ w, Calls Try.prog 14 #[.agg (C c), .int .i64 768, .int .u64 0, .int .u64 0] w fun e w' => e = .returned (.int .u64 9223372079812737450) ∧ More w w'))
    (h5 : Hid (∀ w, Calls Try.prog 14 #[.agg (C d), .int .i64 836, .int .u64 2184, .int .u64 0] w fun e w' => e = .returned (.int .u64 2730) ∧ More w w'))
    (h6 : Hid (∀ w, Calls Try.prog 12 #[.agg (C c), .int .i64 3, .int .i64 944, .bool true] w fun e w' => e = .returned (.bool true) ∧ More w w'))
    (h7 : Hid (∀ w, Calls Try.prog 12 #[.agg (C c), .int .i64 3, .int .i64 3860, .bool true] w fun e w' => e = .returned (.bool false) ∧ More w w'))
    (h8 : Hid (∀ w, Calls Try.prog 12 #[.agg (C c), .int .i64 1, .int .i64 768, .bool false] w fun e w' => e = .returned (.bool false) ∧ More w w')) :
    Calls Try.prog 11 #[] w fun e w' => e = .returned (.bool true) ∧ More w w' := by
  go_enter Try.func11, Try.ntmps11
  go_wp2_with (first
    | (go_at_call 16; refine (h0.out _).mono ?_; rintro e w' ⟨rfl, l, rfl⟩)
    | refine alloc26 rfl rfl ?_
    | (refine store26 rfl _ _ rfl _ rfl _ rfl _ _ (hA (by simp [size_more])) rfl ?_; rw [setRow_new _ _ _ _ _ (by simp [size_more])])
    | (refine load26 rfl _ rfl _ rfl _ _ (by repeat (first | (refine hA ?_; simp [size_more]; done) | refine hP ?_ | refine hM ?_)) ?_))
  refine (h1.out _).mono ?_; rintro e w' ⟨rfl, l1, rfl⟩
  go_wp2_with (first
    | (go_at_call 16; refine (h0.out _).mono ?_; rintro e w' ⟨rfl, l, rfl⟩)
    | refine alloc26 rfl rfl ?_
    | (refine store26 rfl _ _ rfl _ rfl _ rfl _ _ (hA (by simp [size_more])) rfl ?_; rw [setRow_new _ _ _ _ _ (by simp [size_more])])
    | (refine load26 rfl _ rfl _ rfl _ _ (by repeat (first | (refine hA ?_; simp [size_more]; done) | refine hP ?_ | refine hM ?_)) ?_))
  refine (h2.out _).mono ?_; rintro e w' ⟨rfl, l2, rfl⟩
  go_wp2_with (first
    | (go_at_call 16; refine (h0.out _).mono ?_; rintro e w' ⟨rfl, l, rfl⟩)
    | refine alloc26 rfl rfl ?_
    | (refine store26 rfl _ _ rfl _ rfl _ rfl _ _ (hA (by simp [size_more])) rfl ?_; rw [setRow_new _ _ _ _ _ (by simp [size_more])])
    | (refine load26 rfl _ rfl _ rfl _ _ (by repeat (first | (refine hA ?_; simp [size_more]; done) | refine hP ?_ | refine hM ?_)) ?_))
  refine (h3.out _).mono ?_; rintro e w' ⟨rfl, l3, rfl⟩
  go_wp2_with (first
    | (go_at_call 16; refine (h0.out _).mono ?_; rintro e w' ⟨rfl, l, rfl⟩)
    | refine alloc26 rfl rfl ?_
    | (refine store26 rfl _ _ rfl _ rfl _ rfl _ _ (hA (by simp [size_more])) rfl ?_; rw [setRow_new _ _ _ _ _ (by simp [size_more])])
    | (refine load26 rfl _ rfl _ rfl _ _ (by repeat (first | (refine hA ?_; simp [size_more]; done) | refine hP ?_ | refine hM ?_)) ?_))
  refine (h4.out _).mono ?_; rintro e w' ⟨rfl, l4, rfl⟩
  go_wp2_with (first
    | (go_at_call 16; refine (h0.out _).mono ?_; rintro e w' ⟨rfl, l, rfl⟩)
    | refine alloc26 rfl rfl ?_
    | (refine store26 rfl _ _ rfl _ rfl _ rfl _ _ (hA (by simp [size_more])) rfl ?_; rw [setRow_new _ _ _ _ _ (by simp [size_more])])
    | (refine load26 rfl _ rfl _ rfl _ _ (by repeat (first | (refine hA ?_; simp [size_more]; done) | refine hP ?_ | refine hM ?_)) ?_))
  refine (h5.out _).mono ?_; rintro e w' ⟨rfl, l5, rfl⟩
  go_wp2_with (first
    | (go_at_call 16; refine (h0.out _).mono ?_; rintro e w' ⟨rfl, l, rfl⟩)
    | refine alloc26 rfl rfl ?_
    | (refine store26 rfl _ _ rfl _ rfl _ rfl _ _ (hA (by simp [size_more])) rfl ?_; rw [setRow_new _ _ _ _ _ (by simp [size_more])])
    | (refine load26 rfl _ rfl _ rfl _ _ (by repeat (first | (refine hA ?_; simp [size_more]; done) | refine hP ?_ | refine hM ?_)) ?_))
  refine (h6.out _).mono ?_; rintro e w' ⟨rfl, l6, rfl⟩
  go_wp2_with (first
    | (go_at_call 16; refine (h0.out _).mono ?_; rintro e w' ⟨rfl, l, rfl⟩)
    | refine alloc26 rfl rfl ?_
    | (refine store26 rfl _ _ rfl _ rfl _ rfl _ _ (hA (by simp [size_more])) rfl ?_; rw [setRow_new _ _ _ _ _ (by simp [size_more])])
    | (refine load26 rfl _ rfl _ rfl _ _ (by repeat (first | (refine hA ?_; simp [size_more]; done) | refine hP ?_ | refine hM ?_)) ?_))
  refine (h7.out _).mono ?_; rintro e w' ⟨rfl, l7, rfl⟩
  go_wp2_with (first
    | (go_at_call 16; refine (h0.out _).mono ?_; rintro e w' ⟨rfl, l, rfl⟩)
    | refine alloc26 rfl rfl ?_
    | (refine store26 rfl _ _ rfl _ rfl _ rfl _ _ (hA (by simp [size_more])) rfl ?_; rw [setRow_new _ _ _ _ _ (by simp [size_more])])
    | (refine load26 rfl _ rfl _ rfl _ _ (by repeat (first | (refine hA ?_; simp [size_more]; done) | refine hP ?_ | refine hM ?_)) ?_))
  refine (h8.out _).mono ?_; rintro e w' ⟨rfl, l8, rfl⟩
  go_wp2_with (first
    | (go_at_call 16; refine (h0.out _).mono ?_; rintro e w' ⟨rfl, l, rfl⟩)
    | refine alloc26 rfl rfl ?_
    | (refine store26 rfl _ _ rfl _ rfl _ rfl _ _ (hA (by simp [size_more])) rfl ?_; rw [setRow_new _ _ _ _ _ (by simp [size_more])])
    | (refine load26 rfl _ rfl _ rfl _ _ (by repeat (first | (refine hA ?_; simp [size_more]; done) | refine hP ?_ | refine hM ?_)) ?_))

  go_ret
  exact ⟨rfl, (((((More.refl w).more _).alloc _).more _).alloc _).more _⟩

def awC : Regs := writeS resetR 768 18446744073709551615#64
def awD : Regs := writeS awC 836 4095#64
theorem awake_any (w : World) : Calls Try.prog 11 #[] w fun e w' => e = .returned (.bool true) ∧ More w w' := by
  have e0 : U 0#64 = 0 := by kernel_rfl
  have e1 : U 18446744073709551615#64 = 18446744073709551615 := by kernel_rfl
  have e2 : U 4095#64 = 4095 := by kernel_rfl
  have e3 : U 2184#64 = 2184 := by kernel_rfl
  have f3 : U (readS resetR 768 0#64 0#64) = 42949672960 := by kernel_rfl
  have f4 : U (readS awC 768 0#64 0#64) = 9223372079812737450 := by kernel_rfl
  have f5 : U (readS awD 836 2184#64 0#64) = 2730 := by kernel_rfl
  have f6 : mayS awC 3 944 true = true := by kernel_rfl
  have f7 : mayS awC 3 3860 true = false := by kernel_rfl
  have f8 : mayS awC 1 768 false = false := by kernel_rfl
  refine awake_walk resetR awC awD w (hide Reset_any) (hide fun w => ?_) (hide fun w => ?_) (hide fun w => ?_) (hide fun w => ?_) (hide fun w => ?_) (hide fun w => ?_) (hide fun w => ?_) (hide fun w => ?_)
  · have h := Write_any resetR 768 18446744073709551615#64 w; rw [e1] at h; exact h
  · have h := Write_any awC 836 4095#64 w; rw [e2] at h; exact h
  · have h := Read_any resetR 768 0#64 0#64 w; rw [e0, f3] at h; exact h
  · have h := Read_any awC 768 0#64 0#64 w; rw [e0, f4] at h; exact h
  · have h := Read_any awD 836 2184#64 0#64 w; rw [e0, e3, f5] at h; exact h
  · have h := May_any awC 3 944 true w; rw [f6] at h; exact h
  · have h := May_any awC 3 3860 true w; rw [f7] at h; exact h
  · have h := May_any awC 1 768 false w; rw [f8] at h; exact h

end Go.Proofs.Ytgkajhpmgeofkaa
