/-
  The walks of csr.May and of the document's Fixed and May; the plain law that they agree. (Printed by gen_csrc.py.)
-/
import Derived.Test.YtgkajhpmgeofkaaCsrB
namespace Go.Proofs.Ytgkajhpmgeofkaa
set_option linter.unusedVariables false
open Go.RowKit

def mode3 (m : Int) : Int := if m = 3 ∨ m = 1 then m else 0
def mayC (r : Regs) (m n : Int) (wr : Bool) (k : Int) : Bool :=
  if m < n / 256 % 4 ∨ (wr = true ∧ n / 1024 = 3) then false
  else if k = 2 then U (r.mstatus >>> 13 &&& 3#64) != 0
  else if k = 3 then m == 3 || U (r.mstatus >>> 20 &&& 1#64) == 0
  else if k = 4 then m == 3 || (U (r.mcounteren &&& 1#64 <<< (n % 32).toNat) != 0 && (m == 1 || U (r.scounteren &&& 1#64 <<< (n % 32).toNat) != 0))
  else true
def mayS (r : Regs) (m n : Int) (wr : Bool) : Bool := if atK n = 0 then false else mayC r (mode3 m) n wr (atK n)

set_option maxHeartbeats 4000000 in
theorem May_m0 (r : Regs) (m n : Int) (wr : Bool) (w : World) (c : Hid (∀ w, Calls Try.prog 22 #[.int .i64 n] w fun e w' => e = .returned (.int .i64 0) ∧ w = w'))  :
    Calls Try.prog 12 #[.agg (C r), .int .i64 3, .int .i64 n, .bool wr] w fun e w' => e = .returned (.bool (false)) ∧ More w w' := by
  have h32 : 0 ≤ n % 32 := Int.emod_nonneg _ (by decide)
  go_enter Try.func12, Try.ntmps12
  go_wp2_with fail
  refine (c.out _).mono ?_; rintro e w' ⟨rfl, rfl⟩
  go_wp2_with fail
  all_goals
    go_ret
    refine ⟨ret1 (bool_eq ?_), (More.refl _).alloc _⟩
    first | rfl | (simp_all [mayC]; done) | (simp_all [mayC]; omega)

set_option maxHeartbeats 4000000 in
theorem May_m1 (r : Regs) (m n : Int) (wr : Bool) (w : World) (c : Hid (∀ w, Calls Try.prog 22 #[.int .i64 n] w fun e w' => e = .returned (.int .i64 1) ∧ w = w'))  :
    Calls Try.prog 12 #[.agg (C r), .int .i64 3, .int .i64 n, .bool wr] w fun e w' => e = .returned (.bool (mayC r 3 n wr 1)) ∧ More w w' := by
  have h32 : 0 ≤ n % 32 := Int.emod_nonneg _ (by decide)
  go_enter Try.func12, Try.ntmps12
  go_wp2_with fail
  refine (c.out _).mono ?_; rintro e w' ⟨rfl, rfl⟩
  go_wp2_with fail
  all_goals
    go_ret
    refine ⟨ret1 (bool_eq ?_), (More.refl _).alloc _⟩
    first | rfl | (simp_all [mayC]; done) | (simp_all [mayC]; omega)

set_option maxHeartbeats 4000000 in
theorem May_m2 (r : Regs) (m n : Int) (wr : Bool) (w : World) (c : Hid (∀ w, Calls Try.prog 22 #[.int .i64 n] w fun e w' => e = .returned (.int .i64 2) ∧ w = w'))  :
    Calls Try.prog 12 #[.agg (C r), .int .i64 3, .int .i64 n, .bool wr] w fun e w' => e = .returned (.bool (mayC r 3 n wr 2)) ∧ More w w' := by
  have h32 : 0 ≤ n % 32 := Int.emod_nonneg _ (by decide)
  go_enter Try.func12, Try.ntmps12
  go_wp2_with fail
  refine (c.out _).mono ?_; rintro e w' ⟨rfl, rfl⟩
  go_wp2_with fail
  all_goals
    go_ret
    refine ⟨ret1 (bool_eq ?_), (More.refl _).alloc _⟩
    first | rfl | (simp_all [mayC]; done) | (simp_all [mayC]; omega)

set_option maxHeartbeats 4000000 in
theorem May_m3 (r : Regs) (m n : Int) (wr : Bool) (w : World) (c : Hid (∀ w, Calls Try.prog 22 #[.int .i64 n] w fun e w' => e = .returned (.int .i64 3) ∧ w = w'))  :
    Calls Try.prog 12 #[.agg (C r), .int .i64 3, .int .i64 n, .bool wr] w fun e w' => e = .returned (.bool (mayC r 3 n wr 3)) ∧ More w w' := by
  have h32 : 0 ≤ n % 32 := Int.emod_nonneg _ (by decide)
  go_enter Try.func12, Try.ntmps12
  go_wp2_with fail
  refine (c.out _).mono ?_; rintro e w' ⟨rfl, rfl⟩
  go_wp2_with fail
  all_goals
    go_ret
    refine ⟨ret1 (bool_eq ?_), (More.refl _).alloc _⟩
    first | rfl | (simp_all [mayC]; done) | (simp_all [mayC]; omega)

set_option maxHeartbeats 4000000 in
theorem May_m4 (r : Regs) (m n : Int) (wr : Bool) (w : World) (c : Hid (∀ w, Calls Try.prog 22 #[.int .i64 n] w fun e w' => e = .returned (.int .i64 4) ∧ w = w'))  :
    Calls Try.prog 12 #[.agg (C r), .int .i64 3, .int .i64 n, .bool wr] w fun e w' => e = .returned (.bool (mayC r 3 n wr 4)) ∧ More w w' := by
  have h32 : 0 ≤ n % 32 := Int.emod_nonneg _ (by decide)
  go_enter Try.func12, Try.ntmps12
  go_wp2_with fail
  refine (c.out _).mono ?_; rintro e w' ⟨rfl, rfl⟩
  go_wp2_with fail
  all_goals
    go_ret
    refine ⟨ret1 (bool_eq ?_), (More.refl _).alloc _⟩
    first | rfl | (simp_all [mayC]; done) | (simp_all [mayC]; omega)

set_option maxHeartbeats 4000000 in
theorem May_m5 (r : Regs) (m n : Int) (wr : Bool) (w : World) (c : Hid (∀ w, Calls Try.prog 22 #[.int .i64 n] w fun e w' => e = .returned (.int .i64 5) ∧ w = w'))  :
    Calls Try.prog 12 #[.agg (C r), .int .i64 3, .int .i64 n, .bool wr] w fun e w' => e = .returned (.bool (mayC r 3 n wr 5)) ∧ More w w' := by
  have h32 : 0 ≤ n % 32 := Int.emod_nonneg _ (by decide)
  go_enter Try.func12, Try.ntmps12
  go_wp2_with fail
  refine (c.out _).mono ?_; rintro e w' ⟨rfl, rfl⟩
  go_wp2_with fail
  all_goals
    go_ret
    refine ⟨ret1 (bool_eq ?_), (More.refl _).alloc _⟩
    first | rfl | (simp_all [mayC]; done) | (simp_all [mayC]; omega)

set_option maxHeartbeats 4000000 in
theorem May_s0 (r : Regs) (m n : Int) (wr : Bool) (w : World) (c : Hid (∀ w, Calls Try.prog 22 #[.int .i64 n] w fun e w' => e = .returned (.int .i64 0) ∧ w = w'))  :
    Calls Try.prog 12 #[.agg (C r), .int .i64 1, .int .i64 n, .bool wr] w fun e w' => e = .returned (.bool (false)) ∧ More w w' := by
  have h32 : 0 ≤ n % 32 := Int.emod_nonneg _ (by decide)
  go_enter Try.func12, Try.ntmps12
  go_wp2_with fail
  refine (c.out _).mono ?_; rintro e w' ⟨rfl, rfl⟩
  go_wp2_with fail
  all_goals
    go_ret
    refine ⟨ret1 (bool_eq ?_), (More.refl _).alloc _⟩
    first | rfl | (simp_all [mayC]; done) | (simp_all [mayC]; omega)

set_option maxHeartbeats 4000000 in
theorem May_s1 (r : Regs) (m n : Int) (wr : Bool) (w : World) (c : Hid (∀ w, Calls Try.prog 22 #[.int .i64 n] w fun e w' => e = .returned (.int .i64 1) ∧ w = w'))  :
    Calls Try.prog 12 #[.agg (C r), .int .i64 1, .int .i64 n, .bool wr] w fun e w' => e = .returned (.bool (mayC r 1 n wr 1)) ∧ More w w' := by
  have h32 : 0 ≤ n % 32 := Int.emod_nonneg _ (by decide)
  go_enter Try.func12, Try.ntmps12
  go_wp2_with fail
  refine (c.out _).mono ?_; rintro e w' ⟨rfl, rfl⟩
  go_wp2_with fail
  all_goals
    go_ret
    refine ⟨ret1 (bool_eq ?_), (More.refl _).alloc _⟩
    first | rfl | (simp_all [mayC]; done) | (simp_all [mayC]; omega)

set_option maxHeartbeats 4000000 in
theorem May_s2 (r : Regs) (m n : Int) (wr : Bool) (w : World) (c : Hid (∀ w, Calls Try.prog 22 #[.int .i64 n] w fun e w' => e = .returned (.int .i64 2) ∧ w = w'))  :
    Calls Try.prog 12 #[.agg (C r), .int .i64 1, .int .i64 n, .bool wr] w fun e w' => e = .returned (.bool (mayC r 1 n wr 2)) ∧ More w w' := by
  have h32 : 0 ≤ n % 32 := Int.emod_nonneg _ (by decide)
  go_enter Try.func12, Try.ntmps12
  go_wp2_with fail
  refine (c.out _).mono ?_; rintro e w' ⟨rfl, rfl⟩
  go_wp2_with fail
  all_goals
    go_ret
    refine ⟨ret1 (bool_eq ?_), (More.refl _).alloc _⟩
    first | rfl | (simp_all [mayC]; done) | (simp_all [mayC]; omega)

set_option maxHeartbeats 4000000 in
theorem May_s3 (r : Regs) (m n : Int) (wr : Bool) (w : World) (c : Hid (∀ w, Calls Try.prog 22 #[.int .i64 n] w fun e w' => e = .returned (.int .i64 3) ∧ w = w'))  :
    Calls Try.prog 12 #[.agg (C r), .int .i64 1, .int .i64 n, .bool wr] w fun e w' => e = .returned (.bool (mayC r 1 n wr 3)) ∧ More w w' := by
  have h32 : 0 ≤ n % 32 := Int.emod_nonneg _ (by decide)
  go_enter Try.func12, Try.ntmps12
  go_wp2_with fail
  refine (c.out _).mono ?_; rintro e w' ⟨rfl, rfl⟩
  go_wp2_with fail
  all_goals
    go_ret
    refine ⟨ret1 (bool_eq ?_), (More.refl _).alloc _⟩
    first | rfl | (simp_all [mayC]; done) | (simp_all [mayC]; omega)

set_option maxHeartbeats 4000000 in
theorem May_s4 (r : Regs) (m n : Int) (wr : Bool) (w : World) (c : Hid (∀ w, Calls Try.prog 22 #[.int .i64 n] w fun e w' => e = .returned (.int .i64 4) ∧ w = w'))  :
    Calls Try.prog 12 #[.agg (C r), .int .i64 1, .int .i64 n, .bool wr] w fun e w' => e = .returned (.bool (mayC r 1 n wr 4)) ∧ More w w' := by
  have h32 : 0 ≤ n % 32 := Int.emod_nonneg _ (by decide)
  go_enter Try.func12, Try.ntmps12
  go_wp2_with fail
  refine (c.out _).mono ?_; rintro e w' ⟨rfl, rfl⟩
  go_wp2_with fail
  all_goals
    go_ret
    refine ⟨ret1 (bool_eq ?_), (More.refl _).alloc _⟩
    first | rfl | (simp_all [mayC]; done) | (simp_all [mayC]; omega)

set_option maxHeartbeats 4000000 in
theorem May_s5 (r : Regs) (m n : Int) (wr : Bool) (w : World) (c : Hid (∀ w, Calls Try.prog 22 #[.int .i64 n] w fun e w' => e = .returned (.int .i64 5) ∧ w = w'))  :
    Calls Try.prog 12 #[.agg (C r), .int .i64 1, .int .i64 n, .bool wr] w fun e w' => e = .returned (.bool (mayC r 1 n wr 5)) ∧ More w w' := by
  have h32 : 0 ≤ n % 32 := Int.emod_nonneg _ (by decide)
  go_enter Try.func12, Try.ntmps12
  go_wp2_with fail
  refine (c.out _).mono ?_; rintro e w' ⟨rfl, rfl⟩
  go_wp2_with fail
  all_goals
    go_ret
    refine ⟨ret1 (bool_eq ?_), (More.refl _).alloc _⟩
    first | rfl | (simp_all [mayC]; done) | (simp_all [mayC]; omega)

set_option maxHeartbeats 4000000 in
theorem May_u0 (r : Regs) (m n : Int) (wr : Bool) (w : World) (c : Hid (∀ w, Calls Try.prog 22 #[.int .i64 n] w fun e w' => e = .returned (.int .i64 0) ∧ w = w')) (h3 : (m != 3) = true) (h1 : (m != 1) = true) :
    Calls Try.prog 12 #[.agg (C r), .int .i64 m, .int .i64 n, .bool wr] w fun e w' => e = .returned (.bool (false)) ∧ More w w' := by
  have h32 : 0 ≤ n % 32 := Int.emod_nonneg _ (by decide)
  go_enter Try.func12, Try.ntmps12
  go_wp2_with fail
  refine (c.out _).mono ?_; rintro e w' ⟨rfl, rfl⟩
  go_wp2_with fail
  all_goals
    go_ret
    refine ⟨ret1 (bool_eq ?_), (More.refl _).alloc _⟩
    first | rfl | (simp_all [mayC]; done) | (simp_all [mayC]; omega)

set_option maxHeartbeats 4000000 in
theorem May_u1 (r : Regs) (m n : Int) (wr : Bool) (w : World) (c : Hid (∀ w, Calls Try.prog 22 #[.int .i64 n] w fun e w' => e = .returned (.int .i64 1) ∧ w = w')) (h3 : (m != 3) = true) (h1 : (m != 1) = true) :
    Calls Try.prog 12 #[.agg (C r), .int .i64 m, .int .i64 n, .bool wr] w fun e w' => e = .returned (.bool (mayC r 0 n wr 1)) ∧ More w w' := by
  have h32 : 0 ≤ n % 32 := Int.emod_nonneg _ (by decide)
  go_enter Try.func12, Try.ntmps12
  go_wp2_with fail
  refine (c.out _).mono ?_; rintro e w' ⟨rfl, rfl⟩
  go_wp2_with fail
  all_goals
    go_ret
    refine ⟨ret1 (bool_eq ?_), (More.refl _).alloc _⟩
    first | rfl | (simp_all [mayC]; done) | (simp_all [mayC]; omega)

set_option maxHeartbeats 4000000 in
theorem May_u2 (r : Regs) (m n : Int) (wr : Bool) (w : World) (c : Hid (∀ w, Calls Try.prog 22 #[.int .i64 n] w fun e w' => e = .returned (.int .i64 2) ∧ w = w')) (h3 : (m != 3) = true) (h1 : (m != 1) = true) :
    Calls Try.prog 12 #[.agg (C r), .int .i64 m, .int .i64 n, .bool wr] w fun e w' => e = .returned (.bool (mayC r 0 n wr 2)) ∧ More w w' := by
  have h32 : 0 ≤ n % 32 := Int.emod_nonneg _ (by decide)
  go_enter Try.func12, Try.ntmps12
  go_wp2_with fail
  refine (c.out _).mono ?_; rintro e w' ⟨rfl, rfl⟩
  go_wp2_with fail
  all_goals
    go_ret
    refine ⟨ret1 (bool_eq ?_), (More.refl _).alloc _⟩
    first | rfl | (simp_all [mayC]; done) | (simp_all [mayC]; omega)

set_option maxHeartbeats 4000000 in
theorem May_u3 (r : Regs) (m n : Int) (wr : Bool) (w : World) (c : Hid (∀ w, Calls Try.prog 22 #[.int .i64 n] w fun e w' => e = .returned (.int .i64 3) ∧ w = w')) (h3 : (m != 3) = true) (h1 : (m != 1) = true) :
    Calls Try.prog 12 #[.agg (C r), .int .i64 m, .int .i64 n, .bool wr] w fun e w' => e = .returned (.bool (mayC r 0 n wr 3)) ∧ More w w' := by
  have h32 : 0 ≤ n % 32 := Int.emod_nonneg _ (by decide)
  go_enter Try.func12, Try.ntmps12
  go_wp2_with fail
  refine (c.out _).mono ?_; rintro e w' ⟨rfl, rfl⟩
  go_wp2_with fail
  all_goals
    go_ret
    refine ⟨ret1 (bool_eq ?_), (More.refl _).alloc _⟩
    first | rfl | (simp_all [mayC]; done) | (simp_all [mayC]; omega)

set_option maxHeartbeats 4000000 in
theorem May_u4 (r : Regs) (m n : Int) (wr : Bool) (w : World) (c : Hid (∀ w, Calls Try.prog 22 #[.int .i64 n] w fun e w' => e = .returned (.int .i64 4) ∧ w = w')) (h3 : (m != 3) = true) (h1 : (m != 1) = true) :
    Calls Try.prog 12 #[.agg (C r), .int .i64 m, .int .i64 n, .bool wr] w fun e w' => e = .returned (.bool (mayC r 0 n wr 4)) ∧ More w w' := by
  have h32 : 0 ≤ n % 32 := Int.emod_nonneg _ (by decide)
  go_enter Try.func12, Try.ntmps12
  go_wp2_with fail
  refine (c.out _).mono ?_; rintro e w' ⟨rfl, rfl⟩
  go_wp2_with fail
  all_goals
    go_ret
    refine ⟨ret1 (bool_eq ?_), (More.refl _).alloc _⟩
    first | rfl | (simp_all [mayC]; done) | (simp_all [mayC]; omega)

set_option maxHeartbeats 4000000 in
theorem May_u5 (r : Regs) (m n : Int) (wr : Bool) (w : World) (c : Hid (∀ w, Calls Try.prog 22 #[.int .i64 n] w fun e w' => e = .returned (.int .i64 5) ∧ w = w')) (h3 : (m != 3) = true) (h1 : (m != 1) = true) :
    Calls Try.prog 12 #[.agg (C r), .int .i64 m, .int .i64 n, .bool wr] w fun e w' => e = .returned (.bool (mayC r 0 n wr 5)) ∧ More w w' := by
  have h32 : 0 ≤ n % 32 := Int.emod_nonneg _ (by decide)
  go_enter Try.func12, Try.ntmps12
  go_wp2_with fail
  refine (c.out _).mono ?_; rintro e w' ⟨rfl, rfl⟩
  go_wp2_with fail
  all_goals
    go_ret
    refine ⟨ret1 (bool_eq ?_), (More.refl _).alloc _⟩
    first | rfl | (simp_all [mayC]; done) | (simp_all [mayC]; omega)

theorem May_any (r : Regs) (m n : Int) (wr : Bool) (w : World) : Calls Try.prog 12 #[.agg (C r), .int .i64 m, .int .i64 n, .bool wr] w fun e w' => e = .returned (.bool (mayS r m n wr)) ∧ More w w' := by
  have c := fun w => at_any n w
  have hk : atK n = 0 ∨ atK n = 1 ∨ atK n = 2 ∨ atK n = 3 ∨ atK n = 4 ∨ atK n = 5 := by
    unfold atK; (repeat' split) <;> simp
  unfold mayS
  by_cases m3 : m = 3
  · subst m3
    rcases hk with h | h | h | h | h | h <;> rw [h] at c ⊢
    · exact May_m0 r 0 n wr w c
    · exact May_m1 r 0 n wr w c
    · exact May_m2 r 0 n wr w c
    · exact May_m3 r 0 n wr w c
    · exact May_m4 r 0 n wr w c
    · exact May_m5 r 0 n wr w c
  by_cases m1 : m = 1
  · subst m1
    rcases hk with h | h | h | h | h | h <;> rw [h] at c ⊢
    · exact May_s0 r 0 n wr w c
    · exact May_s1 r 0 n wr w c
    · exact May_s2 r 0 n wr w c
    · exact May_s3 r 0 n wr w c
    · exact May_s4 r 0 n wr w c
    · exact May_s5 r 0 n wr w c
  · have e : mode3 m = 0 := by simp [mode3, m3, m1]
    rw [e]
    rcases hk with h | h | h | h | h | h <;> rw [h] at c ⊢
    · exact May_u0 r m n wr w c (by simpa using m3) (by simpa using m1)
    · exact May_u1 r m n wr w c (by simpa using m3) (by simpa using m1)
    · exact May_u2 r m n wr w c (by simpa using m3) (by simpa using m1)
    · exact May_u3 r m n wr w c (by simpa using m3) (by simpa using m1)
    · exact May_u4 r m n wr w c (by simpa using m3) (by simpa using m1)
    · exact May_u5 r m n wr w c (by simpa using m3) (by simpa using m1)

theorem Fixed_any (n : Int) (w : World) : Calls Try.prog 24 #[.int .i64 n] w fun e w' => e = .returned (.bool (n / 1024 % 4 == 3)) ∧ w = w' := by
  go_enter Try.func24, Try.ntmps24
  go_wp2
  go_ret
  exact ⟨rfl, rfl⟩

/-- The document's answer, where there is a register, the mode one of three. -/
def rmayC (r : Regs) (m n : Int) (wr : Bool) : Bool :=
  if m < n / 256 % 4 ∨ (wr = true ∧ (n / 1024 % 4 == 3) = true) then false
  else if n ≤ 3 then U (r.mstatus &&& 24576#64) != 0
  else if n = 384 then m == 3 || U (r.mstatus >>> 20 &&& 1#64) == 0
  else if 3072 ≤ n ∧ n ≤ 3103 then m == 3 || (U (r.mcounteren >>> (n % 32).toNat &&& 1#64) == 1 && (m == 1 || U (r.scounteren >>> (n % 32).toNat &&& 1#64) == 1))
  else true
theorem bcell {W w1 : World} (hb : Below W.heap.size W w1) : (∀ b o, b < W.heap.size → w1.cell? ⟨b, o, none⟩ = W.cell? ⟨b, o, none⟩) ∧ (∀ b o, b < W.heap.size → w1.frozen? ⟨b, o, none⟩ = W.frozen? ⟨b, o, none⟩) :=
  ⟨fun b o h => hb.cell (p := ⟨b, o, none⟩) h, fun b o h => hb.frozen (p := ⟨b, o, none⟩) h⟩

set_option maxHeartbeats 4000000 in
theorem RMay_m_true (r : Regs) (m n : Int) (wr : Bool) (w : World) (ht : Hid (thereB n = true))  :
    Calls Try.prog 13 #[.agg (C r), .int .i64 3, .int .i64 n, .bool wr] w fun e w' => e = .returned (.bool (rmayC r 3 n wr)) ∧ More w w' := by
  have h32 : 0 ≤ n % 32 := Int.emod_nonneg _ (by decide)
  go_enter Try.func13, Try.ntmps13
  go_wp2_with fail
  refine (There_any _ _).mono ?_; rintro e w1 ⟨rfl, l, rfl⟩
  rw [ht.out]
  go_wp2_with (go_at_call 24; refine (Fixed_any _ _).mono ?_; rintro e w' ⟨rfl, rfl⟩)
  all_goals
    go_ret
    refine ⟨ret1 (bool_eq ?_), ((More.refl _).alloc _).more l⟩
    first | rfl | (simp_all [rmayC]; done) | (simp_all [rmayC]; omega) | (unfold rmayC; rw [if_neg (by rintro (hh | ⟨hh, _⟩) <;> (first | omega | (cases hh; done) | (simp_all; done))), if_neg (by omega), if_neg (by omega), if_pos (by omega)]; simp_all; done)

set_option maxHeartbeats 4000000 in
theorem RMay_m_false (r : Regs) (m n : Int) (wr : Bool) (w : World) (ht : Hid (thereB n = false))  :
    Calls Try.prog 13 #[.agg (C r), .int .i64 3, .int .i64 n, .bool wr] w fun e w' => e = .returned (.bool (false)) ∧ More w w' := by
  have h32 : 0 ≤ n % 32 := Int.emod_nonneg _ (by decide)
  go_enter Try.func13, Try.ntmps13
  go_wp2_with fail
  refine (There_any _ _).mono ?_; rintro e w1 ⟨rfl, l, rfl⟩
  rw [ht.out]
  go_wp2_with (go_at_call 24; refine (Fixed_any _ _).mono ?_; rintro e w' ⟨rfl, rfl⟩)
  all_goals
    go_ret
    refine ⟨ret1 (bool_eq ?_), ((More.refl _).alloc _).more l⟩
    first | rfl | (simp_all [rmayC]; done) | (simp_all [rmayC]; omega) | (unfold rmayC; rw [if_neg (by rintro (hh | ⟨hh, _⟩) <;> (first | omega | (cases hh; done) | (simp_all; done))), if_neg (by omega), if_neg (by omega), if_pos (by omega)]; simp_all; done)

set_option maxHeartbeats 4000000 in
theorem RMay_s_true (r : Regs) (m n : Int) (wr : Bool) (w : World) (ht : Hid (thereB n = true))  :
    Calls Try.prog 13 #[.agg (C r), .int .i64 1, .int .i64 n, .bool wr] w fun e w' => e = .returned (.bool (rmayC r 1 n wr)) ∧ More w w' := by
  have h32 : 0 ≤ n % 32 := Int.emod_nonneg _ (by decide)
  go_enter Try.func13, Try.ntmps13
  go_wp2_with fail
  refine (There_any _ _).mono ?_; rintro e w1 ⟨rfl, l, rfl⟩
  rw [ht.out]
  go_wp2_with (go_at_call 24; refine (Fixed_any _ _).mono ?_; rintro e w' ⟨rfl, rfl⟩)
  all_goals
    go_ret
    refine ⟨ret1 (bool_eq ?_), ((More.refl _).alloc _).more l⟩
    first | rfl | (simp_all [rmayC]; done) | (simp_all [rmayC]; omega) | (unfold rmayC; rw [if_neg (by rintro (hh | ⟨hh, _⟩) <;> (first | omega | (cases hh; done) | (simp_all; done))), if_neg (by omega), if_neg (by omega), if_pos (by omega)]; simp_all; done)

set_option maxHeartbeats 4000000 in
theorem RMay_s_false (r : Regs) (m n : Int) (wr : Bool) (w : World) (ht : Hid (thereB n = false))  :
    Calls Try.prog 13 #[.agg (C r), .int .i64 1, .int .i64 n, .bool wr] w fun e w' => e = .returned (.bool (false)) ∧ More w w' := by
  have h32 : 0 ≤ n % 32 := Int.emod_nonneg _ (by decide)
  go_enter Try.func13, Try.ntmps13
  go_wp2_with fail
  refine (There_any _ _).mono ?_; rintro e w1 ⟨rfl, l, rfl⟩
  rw [ht.out]
  go_wp2_with (go_at_call 24; refine (Fixed_any _ _).mono ?_; rintro e w' ⟨rfl, rfl⟩)
  all_goals
    go_ret
    refine ⟨ret1 (bool_eq ?_), ((More.refl _).alloc _).more l⟩
    first | rfl | (simp_all [rmayC]; done) | (simp_all [rmayC]; omega) | (unfold rmayC; rw [if_neg (by rintro (hh | ⟨hh, _⟩) <;> (first | omega | (cases hh; done) | (simp_all; done))), if_neg (by omega), if_neg (by omega), if_pos (by omega)]; simp_all; done)

set_option maxHeartbeats 4000000 in
theorem RMay_u_true (r : Regs) (m n : Int) (wr : Bool) (w : World) (ht : Hid (thereB n = true)) (h3 : (m != 3) = true) (h1 : (m != 1) = true) :
    Calls Try.prog 13 #[.agg (C r), .int .i64 m, .int .i64 n, .bool wr] w fun e w' => e = .returned (.bool (rmayC r 0 n wr)) ∧ More w w' := by
  have h32 : 0 ≤ n % 32 := Int.emod_nonneg _ (by decide)
  go_enter Try.func13, Try.ntmps13
  go_wp2_with fail
  refine (There_any _ _).mono ?_; rintro e w1 ⟨rfl, l, rfl⟩
  rw [ht.out]
  go_wp2_with (go_at_call 24; refine (Fixed_any _ _).mono ?_; rintro e w' ⟨rfl, rfl⟩)
  all_goals
    go_ret
    refine ⟨ret1 (bool_eq ?_), ((More.refl _).alloc _).more l⟩
    first | rfl | (simp_all [rmayC]; done) | (simp_all [rmayC]; omega) | (unfold rmayC; rw [if_neg (by rintro (hh | ⟨hh, _⟩) <;> (first | omega | (cases hh; done) | (simp_all; done))), if_neg (by omega), if_neg (by omega), if_pos (by omega)]; simp_all; done)

set_option maxHeartbeats 4000000 in
theorem RMay_u_false (r : Regs) (m n : Int) (wr : Bool) (w : World) (ht : Hid (thereB n = false)) (h3 : (m != 3) = true) (h1 : (m != 1) = true) :
    Calls Try.prog 13 #[.agg (C r), .int .i64 m, .int .i64 n, .bool wr] w fun e w' => e = .returned (.bool (false)) ∧ More w w' := by
  have h32 : 0 ≤ n % 32 := Int.emod_nonneg _ (by decide)
  go_enter Try.func13, Try.ntmps13
  go_wp2_with fail
  refine (There_any _ _).mono ?_; rintro e w1 ⟨rfl, l, rfl⟩
  rw [ht.out]
  go_wp2_with (go_at_call 24; refine (Fixed_any _ _).mono ?_; rintro e w' ⟨rfl, rfl⟩)
  all_goals
    go_ret
    refine ⟨ret1 (bool_eq ?_), ((More.refl _).alloc _).more l⟩
    first | rfl | (simp_all [rmayC]; done) | (simp_all [rmayC]; omega) | (unfold rmayC; rw [if_neg (by rintro (hh | ⟨hh, _⟩) <;> (first | omega | (cases hh; done) | (simp_all; done))), if_neg (by omega), if_neg (by omega), if_pos (by omega)]; simp_all; done)

theorem RMay_any (r : Regs) (m n : Int) (wr : Bool) (w : World) : Calls Try.prog 13 #[.agg (C r), .int .i64 m, .int .i64 n, .bool wr] w fun e w' => e = .returned (.bool (thereB n && rmayC r (mode3 m) n wr)) ∧ More w w' := by
  rcases ht : thereB n with _ | _
  · rw [Bool.false_and]
    by_cases m3 : m = 3
    · subst m3; exact RMay_m_false r 0 n wr w ht
    by_cases m1 : m = 1
    · subst m1; exact RMay_s_false r 0 n wr w ht
    exact RMay_u_false r m n wr w ht (by simpa using m3) (by simpa using m1)
  · rw [Bool.true_and]
    by_cases m3 : m = 3
    · subst m3; exact RMay_m_true r 0 n wr w ht
    by_cases m1 : m = 1
    · subst m1; exact RMay_s_true r 0 n wr w ht
    have e : mode3 m = 0 := by simp [mode3, m3, m1]
    rw [e]
    exact RMay_u_true r m n wr w ht (by simpa using m3) (by simpa using m1)


/-! They agree -/
theorem there_at (n : Int) : thereB n = !(decide (atK n = 0)) := by
  rw [Bool.eq_iff_iff]
  simp only [thereB, nums, inRanges, List.contains_cons, List.contains_nil, Bool.or_eq_true, Bool.and_eq_true, beq_iff_eq, decide_eq_true_eq, Bool.not_eq_true', decide_eq_false_iff_not, Bool.false_eq_true, or_false]
  unfold atK
  (repeat' split) <;> omega
theorem at_small (n : Int) (h : atK n ≠ 0) : 0 ≤ n ∧ n ≤ 4095 := by
  unfold atK at h
  (repeat' (split at h)) <;> omega
theorem at_float (n : Int) (h : atK n ≠ 0) : atK n = 2 ↔ n ≤ 3 := by
  unfold atK at *
  (repeat' split) <;> (first | omega | (simp_all; done) | (simp_all; omega))
theorem at_paging (n : Int) : atK n = 3 ↔ n = 384 := by
  unfold atK
  (repeat' split) <;> omega
theorem at_counter (n : Int) : atK n = 4 ↔ 3072 ≤ n ∧ n ≤ 3103 := by
  unfold atK
  (repeat' split) <;> omega
theorem and_shl (x c : BitVec 64) (k : Nat) : x &&& c <<< k = (x >>> k &&& c) <<< k := by
  apply BitVec.eq_of_getLsbD_eq
  intro i hi
  simp only [BitVec.getLsbD_and, BitVec.getLsbD_shiftLeft, BitVec.getLsbD_ushiftRight, hi, decide_true, Bool.true_and]
  by_cases h : i < k
  · simp [h]
  · have e : k + (i - k) = i := by omega
    simp [h, e]
theorem shl_zero {y : BitVec 64} {k m : Nat} (hy : y.toNat < 2 ^ m) (hm : m + k ≤ 64) : y <<< k = 0#64 ↔ y = 0#64 := by
  constructor
  · intro h
    have h1 : (y <<< k).toNat = 0 := by rw [h]; rfl
    rw [BitVec.toNat_shiftLeft, Nat.shiftLeft_eq] at h1
    have hk : y.toNat * 2 ^ k < 2 ^ 64 := Nat.lt_of_lt_of_le (Nat.mul_lt_mul_of_pos_right hy (Nat.two_pow_pos k)) (by rw [← Nat.pow_add]; exact Nat.pow_le_pow_right (by decide) hm)
    rw [Nat.mod_eq_of_lt hk] at h1
    have h2 : y.toNat = 0 := by
      rcases Nat.mul_eq_zero.1 h1 with h2 | h2
      · exact h2
      · have := Nat.two_pow_pos k; omega
    exact BitVec.eq_of_toNat_eq (by simpa using h2)
  · intro h; rw [h]; simp
theorem and3_lt (y : BitVec 64) : (y &&& 3#64).toNat < 2 ^ 2 := by
  rw [BitVec.toNat_and]
  have : y.toNat &&& 3 = y.toNat % 4 := Nat.and_two_pow_sub_one_eq_mod y.toNat 2
  show y.toNat &&& 3 < 4
  omega
theorem and1_lt (y : BitVec 64) : (y &&& 1#64).toNat < 2 ^ 1 := by
  rw [BitVec.toNat_and]
  have : y.toNat &&& 1 = y.toNat % 2 := Nat.and_two_pow_sub_one_eq_mod y.toNat 1
  show y.toNat &&& 1 < 2
  omega
theorem fs_same (x : BitVec 64) : (U (x &&& 24576#64) != 0) = (U (x >>> 13 &&& 3#64) != 0) := by
  have e1 : (U (x &&& 24576#64) != 0) = (x &&& 24576#64 != 0#64) := U_bne _ 0#64
  have e2 : (U (x >>> 13 &&& 3#64) != 0) = (x >>> 13 &&& 3#64 != 0#64) := U_bne _ 0#64
  have e3 : 24576#64 = 3#64 <<< 13 := by decide
  rw [e1, e2, e3, and_shl, Bool.eq_iff_iff, bne_iff_ne, bne_iff_ne]
  exact not_congr (shl_zero (and3_lt _) (by decide))
theorem bit_same (x : BitVec 64) (k : Nat) (hk : k < 64) : (U (x &&& 1#64 <<< k) != 0) = (U (x >>> k &&& 1#64) == 1) := by
  have e1 : (U (x &&& 1#64 <<< k) != 0) = (x &&& 1#64 <<< k != 0#64) := U_bne _ 0#64
  have e2 : (U (x >>> k &&& 1#64) == 1) = (x >>> k &&& 1#64 == 1#64) := U_beq _ 1#64
  rw [e1, e2, and_shl, Bool.eq_iff_iff, bne_iff_ne, beq_iff_eq]
  have h := and1_lt (x >>> k)
  have hz := shl_zero h (show 1 + k ≤ 64 by omega)
  rw [ne_eq, hz]
  generalize x >>> k &&& 1#64 = y at *
  constructor
  · intro hn
    apply BitVec.eq_of_toNat_eq
    have : y.toNat ≠ 0 := fun e => hn (BitVec.eq_of_toNat_eq (by simpa using e))
    simp; omega
  · intro e; rw [e]; decide
theorem may_same (r : Regs) (m n : Int) (wr : Bool) : (thereB n && rmayC r (mode3 m) n wr) = mayS r m n wr := by
  rw [there_at]
  unfold mayS
  by_cases h0 : atK n = 0
  · simp [h0]
  · have hs := at_small n h0
    have hf := at_float n h0
    have hp := at_paging n
    have hc := at_counter n
    have hk : (n % 32).toNat < 64 := by omega
    have hx : (n / 1024 % 4 == 3) = true ↔ n / 1024 = 3 := by rw [beq_iff_eq]; omega
    simp only [h0, decide_false, Bool.not_false, Bool.true_and, if_false]
    unfold rmayC mayC
    simp only [hx]
    rw [fs_same, ← bit_same _ _ hk, ← bit_same _ _ hk]
    by_cases c1 : mode3 m < n / 256 % 4 ∨ wr = true ∧ n / 1024 = 3
    · rw [if_pos c1, if_pos c1]
    · rw [if_neg c1, if_neg c1]
      by_cases c2 : atK n = 2
      · rw [if_pos c2, if_pos (hf.1 c2)]
      · rw [if_neg c2, if_neg (mt hf.2 c2)]
        by_cases c3 : atK n = 3
        · rw [if_pos c3, if_pos (hp.1 c3)]
        · rw [if_neg c3, if_neg (mt hp.2 c3)]
          by_cases c4 : atK n = 4
          · rw [if_pos c4, if_pos (hc.1 c4)]
          · rw [if_neg c4, if_neg (mt hc.2 c4)]

end Go.Proofs.Ytgkajhpmgeofkaa