/-
  Unit, Latency: ours and the reference's.
-/
import Derived.Test.YtaeggnnijafooaaIssueB
namespace Go.Proofs.Ytaeggnnijafooaa
set_option linter.unusedVariables false
open Go.RowKit Go.Maps

/-- An instruction. -/
structure Ix where
  kind : Int
  rd : Int
  rs1 : Int
  rs2 : Int
  rs3 : Int
  rm : Int
  csr : Int
  size : Int
  imm : Int
  useImm : Bool
  unsigned : Bool
  word : Bool
def ixV (x : Ix) : Value := .agg #[.int .i64 x.kind, .int .i64 x.rd, .int .i64 x.rs1, .int .i64 x.rs2, .int .i64 x.rs3, .int .i64 x.rm, .int .i64 x.csr, .int .i64 x.size, .int .i64 x.imm, .bool x.useImm, .bool x.unsigned, .bool x.word]
def isMul (k : Int) : Bool := decide (23 ≤ k) && decide (k ≤ 26)
def isDiv (k : Int) : Bool := decide (27 ≤ k) && decide (k ≤ 30)
def isMem (k : Int) : Bool := decide (k = 11) || decide (k = 12) || (decide (38 ≤ k) && decide (k ≤ 48)) || decide (k = 53) || decide (k = 54)
def isFpu (k : Int) : Bool := decide (55 ≤ k) && decide (k ≤ 77)
def unitOf (k : Int) : Int := if isMul k then 1 else if isDiv k then 2 else if isMem k then 4 else if isFpu k then 3 else 0
theorem unit_1 {k : Int} (h : 23 ≤ k ∧ k ≤ 26) : unitOf k = 1 := by
  have : isMul k = true := by unfold isMul; simp; omega
  unfold unitOf; rw [this]; rfl
theorem unit_2 {k : Int} (h : 27 ≤ k ∧ k ≤ 30) : unitOf k = 2 := by
  have h1 : isMul k = false := by unfold isMul; simp; omega
  have h2 : isDiv k = true := by unfold isDiv; simp; omega
  unfold unitOf; rw [h1, h2]; rfl
theorem unit_4 {k : Int} (h : k = 11 ∨ k = 12 ∨ (38 ≤ k ∧ k ≤ 48) ∨ k = 53 ∨ k = 54) : unitOf k = 4 := by
  have h1 : isMul k = false := by unfold isMul; simp; omega
  have h2 : isDiv k = false := by unfold isDiv; simp; omega
  have h3 : isMem k = true := by unfold isMem; simp; omega
  unfold unitOf; rw [h1, h2, h3]; rfl
theorem unit_3 {k : Int} (h : 55 ≤ k ∧ k ≤ 77) : unitOf k = 3 := by
  have h1 : isMul k = false := by unfold isMul; simp; omega
  have h2 : isDiv k = false := by unfold isDiv; simp; omega
  have h3 : isMem k = false := by unfold isMem; simp; omega
  have h4 : isFpu k = true := by unfold isFpu; simp; omega
  unfold unitOf; rw [h1, h2, h3, h4]; rfl
theorem unit_0 {k : Int} (h : k < 11 ∨ (12 < k ∧ k < 23) ∨ (30 < k ∧ k < 38) ∨ (48 < k ∧ k < 53) ∨ 77 < k) : unitOf k = 0 := by
  have h1 : isMul k = false := by unfold isMul; simp; omega
  have h2 : isDiv k = false := by unfold isDiv; simp; omega
  have h3 : isMem k = false := by unfold isMem; simp; omega
  have h4 : isFpu k = false := by unfold isFpu; simp; omega
  unfold unitOf; rw [h1, h2, h3, h4]; rfl
theorem ret_i {a b : Int} (h : b = a) : Ending.returned (.int .i64 a) = Ending.returned (.int .i64 b) := by rw [h]
set_option maxRecDepth 100000 in
set_option maxHeartbeats 4000000 in
theorem Unit_any (w : World) (x : Ix) : Calls Try.prog 22 #[ixV x] w fun e w' =>
    e = .returned (.int .i64 (unitOf x.kind)) ∧ Still w w' := by
  unfold ixV
  go_enter Try.func22, Try.ntmps22
  go_wp2_with fail
  all_goals
    go_ret
    refine ⟨ret_i ?_, (Kept.refl _ w).alloc _⟩
    try simp only [beq_iff_eq, beq_eq_false_iff_ne] at *
    first | exact unit_1 (by omega) | exact unit_2 (by omega) | exact unit_4 (by omega) | exact unit_3 (by omega) | exact unit_0 (by omega) | (exfalso; omega)
def latOf (x : Ix) : Int :=
  if unitOf x.kind = 1 then 3 else if unitOf x.kind = 2 then (if x.word = true then 12 else 20) else if unitOf x.kind = 4 then 2 else if unitOf x.kind = 3 then (if x.kind ≠ 58 ∧ x.kind ≠ 59 then 4 else if x.size = 8 then 24 else 14) else 1
theorem unit_ways (k : Int) : unitOf k = 1 ∨ unitOf k = 2 ∨ unitOf k = 4 ∨ unitOf k = 3 ∨ unitOf k = 0 := by
  unfold unitOf
  split
  · simp
  · split
    · simp
    · split
      · simp
      · split <;> simp
theorem lat_1 {x : Ix} (h : unitOf x.kind = 1) : latOf x = 3 := by unfold latOf; rw [h]; rfl
theorem lat_2 {x : Ix} (h : unitOf x.kind = 2) (hw : x.word = true) : latOf x = 12 := by unfold latOf; rw [h, hw]; rfl
theorem lat_2n {x : Ix} (h : unitOf x.kind = 2) (hw : x.word = false) : latOf x = 20 := by unfold latOf; rw [h, hw]; rfl
theorem lat_4 {x : Ix} (h : unitOf x.kind = 4) : latOf x = 2 := by unfold latOf; rw [h]; rfl
theorem lat_0 {x : Ix} (h : unitOf x.kind = 0) : latOf x = 1 := by unfold latOf; rw [h]; rfl
theorem lat_3 {x : Ix} (h : unitOf x.kind = 3) (hk : x.kind ≠ 58 ∧ x.kind ≠ 59) : latOf x = 4 := by unfold latOf; rw [h]; simp [hk]
theorem lat_3l {x : Ix} (h : unitOf x.kind = 3) (hk : x.kind = 58 ∨ x.kind = 59) (hs : x.size = 8) : latOf x = 24 := by unfold latOf; rw [h]; simp [hs]; omega
theorem lat_3s {x : Ix} (h : unitOf x.kind = 3) (hk : x.kind = 58 ∨ x.kind = 59) (hs : x.size ≠ 8) : latOf x = 14 := by unfold latOf; rw [h]; simp [hs]; omega
set_option maxRecDepth 100000 in
set_option maxHeartbeats 4000000 in
theorem Latency_any (w : World) (x : Ix) : Calls Try.prog 24 #[ixV x] w fun e w' =>
    e = .returned (.int .i64 (latOf x)) ∧ Still w w' := by
  unfold ixV
  go_enter Try.func24, Try.ntmps24
  go_wp2_with fail
  go_at_call 22
  refine (Unit_any _ x).mono ?_
  rintro e w1 ⟨rfl, hk1⟩
  have k1 : Still w w1 := ((Kept.refl _ w).alloc _).trans hk1
  have hw : ∀ o v, (w.alloc (.cells #[.int .i64 x.kind, .int .i64 x.rd, .int .i64 x.rs1, .int .i64 x.rs2, .int .i64 x.rs3, .int .i64 x.rm, .int .i64 x.csr, .int .i64 x.size, .int .i64 x.imm, .bool x.useImm, .bool x.unsigned, .bool x.word] 42)).cell? ⟨w.heap.size, o, none⟩ = some v → w1.cell? ⟨w.heap.size, o, none⟩ = some v := fun o v h => hk1.cell h (fun e => e)
  have x0 := hw 0 (.int .i64 x.kind) (by simp)
  have x7 := hw 7 (.int .i64 x.size) (by simp)
  have x11 := hw 11 (.bool x.word) (by simp)
  have hu := unit_ways x.kind
  have hl1 := @lat_1 x
  have hl2 := @lat_2 x
  have hl2n := @lat_2n x
  have hl4 := @lat_4 x
  have hl0 := @lat_0 x
  have hl3 := @lat_3 x
  have hl3l := @lat_3l x
  have hl3s := @lat_3s x
  clear hw hk1
  generalize unitOf x.kind = u at *
  rcases hu with rfl | rfl | rfl | rfl | rfl
  · have hl := hide (hl1 rfl)
    clear hl1 hl2 hl2n hl4 hl0 hl3 hl3l hl3s
    go_wp2
    go_ret
    exact ⟨ret_i hl.out, k1⟩
  · have hl := hide (hl2 rfl)
    have hl' := hide (hl2n rfl)
    clear hl1 hl2 hl2n hl4 hl0 hl3 hl3l hl3s
    cases hwd : x.word
    · rw [hwd] at x11
      go_wp2
      go_ret
      exact ⟨ret_i (hl'.out hwd), k1⟩
    · rw [hwd] at x11
      go_wp2
      go_ret
      exact ⟨ret_i (hl.out hwd), k1⟩
  · have hl := hide (hl4 rfl)
    clear hl1 hl2 hl2n hl4 hl0 hl3 hl3l hl3s
    go_wp2
    go_ret
    exact ⟨ret_i hl.out, k1⟩
  · have hl := hide (hl3 rfl)
    have hl' := hide (hl3l rfl)
    have hl'' := hide (hl3s rfl)
    clear hl1 hl2 hl2n hl4 hl0 hl3 hl3l hl3s
    by_cases h58 : x.kind = 58
    · rw [h58] at x0
      by_cases h8 : x.size = 8
      · rw [h8] at x7
        go_wp2
        go_ret
        exact ⟨ret_i (hl'.out (.inl h58) h8), k1⟩
      · go_wp2
        go_ret
        exact ⟨ret_i (hl''.out (.inl h58) h8), k1⟩
    · by_cases h59 : x.kind = 59
      · rw [h59] at x0
        by_cases h8 : x.size = 8
        · rw [h8] at x7
          go_wp2
          go_ret
          exact ⟨ret_i (hl'.out (.inr h59) h8), k1⟩
        · go_wp2
          go_ret
          exact ⟨ret_i (hl''.out (.inr h59) h8), k1⟩
      · have n58 : (x.kind != 58) = true := by simpa using h58
        have n59 : (x.kind != 59) = true := by simpa using h59
        go_wp2
        go_ret
        exact ⟨ret_i (hl.out ⟨h58, h59⟩), k1⟩
  · have hl := hide (hl0 rfl)
    clear hl1 hl2 hl2n hl4 hl0 hl3 hl3l hl3s
    go_wp2
    go_ret
    exact ⟨ret_i hl.out, k1⟩
set_option maxRecDepth 100000 in
set_option maxHeartbeats 4000000 in
theorem UnitR_any (w : World) (x : Ix) : Calls Try.prog 23 #[ixV x] w fun e w' =>
    e = .returned (.int .i64 (unitOf x.kind)) ∧ Still w w' := by
  unfold ixV
  go_enter Try.func23, Try.ntmps23
  go_wp2_with fail
  all_goals
    go_ret
    refine ⟨ret_i ?_, (Kept.refl _ w).alloc _⟩
    try simp only [beq_iff_eq, beq_eq_false_iff_ne] at *
    first | exact unit_1 (by omega) | exact unit_2 (by omega) | exact unit_4 (by omega) | exact unit_3 (by omega) | exact unit_0 (by omega) | (exfalso; omega)
set_option maxRecDepth 100000 in
set_option maxHeartbeats 4000000 in
theorem LatencyR_any (w : World) (x : Ix) : Calls Try.prog 25 #[ixV x] w fun e w' =>
    e = .returned (.int .i64 (latOf x)) ∧ Still w w' := by
  unfold ixV
  go_enter Try.func25, Try.ntmps25
  go_wp2_with fail
  go_at_call 23
  refine (UnitR_any _ x).mono ?_
  rintro e w1 ⟨rfl, hk1⟩
  have k1 : Still w w1 := ((Kept.refl _ w).alloc _).trans hk1
  have hw : ∀ o v, (w.alloc (.cells #[.int .i64 x.kind, .int .i64 x.rd, .int .i64 x.rs1, .int .i64 x.rs2, .int .i64 x.rs3, .int .i64 x.rm, .int .i64 x.csr, .int .i64 x.size, .int .i64 x.imm, .bool x.useImm, .bool x.unsigned, .bool x.word] 42)).cell? ⟨w.heap.size, o, none⟩ = some v → w1.cell? ⟨w.heap.size, o, none⟩ = some v := fun o v h => hk1.cell h (fun e => e)
  have x0 := hw 0 (.int .i64 x.kind) (by simp)
  have x7 := hw 7 (.int .i64 x.size) (by simp)
  have x11 := hw 11 (.bool x.word) (by simp)
  have hu := unit_ways x.kind
  have hl1 := @lat_1 x
  have hl2 := @lat_2 x
  have hl2n := @lat_2n x
  have hl4 := @lat_4 x
  have hl0 := @lat_0 x
  have hl3 := @lat_3 x
  have hl3l := @lat_3l x
  have hl3s := @lat_3s x
  clear hw hk1
  generalize unitOf x.kind = u at *
  rcases hu with rfl | rfl | rfl | rfl | rfl
  · have hl := hide (hl1 rfl)
    clear hl1 hl2 hl2n hl4 hl0 hl3 hl3l hl3s
    go_wp2
    all_goals (go_ret; exact ⟨ret_i hl.out, k1⟩)
  · have hl := hide (hl2 rfl)
    have hl' := hide (hl2n rfl)
    clear hl1 hl2 hl2n hl4 hl0 hl3 hl3l hl3s
    cases hwd : x.word
    · rw [hwd] at x11
      go_wp2
      all_goals (go_ret; exact ⟨ret_i (hl'.out hwd), k1⟩)
    · rw [hwd] at x11
      go_wp2
      all_goals (go_ret; exact ⟨ret_i (hl.out hwd), k1⟩)
  · have hl := hide (hl4 rfl)
    clear hl1 hl2 hl2n hl4 hl0 hl3 hl3l hl3s
    go_wp2
    all_goals (go_ret; exact ⟨ret_i hl.out, k1⟩)
  · have hl := hide (hl3 rfl)
    have hl' := hide (hl3l rfl)
    have hl'' := hide (hl3s rfl)
    clear hl1 hl2 hl2n hl4 hl0 hl3 hl3l hl3s
    by_cases h58 : x.kind = 58
    · rw [h58] at x0
      by_cases h8 : x.size = 8
      · rw [h8] at x7
        go_wp2
        all_goals (go_ret; exact ⟨ret_i (hl'.out (.inl h58) h8), k1⟩)
      · go_wp2
        all_goals (go_ret; exact ⟨ret_i (hl''.out (.inl h58) h8), k1⟩)
    · by_cases h59 : x.kind = 59
      · rw [h59] at x0
        by_cases h8 : x.size = 8
        · rw [h8] at x7
          go_wp2
          all_goals (go_ret; exact ⟨ret_i (hl'.out (.inr h59) h8), k1⟩)
        · go_wp2
          all_goals (go_ret; exact ⟨ret_i (hl''.out (.inr h59) h8), k1⟩)
      · have n58 : (x.kind != 58) = true := by simpa using h58
        have n59 : (x.kind != 59) = true := by simpa using h59
        have m58 : (x.kind == 58) = false := by simpa using h58
        have m59 : (x.kind == 59) = false := by simpa using h59
        go_wp2
        all_goals (go_ret; exact ⟨ret_i (hl.out ⟨h58, h59⟩), k1⟩)
  · have hl := hide (hl0 rfl)
    clear hl1 hl2 hl2n hl4 hl0 hl3 hl3l hl3s
    go_wp2
    all_goals (go_ret; exact ⟨ret_i hl.out, k1⟩)
end Go.Proofs.Ytaeggnnijafooaa
