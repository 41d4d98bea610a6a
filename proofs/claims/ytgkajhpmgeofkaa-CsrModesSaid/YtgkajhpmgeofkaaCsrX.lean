/-
  CsrModes: the plain law on mayS, and the walk. (Printed by gen_csrx.py.)
-/
import Derived.Test.YtgkajhpmgeofkaaCsrQ
import Derived.Deep.RegionHeld3
namespace Go.Proofs.Ytgkajhpmgeofkaa
set_option linter.unusedVariables false
open Go.RowKit

theorem may_limit {r : Regs} {m n : Int} {wr : Bool} (h : mayS r m n wr = true) : atK n ≠ 0 ∧ n / 256 % 4 ≤ mode3 m ∧ ¬ (wr = true ∧ n / 1024 = 3) := by
  unfold mayS at h
  by_cases h0 : atK n = 0
  · rw [if_pos h0] at h; cases h
  · rw [if_neg h0] at h
    unfold mayC at h
    by_cases h1 : mode3 m < n / 256 % 4 ∨ (wr = true ∧ n / 1024 = 3)
    · rw [if_pos h1] at h; cases h
    · exact ⟨h0, by omega, fun z => h1 (.inr z)⟩
theorem may_up {r : Regs} {m m' n : Int} {wr wr' : Bool} (hm : (mode3 m = 0 ∧ mode3 m' = 1) ∨ (mode3 m = 1 ∧ mode3 m' = 3) ∨ mode3 m = mode3 m') (hw : wr' = true → wr = true) (h : mayS r m n wr = true) : mayS r m' n wr' = true := by
  obtain ⟨h0, h1, h2⟩ := may_limit h
  have g : ¬ (mode3 m' < n / 256 % 4 ∨ (wr' = true ∧ n / 1024 = 3)) := fun z => z.elim (fun z => by omega) (fun z => h2 ⟨hw z.1, z.2⟩)
  have g0 : ¬ (mode3 m < n / 256 % 4 ∨ (wr = true ∧ n / 1024 = 3)) := fun z => z.elim (fun z => by omega) h2
  unfold mayS mayC at h ⊢
  rw [if_neg h0, if_neg g0] at h
  rw [if_neg h0, if_neg g]
  generalize atK n = k at *
  by_cases k2 : k = 2
  · rw [if_pos k2] at h ⊢; exact h
  rw [if_neg k2] at h ⊢
  by_cases k3 : k = 3
  · rw [if_pos k3] at h ⊢
    rcases hm with ⟨a, b⟩ | ⟨a, b⟩ | a
    · rw [a] at h; rw [b]; simpa using h
    · rw [b]; rfl
    · rw [← a]; exact h
  rw [if_neg k3] at h ⊢
  by_cases k4 : k = 4
  · rw [if_pos k4] at h ⊢
    rcases hm with ⟨a, b⟩ | ⟨a, b⟩ | a
    · rw [a] at h; rw [b]
      simp at h
      simp [h.1]
    · rw [b]; rfl
    · rw [← a]; exact h
  rw [if_neg k4]
theorem may_user {r : Regs} {n : Int} {wr : Bool} (h : mayS r 0 n wr = true) : n / 256 % 4 = 0 := by
  have := (may_limit h).2.1
  have e : mode3 0 = 0 := by decide
  omega
theorem may_super {r : Regs} {n : Int} {wr : Bool} (h : mayS r 1 n wr = true) : n / 256 % 4 ≤ 1 := by
  have := (may_limit h).2.1
  have e : mode3 1 = 1 := by decide
  omega
theorem may_fixed {r : Regs} {n : Int} (h : mayS r 3 n true = true) : n / 1024 % 4 ≠ 3 := by
  obtain ⟨h0, _, h2⟩ := may_limit h
  have := at_small n h0
  intro e
  exact h2 ⟨rfl, by omega⟩
theorem may_none (r : Regs) (n : Int) (l t : BitVec 64) : mayS r 3 n false = true ∨ readS r n l t = 0#64 ∨ (1 ≤ n ∧ n ≤ 3) := by
  by_cases hk : atK n = 0
  · right; left
    have hk : ¬ atK n ≠ 0 := fun z => z hk
    exact readS_none r n l t (fun e => hk (by rw [e]; decide)) (fun e => hk (by rw [e]; decide)) (fun e => hk (by rw [e]; decide)) (fun e => hk (by rw [e]; decide)) (fun e => hk (by rw [e]; decide)) (fun e => hk (by rw [e]; decide)) (fun e => hk (by rw [e]; decide)) (fun e => hk (by rw [e]; decide)) (fun e => hk (by rw [e]; decide)) (fun e => hk (by rw [e]; decide)) (fun e => hk (by rw [e]; decide)) (fun e => hk (by rw [e]; decide)) (fun e => hk (by rw [e]; decide)) (fun e => hk (by rw [e]; decide)) (fun e => hk (by rw [e]; decide)) (fun e => hk (by rw [e]; decide)) (fun e => hk (by rw [e]; decide)) (fun e => hk (by rw [e]; decide)) (fun e => hk (by rw [e]; decide)) (fun e => hk (by rw [e]; decide)) (fun e => hk (by rw [e]; decide)) (fun e => hk (by rw [e]; decide)) (fun e => hk (by rw [e]; decide)) (fun e => hk (by rw [e]; decide)) (fun e => hk (by rw [e]; decide)) (fun e => hk (by rw [e]; decide)) (fun e => hk (by rw [e]; decide)) (fun e => hk (by rw [e]; decide)) (fun e => hk (by rw [e]; decide)) (fun e => hk (by rw [e]; decide)) (fun e => hk (by rw [e]; decide)) (fun e => hk (by rw [e]; decide)) (fun e => hk (by rw [e]; decide)) (fun e => hk (by rw [e]; decide)) (fun e => hk (by rw [e]; decide)) (fun e => hk (by rw [e]; decide)) (fun e => hk (by rw [e]; decide)) (fun e => hk (by rw [e]; decide)) (fun e => hk (by rw [e]; decide)) (fun e => hk (by rw [e]; decide))
  · have e3 : mode3 3 = 3 := by decide
    have g : ¬ (mode3 3 < n / 256 % 4 ∨ (false = true ∧ n / 1024 = 3)) := by rw [e3]; intro z; rcases z with z | z; omega; exact absurd z.1 (by decide)
    by_cases hf : atK n = 2
    · right; right
      have : n = 1 ∨ n = 2 ∨ n = 3 := by
        unfold atK at hf
        (repeat' split at hf) <;> omega
      omega
    · left
      unfold mayS mayC
      rw [if_neg hk, if_neg g, if_neg hf, e3]
      split
      · rfl
      · split <;> rfl


/-- The registers lie in block b, the two bools in block g; nothing older than W was written. -/
def Md (b g : Nat) (r : Regs) (W w : World) : Prop :=
  Below W.heap.size W w ∧ w.heap[b]? = some (.cells (C r) 26 (0, 0)) ∧ w.cell? ⟨g, 0, none⟩ = some (.bool false) ∧ w.cell? ⟨g, 1, none⟩ = some (.bool true)
theorem Md.run {b g : Nat} {r : Regs} {W w : World} (h : Md b g r W w) : Md b g r W w ∧ (ldv (.pointer (some ⟨b, 0, none⟩))).run Try.prog w = .ok (.agg (C r)) w := ⟨h, ld_at h.2.1⟩
theorem cellM {w : World} {a : Addr} {v : Value} {l : List Obj} (h : w.cell? a = some v) (ha : a = ⟨a.block, a.off, none⟩) : (more w l).cell? a = some v := by
  have hb : a.block < w.heap.size := by
    unfold World.cell? at h
    rcases Nat.lt_or_ge a.block w.heap.size with k | k
    · exact k
    · rw [Array.getElem?_eq_none k] at h
      simp at h
  rw [ha] at h ⊢
  rw [cell?_more _ _ _ _ hb]
  exact h
theorem Md.moreL {b g : Nat} {r : Regs} {W w : World} (h : Md b g r W w) (l : List Obj) : Md b g r W (more w l) :=
  ⟨h.1.trans ((below_more l w).mono h.1.size), hM h.2.1, cellM h.2.2.1 rfl, cellM h.2.2.2 rfl⟩
theorem Md.more {b g : Nat} {r : Regs} {W w w' : World} (h : Md b g r W w) (m : More w w') : Md b g r W w' := by
  obtain ⟨l, rfl⟩ := m
  exact h.moreL l
theorem Md.drew {b g : Nat} {r : Regs} {W w : World} (h : Md b g r W w) : Md b g r W w.drew := ⟨h.1.drew, hD h.2.1, h.2.2.1, h.2.2.2⟩

attribute [local irreducible] more
attribute [local go_sem ↓] loadAt_26
set_option maxRecDepth 100000 in
set_option maxHeartbeats 4000000 in
theorem CsrModes_walk (r : Regs) (n : Int) (w : World) : Calls Try.prog 9 #[.agg (C r), .int .i64 n] w fun e w' => e = .returned (.bool true) ∧ Below w.heap.size w w' := by
  obtain ⟨f, hf⟩ : ∃ f : Int → Bool → Bool, f = fun m wr => mayS r m n wr := ⟨_, rfl⟩
  have hMay : Hid (∀ m wr w, Calls Try.prog 12 #[.agg (C r), .int .i64 m, .int .i64 n, .bool wr] w fun e w' => e = .returned (.bool (f m wr)) ∧ More w w') := hide fun m wr w => by
    rw [hf]; exact May_any r m n wr w
  have hRead : Hid (∀ w, Calls Try.prog 14 #[.agg (C r), .int .i64 n, .int .u64 18446744073709551615, .int .u64 18446744073709551615] w fun e w' => e = .returned (.int .u64 (U (readS r n 18446744073709551615#64 18446744073709551615#64))) ∧ More w w') := hide fun w => by
    have t := Read_any r n 18446744073709551615#64 18446744073709551615#64 w
    rw [show U 18446744073709551615#64 = 18446744073709551615 by kernel_rfl] at t
    exact t
  have a1 : ∀ wr, f 0 wr = true → f 1 wr = true := by rw [hf]; exact fun wr h => may_up (.inl ⟨by decide, by decide⟩) id h
  have a2 : ∀ wr, f 1 wr = true → f 3 wr = true := by rw [hf]; exact fun wr h => may_up (.inr (.inl ⟨by decide, by decide⟩)) id h
  have a3 : ∀ wr, f 0 wr = true → n / 256 % 4 = 0 := by rw [hf]; exact fun wr h => may_user h
  have a4 : ∀ wr, f 1 wr = true → n / 256 % 4 ≤ 1 := by rw [hf]; exact fun wr h => may_super h
  have a5 : f 3 true = true → n / 1024 % 4 ≠ 3 := by rw [hf]; exact fun h => may_fixed h
  have a6 : ∀ m, f m true = true → f m false = true := by rw [hf]; exact fun m h => may_up (.inr (.inr rfl)) (fun z => by cases z) h
  have a7 : f 3 false = true ∨ readS r n 18446744073709551615#64 18446744073709551615#64 = 0#64 ∨ (1 ≤ n ∧ n ≤ 3) := by rw [hf]; exact may_none r n _ _
  have A1 := hide a1
  have A2 := hide a2
  have A3 := hide a3
  have A4 := hide a4
  have A5 := hide a5
  have A6 := hide a6
  have A7 := hide a7
  clear hf a1 a2 a3 a4 a5 a6 a7
  go_enter Try.func9, Try.ntmps9
  go_wp2_with fail
  go_at_call 11
  refine (awake_any _).mono ?_
  rintro e w' ⟨rfl, l, rfl⟩
  go_wp2_with fail
  have hmd : Md w.heap.size (w.heap.size + 1 + l.length) r w ((more (w.alloc (.cells (C r) 26)) l).alloc (.cells #[.bool false, .bool true] 4)) := by
    refine ⟨((((Below.refl _ _).alloc (Nat.le_refl _) _).trans ((below_more _ _).mono (by simp))).alloc (by simp [size_more]; omega) _), hP (hM (hA rfl)), ?_, ?_⟩
    · unfold World.cell?; rw [hA (o := .cells #[.bool false, .bool true] 4) (by simp [size_more])]; rfl
    · unfold World.cell?; rw [hA (o := .cells #[.bool false, .bool true] 4) (by simp [size_more])]; rfl
  generalize (more (w.alloc (.cells (C r) 26)) l).alloc (.cells #[.bool false, .bool true] 4) = wr0 at *
  go_loopw [14] (fun iv wr => ∃ j : Nat, j ≤ 2 ∧ iv = .int .i64 j ∧ Md w.heap.size (w.heap.size + 1 + l.length) r w wr) (fun iv _ => 2 - (intOf iv).toNat)
  case atStart => exact ⟨0, by omega, rfl, hmd⟩
  case round =>
    clear hmd
    obtain ⟨j, hj, rfl, hmd⟩ := hrel
    have hq0 := hmd.2.2.1
    have hq1 := hmd.2.2.2
    obtain rfl | rfl | rfl : j = 0 ∨ j = 1 ∨ j = 2 := by omega
    · go_wp2_with fail
      go_region_held3 (fun w' => Md w.heap.size (w.heap.size + 1 + l.length) r w w' ∧ (ldv (.pointer (some ⟨w.heap.size, 0, none⟩))).run Try.prog w' = .ok (.agg (C r)) w')
        (first | exact (Md.drew hmd).run | exact (Md.more (And.left (by assumption)) hm).run)
        (first
        | (go_at_call 12; refine (hMay.out _ _ _).mono ?_; rintro e w' ⟨rfl, hm⟩))
      rename_i hS6
      have hmd := hS6.1
      clear hS6
      by_cases u : f 0 false = true
      · have s := A1.out _ u
        have m := A2.out _ s
        have t1 : (n / 256 % 4 != 0) = false := by rw [A3.out _ u]; rfl
        have t2 : ¬ 1 < n / 256 % 4 := by have := A3.out _ u; omega
        
        
        
        go_wp2_with (first
          | (go_at_call 12; refine (hMay.out _ _ _).mono ?_; rintro e w' ⟨rfl, mm, rfl⟩)
          | refine load26 rfl _ rfl _ rfl _ _ (by first | exact hmd.2.1 | exact hM hmd.2.1) ?_)
        go_roundw
        case rel => exact ⟨1, by omega, by go_num, by first | exact hmd | exact hmd.moreL _⟩
        case measure => simp [intOf]
      have u : f 0 false = false := by simpa using u
      by_cases s : f 1 false = true
      · have m := A2.out _ s
        have t2 : ¬ 1 < n / 256 % 4 := by have := A4.out _ s; omega
        
        
        go_wp2_with (first
          | (go_at_call 12; refine (hMay.out _ _ _).mono ?_; rintro e w' ⟨rfl, mm, rfl⟩)
          | refine load26 rfl _ rfl _ rfl _ _ (by first | exact hmd.2.1 | exact hM hmd.2.1) ?_)
        go_roundw
        case rel => exact ⟨1, by omega, by go_num, by first | exact hmd | exact hmd.moreL _⟩
        case measure => simp [intOf]
      have s : f 1 false = false := by simpa using s
      by_cases m : f 3 false = true
      · skip
        
        go_wp2_with (first
          | (go_at_call 12; refine (hMay.out _ _ _).mono ?_; rintro e w' ⟨rfl, mm, rfl⟩)
          | refine load26 rfl _ rfl _ rfl _ _ (by first | exact hmd.2.1 | exact hM hmd.2.1) ?_)
        go_roundw
        case rel => exact ⟨1, by omega, by go_num, by first | exact hmd | exact hmd.moreL _⟩
        case measure => simp [intOf]
      · have m : f 3 false = false := by simpa using m
        go_wp2_with (first
          | (go_at_call 12; refine (hMay.out _ _ _).mono ?_; rintro e w' ⟨rfl, mm, rfl⟩)
          | refine load26 rfl _ rfl _ rfl _ _ (by first | exact hmd.2.1 | exact hM hmd.2.1) ?_)
        go_roundw
        case rel => exact ⟨1, by omega, by go_num, by first | exact hmd | exact hmd.moreL _⟩
        case measure => simp [intOf]
    · go_wp2_with fail
      go_region_held3 (fun w' => Md w.heap.size (w.heap.size + 1 + l.length) r w w' ∧ (ldv (.pointer (some ⟨w.heap.size, 0, none⟩))).run Try.prog w' = .ok (.agg (C r)) w')
        (first | exact (Md.drew hmd).run | exact (Md.more (And.left (by assumption)) hm).run)
        (first
        | (go_at_call 12; refine (hMay.out _ _ _).mono ?_; rintro e w' ⟨rfl, hm⟩))
      rename_i hS6
      have hmd := hS6.1
      clear hS6
      by_cases u : f 0 true = true
      · have s := A1.out _ u
        have m := A2.out _ s
        have t1 : (n / 256 % 4 != 0) = false := by rw [A3.out _ u]; rfl
        have t2 : ¬ 1 < n / 256 % 4 := by have := A3.out _ u; omega
        have t3 : (n / 1024 % 4 == 3) = false := beq_eq_false_iff_ne.2 (A5.out m)
        have g0 := A6.out 0 u
        have g3 := A6.out 3 m
        go_wp2_with (first
          | (go_at_call 12; refine (hMay.out _ _ _).mono ?_; rintro e w' ⟨rfl, mm, rfl⟩)
          | refine load26 rfl _ rfl _ rfl _ _ (by first | exact hmd.2.1 | exact hM hmd.2.1) ?_)
        go_roundw
        case rel => exact ⟨2, by omega, by go_num, by first | exact hmd | exact hmd.moreL _⟩
        case measure => simp [intOf]
      have u : f 0 true = false := by simpa using u
      by_cases s : f 1 true = true
      · have m := A2.out _ s
        have t2 : ¬ 1 < n / 256 % 4 := by have := A4.out _ s; omega
        have t3 : (n / 1024 % 4 == 3) = false := beq_eq_false_iff_ne.2 (A5.out m)
        have g3 := A6.out 3 m
        go_wp2_with (first
          | (go_at_call 12; refine (hMay.out _ _ _).mono ?_; rintro e w' ⟨rfl, mm, rfl⟩)
          | refine load26 rfl _ rfl _ rfl _ _ (by first | exact hmd.2.1 | exact hM hmd.2.1) ?_)
        go_roundw
        case rel => exact ⟨2, by omega, by go_num, by first | exact hmd | exact hmd.moreL _⟩
        case measure => simp [intOf]
      have s : f 1 true = false := by simpa using s
      by_cases m : f 3 true = true
      · have t3 : (n / 1024 % 4 == 3) = false := beq_eq_false_iff_ne.2 (A5.out m)
        have g3 := A6.out 3 m
        go_wp2_with (first
          | (go_at_call 12; refine (hMay.out _ _ _).mono ?_; rintro e w' ⟨rfl, mm, rfl⟩)
          | refine load26 rfl _ rfl _ rfl _ _ (by first | exact hmd.2.1 | exact hM hmd.2.1) ?_)
        go_roundw
        case rel => exact ⟨2, by omega, by go_num, by first | exact hmd | exact hmd.moreL _⟩
        case measure => simp [intOf]
      · have m : f 3 true = false := by simpa using m
        go_wp2_with (first
          | (go_at_call 12; refine (hMay.out _ _ _).mono ?_; rintro e w' ⟨rfl, mm, rfl⟩)
          | refine load26 rfl _ rfl _ rfl _ _ (by first | exact hmd.2.1 | exact hM hmd.2.1) ?_)
        go_roundw
        case rel => exact ⟨2, by omega, by go_num, by first | exact hmd | exact hmd.moreL _⟩
        case measure => simp [intOf]
    · rcases A7.out with m | z | ⟨n1, n2⟩
      · go_wp2_with (first
          | (go_at_call 12; refine (hMay.out _ _ _).mono ?_; rintro e w' ⟨rfl, mm, rfl⟩)
          | refine load26 rfl _ rfl _ rfl _ _ (by first | exact hmd.2.1 | exact hM hmd.2.1) ?_)
        go_ret
        exact ⟨rfl, (hmd.moreL _).1⟩
      · have z : (U (readS r n 18446744073709551615#64 18446744073709551615#64) == 0) = true := by rw [z]; rfl
        rcases Bool.eq_false_or_eq_true (f 3 false) with m | m
        all_goals
          go_wp2_with (first
            | (go_at_call 12; refine (hMay.out _ _ _).mono ?_; rintro e w' ⟨rfl, mm, rfl⟩)
            | (go_at_call 14; refine (hRead.out _).mono ?_; rintro e w' ⟨rfl, mm, rfl⟩)
            | refine load26 rfl _ rfl _ rfl _ _ (by first | exact hmd.2.1 | exact hM hmd.2.1) ?_)
          go_ret
          exact ⟨rfl, (hmd.moreL _).1⟩
      · rcases Bool.eq_false_or_eq_true (f 3 false) with m | m
        all_goals
          rcases Bool.eq_false_or_eq_true (U (readS r n 18446744073709551615#64 18446744073709551615#64) == 0) with z | z
        all_goals
          go_wp2_with (first
            | (go_at_call 12; refine (hMay.out _ _ _).mono ?_; rintro e w' ⟨rfl, mm, rfl⟩)
            | (go_at_call 14; refine (hRead.out _).mono ?_; rintro e w' ⟨rfl, mm, rfl⟩)
            | refine load26 rfl _ rfl _ rfl _ _ (by first | exact hmd.2.1 | exact hM hmd.2.1) ?_)
          go_ret
          exact ⟨rfl, (hmd.moreL _).1⟩
end Go.Proofs.Ytgkajhpmgeofkaa
