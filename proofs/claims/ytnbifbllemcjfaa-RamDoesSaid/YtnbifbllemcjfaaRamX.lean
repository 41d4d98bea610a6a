/-
  The law's calls whose answers are fixed.
-/
import Derived.Test.YtnbifbllemcjfaaRamP
namespace Go.Proofs.Ytnbifbllemcjfaa
set_option linter.unusedVariables false
open Go.RowKit Go.Maps

def M0 : Nat → BitVec 8 := fun _ => 0#8
def M1 : Nat → BitVec 8 := wrN M0 (2147487742#64) 4 (2864434397#64)
def M2 : Nat → BitVec 8 := wrN M1 (2147487742#64) 1 (0#64)
theorem hs1 : hasS (2147487742#64) 4 = true := by decide
theorem hs2 : hasS (2147487743#64) 2 = true := by decide
theorem hs3 : hasS (2147483647#64) 1 = false := by decide
theorem hs4 : hasS (2148532216#64) 8 = true := by decide
theorem hs5 : hasS (2148532217#64) 8 = false := by decide
theorem hs6 : hasS (2147487742#64) 1 = true := by decide
theorem M1_at (x : Nat) : M1 x = if 2147487742 ≤ x ∧ x < 2147487746 then byteOf (2864434397#64) (x - 2147487742) else 0#8 := by
  unfold M1
  rw [wrN_at]
  have e : (2147487742#64).toNat = 2147487742 := by decide
  rw [e]
  by_cases h : 2147487742 ≤ x ∧ x < 2147487746
  · rw [if_pos h, if_pos ⟨hs1, h.1, h.2⟩]
  · rw [if_neg h, if_neg (fun e => h ⟨e.2.1, e.2.2⟩)]; rfl
theorem rd_1 : rdN M1 (2147487743#64) 2 = 48076#64 := by
  unfold rdN
  rw [if_pos hs2]
  show (((0#64) <<< 8 ||| (M1 ((2147487743#64).toNat + (0 + 1))).setWidth 64) <<< 8 ||| (M1 ((2147487743#64).toNat + 0)).setWidth 64) = _
  have e : (2147487743#64).toNat = 2147487743 := by decide
  rw [e, M1_at, M1_at, if_pos (by omega), if_pos (by omega)]
  decide
theorem pages_1 : pagesI M1 = [2147483648, 2147487744] := by
  refine pages_eq (by simp) fun x => ?_
  have key : ∀ n, pageZ M1 n = false ↔ n = 524288 ∨ n = 524289 := fun n => by
    rw [pageZ_no]
    constructor
    · rintro ⟨i, hi, he⟩
      rw [M1_at] at he
      by_cases h : 2147487742 ≤ n * 4096 + i ∧ n * 4096 + i < 2147487746
      · omega
      · rw [if_neg h] at he; exact absurd rfl he
    · rintro (rfl | rfl)
      · refine ⟨4094, by omega, ?_⟩
        rw [M1_at, if_pos (by omega)]; decide
      · refine ⟨0, by omega, ?_⟩
        rw [M1_at, if_pos (by omega)]; decide
  constructor
  · intro h
    simp only [List.mem_cons, List.not_mem_nil, or_false] at h
    rcases h with rfl | rfl
    · exact ⟨524288, by decide, by unfold InP; omega, (key _).2 (.inl rfl)⟩
    · exact ⟨524289, by decide, by unfold InP; omega, (key _).2 (.inr rfl)⟩
  · rintro ⟨n, rfl, -, hz⟩
    rcases (key n).1 hz with rfl | rfl <;> simp
theorem same_12 : sameM M1 M2 = false := by
  cases e : sameM M1 M2
  · rfl
  · have h := sameM_bytes.1 e 2147487742 (by omega) (by omega)
    unfold M2 at h
    rw [wrN_at, M1_at, if_pos (by omega)] at h
    have e1 : (2147487742#64).toNat = 2147487742 := by decide
    rw [e1, if_pos ⟨hs6, by omega, by decide⟩] at h
    revert h
    decide
theorem Mine.wr {w0 w w' : World} {q m : Nat} {bl bl' : Nat → Option Nat} (h : Mine w0 ⟨q, m, bl⟩ w) (k : Kept (G.mk q m bl).own w w') (ho : ∀ b, (G.mk q m bl').own b → (G.mk q m bl).own b ∨ w.heap.size ≤ b) : Mine w0 ⟨q, m, bl'⟩ w' := h.step k ho
/-- Two memories that have no block in common. -/
def Apart (g g' : G) : Prop := ∀ b, g.own b → ¬ g'.own b
theorem Apart.symm {g g' : G} (h : Apart g g') : Apart g' g := fun b h1 h2 => h b h2 h1
theorem Apart.grow {g g2 g' : G} {w : World} {M' : Nat → BitVec 8} (h : Apart g g') (h' : Held w g' M') (ho : ∀ b, g2.own b → g.own b ∨ w.heap.size ≤ b) : Apart g2 g' := fun b h1 h2 => by
  rcases ho b h1 with h3 | h3
  · exact h b h3 h2
  · have := h'.lt h2; omega
theorem Apart.new {g g' : G} {w : World} {M : Nat → BitVec 8} (h : Held w g M) (ho : ∀ b, g'.own b → w.heap.size ≤ b) : Apart g g' := fun b h1 h2 => by
  have := h.lt h1
  have := ho b h2
  omega
theorem nums_two (w : World) (x y : Int) (t : TypeId) : Nums (w.alloc (.cells #[.int .u64 x, .int .u64 y] t)) (.slice (some ⟨w.heap.size, 0, none⟩) 2 2) [x, y] := by
  refine ⟨_, 2, rfl, Nat.le_refl _, by rw [maxLen_is]; omega, fun _ => ⟨_, rfl, by simp, fun i z hz => ?_⟩⟩
  have hb := heap_alloc_new w (.cells #[.int .u64 x, .int .u64 y] t)
  match i, hz with
  | 0, hz => cases hz; show (w.alloc _).cell? ⟨w.heap.size, 0, none⟩ = _; unfold World.cell?; rw [hb]; rfl
  | 1, hz => cases hz; show (w.alloc _).cell? ⟨w.heap.size, 1, none⟩ = _; unfold World.cell?; rw [hb]; rfl
theorem bys_one (w : World) (x : BitVec 8) (t : TypeId) : Bys (w.alloc (.cells #[.int .u8 (U1 x)] t)) (.slice (some ⟨w.heap.size, 0, none⟩) 1 1) 1 (fun _ => x) := by
  refine ⟨_, 1, rfl, Nat.le_refl _, by rw [maxLen_is]; omega, fun _ => ⟨_, rfl, by simp, fun i hz => ?_⟩⟩
  obtain rfl : i = 0 := by omega
  show (w.alloc _).cell? ⟨w.heap.size, 0, none⟩ = _
  unfold World.cell?
  rw [heap_alloc_new]
  rfl
set_option maxRecDepth 20000 in
set_option maxHeartbeats 4000000 in
theorem fixed_any (w : World) : Calls Try.prog 7 #[] w fun e w' => e = .returned (.bool true) ∧ Still w w' := by
  go_enter Try.func7, Try.ntmps7
  go_wp2_with fail
  go_at_call 8
  refine (New_any w).mono ?_
  rintro e w1 ⟨q, m, rfl, h1, k1, o1⟩
  have N1 : Mine w ⟨q, m, fun _ => none⟩ w1 := ⟨k1, o1⟩
  clear k1 o1
  go_wp2_with fail
  go_at_call 12
  refine (Write_any w1 _ _ h1 (2147487742#64) 4 (2864434397#64)).mono ?_
  rintro e w2 ⟨rfl, bl, h2, k2, o2⟩
  dsimp only at h2 k2 o2
  have N2 := N1.wr k2 o2
  rw [hs1]
  replace h2 : Held w2 ⟨q, m, bl⟩ M1 := h2
  clear k2 o2 N1 h1
  go_wp2_with fail
  go_at_call 14
  refine (Read_any w2 _ _ h2 (2147487743#64) 2).mono ?_
  rintro e w' ⟨rfl, rfl⟩
  rw [hs2, rd_1]
  have N2 := N2
  go_wp2_with fail
  go_at_call 14
  refine (Read_any _ _ _ h2 (2147483647#64) 1).mono ?_
  rintro e w' ⟨rfl, rfl⟩
  rw [hs3]
  go_wp2_with fail
  go_at_call 21
  refine (Copy_any _ _ _ h2).mono ?_
  rintro e w3 ⟨⟨q', m', bl3⟩, rfl, h3', k3, o3⟩
  have h3 := h2.still k3
  have hA := Apart.new h2 o3
  have N3 := N2.on k3
  have N3' : Mine w ⟨q', m', bl3⟩ w3 := ⟨N3.still, fun b hb => Nat.le_trans N2.still.size (o3 b hb)⟩
  clear N2 h2 k3 o3
  go_wp2_with fail
  go_at_call 24
  refine (Same_any w3 _ _ _ _ h3 h3').mono ?_
  rintro e w4 ⟨rfl, k4⟩
  rw [sameM_refl]
  have h4 := h3.still k4
  have h4' := h3'.still k4
  have N4 := N3.on k4
  have N4' := N3'.on k4
  clear h3 h3' N3 N3' k4
  go_wp2_with fail
  go_at_call 12
  refine (Write_any w4 _ _ h4' (2147487742#64) 1 (0#64)).mono ?_
  rintro e w5 ⟨rfl, bl5, h5', k5, o5⟩
  dsimp only at h5' k5 o5
  replace h5' : Held w5 ⟨q', m', bl5⟩ M2 := h5'
  have h5 := h4.kept k5 hA
  have N5' := N4'.wr k5 o5
  have N5 : Mine w ⟨q, m, bl⟩ w5 := ⟨N5'.still, N4.mine⟩
  clear h4 h4' N4 N4' k5 o5 hA
  rw [hs6]
  go_wp2_with fail
  go_at_call 18
  refine (Pages_any w5 _ _ h5).mono ?_
  rintro e w6 ⟨v6, rfl, o6, k6⟩
  rw [pages_1] at o6
  have h6 := h5.still k6
  have h6' := h5'.still k6
  have N6 := N5.on k6
  clear h5 h5' N5 N5' k6
  go_wp2_with fail
  go_at_call 20
  have a6 : Still w6 (w6.alloc (.cells #[.int .u64 2147483648, .int .u64 2147487744] 30)) := (Kept.refl _ w6).alloc _
  refine (sameList_any _ _ _ _ _ (o6.still a6).nums (nums_two w6 2147483648 2147487744 30)).mono ?_
  rintro e w7 ⟨rfl, k7⟩
  rw [decide_eq_true rfl]
  have k67 := a6.trans k7
  have h7 := h6.still k67
  have h7' := h6'.still k67
  have N7 := N6.on k67
  clear a6 k7 k67 o6 h6 h6' N6
  go_wp2_with fail
  go_at_call 24
  refine (Same_any w7 _ _ _ _ h7 h7').mono ?_
  rintro e w8 ⟨rfl, k8⟩
  rw [same_12]
  have h8 := h7.still k8
  have N8 := N7.on k8
  clear h7 h7' N7 k8
  go_wp2_with fail
  go_at_call 16
  refine (Has_any _ _ (2148532216#64) 8).mono ?_
  rintro e w' ⟨rfl, rfl⟩
  rw [hs4]
  go_wp2_with fail
  go_at_call 16
  refine (Has_any _ _ (2148532217#64) 8).mono ?_
  rintro e w' ⟨rfl, rfl⟩
  rw [hs5]
  go_wp2_with fail
  go_at_call 10
  have a9 : Still w' (w'.alloc (.cells #[.int .u8 (U1 1#8)] 5)) := (Kept.refl _ w').alloc _
  refine (Lay_any _ _ _ (h8.still a9) _ 1 _ (bys_one w' (1#8) 5) (fun _ b hb e => by cases hb; have := h8.lt e; exact absurd this (Nat.lt_irrefl _))).mono ?_
  rintro e w9 ⟨rfl, bl9, h9, k9, o9⟩
  have N9 := (N8.on a9).wr k9 o9
  clear h8 N8 a9 k9 o9
  go_wp2_with fail
  go_ret
  exact ⟨rfl, N9.still⟩
end Go.Proofs.Ytnbifbllemcjfaa
