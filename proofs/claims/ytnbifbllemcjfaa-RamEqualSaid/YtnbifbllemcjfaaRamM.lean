/-
  The walk of RamEqual.
-/
import Derived.Test.YtnbifbllemcjfaaRamK
namespace Go.Proofs.Ytnbifbllemcjfaa
set_option linter.unusedVariables false
open Go.RowKit Go.Maps

theorem wr1_at (M : Nat → BitVec 8) (A : BitVec 64) (h : hasS A 1 = true) (b : BitVec 8) (x : Nat) : wrN M A 1 (b.setWidth 64) x = if x = A.toNat then b else M x := by
  rw [wrN_at]
  by_cases e : x = A.toNat
  · rw [if_pos e, if_pos ⟨h, by omega, by simp; omega⟩, byteOf_setWidth, if_pos (by omega)]
  · rw [if_neg e, if_neg]
    rintro ⟨-, r1, r2⟩
    simp at r2
    omega
theorem wr1_same (M : Nat → BitVec 8) (A : BitVec 64) (h : hasS A 1 = true) : wrN M A 1 ((M A.toNat).setWidth 64) = M := by
  funext x
  rw [wr1_at M A h]
  by_cases e : x = A.toNat
  · rw [if_pos e, e]
  · rw [if_neg e]
theorem wr1_back (M : Nat → BitVec 8) (A : BitVec 64) (h : hasS A 1 = true) (b : BitVec 8) : wrN (wrN M A 1 (b.setWidth 64)) A 1 ((M A.toNat).setWidth 64) = M := by
  funext x
  rw [wr1_at _ A h, wr1_at M A h]
  by_cases e : x = A.toNat
  · rw [if_pos e, e]
  · rw [if_neg e, if_neg e]
theorem wr1_other (M : Nat → BitVec 8) (A : BitVec 64) (h : hasS A 1 = true) (b : BitVec 8) (hb : M A.toNat ≠ b) : sameM M (wrN M A 1 (b.setWidth 64)) = false := by
  cases e : sameM M (wrN M A 1 (b.setWidth 64))
  · rfl
  · have hh := hasS_iff.1 h
    have := sameM_bytes.1 e A.toNat (by omega) (by omega)
    rw [wr1_at M A h, if_pos rfl] at this
    exact absurd this hb
theorem pages_0 : pagesI (fun _ => 0#8) = [] := pages_eq (by simp) fun x => by
  constructor
  · intro h; cases h
  · rintro ⟨n, -, -, hz⟩
    obtain ⟨i, -, he⟩ := pageZ_no.1 hz
    exact absurd rfl he
theorem hasS_one {A : BitVec 64} {n : Int} (h : hasS A n = true) : hasS A 1 = true := by
  have hh := hasS_iff.1 h
  exact hasS_iff.2 ⟨.inl rfl, by omega, by omega⟩
theorem wr_no {M : Nat → BitVec 8} {A : BitVec 64} {n : Int} (h : hasS A n = false) (v : BitVec 64) : wrN M A n v = M := by unfold wrN; rw [h]; rfl
theorem setWidth_ne {a b : BitVec 8} (h : a ≠ b) : ¬ U (a.setWidth 64) = U (b.setWidth 64) := fun e => h (by
  have h1 := congrArg B e
  rw [B_U, B_U] at h1
  have h2 := congrArg (fun x => x.setWidth 8) h1
  simpa using h2)

set_option maxRecDepth 20000 in
set_option maxHeartbeats 4000000 in
theorem Equal_walk (W : World) (v0 : Value) (n : Nat) (f : Nat → BitVec 8) (hb : Bys W v0 n f) (at_ : Int) (hat : (Lit.int .u64 at_).wf = true) (size v_ : Int) (hv : (Lit.int .u8 v_).wf = true) :
    Calls Try.prog 6 #[v0, .int .u64 at_, .int .i64 size, .int .u8 v_] W fun e w' => e = .returned (.bool true) ∧ Below W.heap.size W w' := by
  rw [U_of_wf hat, U1_of_wf hv]
  generalize B at_ = A
  generalize B1 v_ = vb
  have hb0 := hb
  obtain ⟨z, c, rfl, hnc, hcm, hz⟩ := hb0
  have hn63 : (n : Int) ≤ 9223372036854775807 := by rw [maxLen_is] at hcm; omega
  go_enter Try.func6, Try.ntmps6
  go_wp2_with fail
  go_at_call 7
  refine (fixed_any _).mono ?_
  rintro e w1 ⟨rfl, k1⟩
  go_wp2_with fail
  go_at_call 8
  refine (New_any w1).mono ?_
  rintro e w2 ⟨q, m, rfl, h2, k2, o2⟩
  have N2 : Mine W ⟨q, m, fun _ => none⟩ w2 := ⟨k1.trans k2, fun b hb => Nat.le_trans k1.size (o2 b hb)⟩
  clear k1 k2 o2
  go_wp2_with fail
  go_at_call 10
  refine (Lay_any w2 _ _ h2 _ n f (hb.still N2.still) (fun h0 b e r => by
    obtain ⟨rb, rfl, hlt, -⟩ := hz h0
    cases e
    have := N2.mine _ r
    omega)).mono ?_
  rintro e w3 ⟨rfl, bl3, h3, k3, o3⟩
  have N3 := N2.wr k3 o3
  clear h2 N2 k3 o3 hb hz
  by_cases hn : n ≤ 1048576
  · rw [decide_eq_true hn]
    have hl : layN (fun _ => 0#8) f n = layF (fun _ => 0#8) f n := by unfold layN; rw [if_pos hn]
    rw [hl] at h3
    clear hl
    generalize layF (fun _ => 0#8) f n = M at h3
    go_wp2_with fail
    go_at_call 21
    refine (Copy_any _ _ _ h3).mono ?_
    rintro e w4 ⟨⟨q', m', bl4⟩, rfl, h4, k4, o4⟩
    have T4 := Two.make h3 N3 h4 k4 o4
    clear h3 N3 h4 k4 o4
    go_wp2_with fail
    go_at_call 14
    refine (Read_any _ _ _ T4.a A size).mono ?_
    rintro e w' ⟨rfl, rfl⟩
    cases ho : hasS A size
    · go_wp2_with fail
      go_at_call 12
      refine (Write_any _ _ _ T4.b A size (1#64)).mono ?_
      rintro e w5 ⟨rfl, bl5, h5, k5, o5⟩
      rw [wr_no ho] at h5
      rw [ho]
      have T5 := T4.snd h5 k5 o5
      clear T4 h5 k5 o5
      go_wp2_with fail
      go_at_call 24
      refine (Same_any _ _ _ _ _ T5.a T5.b).mono ?_
      rintro e w6 ⟨rfl, k6⟩
      rw [sameM_refl]
      have T6 := T5.on k6
      clear T5 k6
      go_wp2_with fail
      go_ret
      exact ⟨rfl, Still.low (Kept.refl _ _) T6.ma.still⟩
    · have ho1 := hasS_one ho
      go_wp2_with fail
      go_at_call 12
      refine (Write_any _ _ _ T4.b A size (rdN M A size)).mono ?_
      rintro e w5 ⟨rfl, bl5, h5, k5, o5⟩
      rw [wr_rd] at h5
      rw [ho]
      have T5 := T4.snd h5 k5 o5
      clear T4 h5 k5 o5
      go_wp2_with fail
      go_at_call 24
      refine (Same_any _ _ _ _ _ T5.a T5.b).mono ?_
      rintro e w6 ⟨rfl, k6⟩
      rw [sameM_refl]
      have T6 := T5.on k6
      clear T5 k6
      go_wp2_with fail
      go_at_call 24
      refine (Same_any _ _ _ _ _ T6.b T6.a).mono ?_
      rintro e w7 ⟨rfl, k7⟩
      rw [sameM_refl]
      have T7 := T6.on k7
      clear T6 k7
      go_wp2_with fail
      go_at_call 14
      refine (Read_any _ _ _ T7.a A 1).mono ?_
      rintro e w' ⟨rfl, rfl⟩
      rw [ho1, rd1 _ _ ho1]
      go_wp2_with fail
      go_at_call 12
      refine (Write_any _ _ _ T7.b A 1 (vb.setWidth 64)).mono ?_
      rintro e w8 ⟨rfl, bl8, h8, k8, o8⟩
      have T8 := T7.snd h8 k8 o8
      clear T7 h8 k8 o8
      rw [ho1]
      by_cases hv2 : M A.toNat = vb
      · subst hv2
        rw [wr1_same M A ho1] at T8
        go_wp2_with fail
        go_at_call 24
        refine (Same_any _ _ _ _ _ T8.a T8.b).mono ?_
        rintro e w9 ⟨rfl, k9⟩
        rw [sameM_refl]
        have T9 := T8.on k9
        clear T8 k9
        go_wp2_with fail
        go_at_call 24
        refine (Same_any _ _ _ _ _ T9.b T9.a).mono ?_
        rintro e w10 ⟨rfl, k10⟩
        rw [sameM_refl]
        have T10 := T9.on k10
        clear T9 k10
        go_wp2_with fail
        go_at_call 24
        refine (Same_any _ _ _ _ _ T10.a T10.b).mono ?_
        rintro e w11 ⟨rfl, k11⟩
        rw [sameM_refl]
        have T11 := T10.on k11
        clear T10 k11
        go_wp2_with fail
        go_at_call 12
        refine (Write_any _ _ _ T11.b A 1 ((M A.toNat).setWidth 64)).mono ?_
        rintro e w12 ⟨rfl, bl12, h12, k12, o12⟩
        rw [wr1_same M A ho1] at h12
        rw [ho1]
        have T12 := T11.snd h12 k12 o12
        clear T11 h12 k12 o12
        go_wp2_with fail
        go_at_call 24
        refine (Same_any _ _ _ _ _ T12.a T12.b).mono ?_
        rintro e w13 ⟨rfl, k13⟩
        rw [sameM_refl]
        have T13 := T12.on k13
        clear T12 k13
        go_wp2_with fail
        go_at_call 18
        refine (Pages_any _ _ _ T13.a).mono ?_
        rintro e w14 ⟨v14, rfl, p14, k14⟩
        have T14 := T13.on k14
        clear k14 T13
        go_wp2_with fail
        go_at_call 18
        refine (Pages_any _ _ _ T14.b).mono ?_
        rintro e w15 ⟨v15, rfl, p15, k15⟩
        have T15 := T14.on k15
        replace p14 := p14.still k15
        clear k15 T14
        go_wp2_with fail
        go_at_call 20
        refine (sameList_any _ _ _ _ _ p14.nums p15.nums).mono ?_
        rintro e w16 ⟨rfl, k16⟩
        have T16 := T15.on k16
        rw [decide_eq_true rfl]
        clear k16 T15 p14 p15
        go_wp2_with fail
        go_ret
        exact ⟨rfl, Still.low (Kept.refl _ _) T16.ma.still⟩
      · have r1 := wr1_other M A ho1 vb hv2
        have r2 := r1
        rw [sameM_comm] at r2
        have hne := setWidth_ne hv2
        go_wp2_with fail
        go_at_call 24
        refine (Same_any _ _ _ _ _ T8.a T8.b).mono ?_
        rintro e w9 ⟨rfl, k9⟩
        rw [r1]
        have T9 := T8.on k9
        clear T8 k9
        go_wp2_with fail
        go_at_call 24
        refine (Same_any _ _ _ _ _ T9.b T9.a).mono ?_
        rintro e w10 ⟨rfl, k10⟩
        rw [r2]
        have T10 := T9.on k10
        clear T9 k10
        go_wp2_with fail
        go_at_call 24
        refine (Same_any _ _ _ _ _ T10.a T10.b).mono ?_
        rintro e w11 ⟨rfl, k11⟩
        rw [r1]
        have T11 := T10.on k11
        clear T10 k11
        go_wp2_with fail
        go_at_call 12
        refine (Write_any _ _ _ T11.b A 1 ((M A.toNat).setWidth 64)).mono ?_
        rintro e w12 ⟨rfl, bl12, h12, k12, o12⟩
        rw [wr1_back M A ho1 vb] at h12
        rw [ho1]
        have T12 := T11.snd h12 k12 o12
        clear T11 h12 k12 o12
        go_wp2_with fail
        go_at_call 24
        refine (Same_any _ _ _ _ _ T12.a T12.b).mono ?_
        rintro e w13 ⟨rfl, k13⟩
        rw [sameM_refl]
        have T13 := T12.on k13
        clear T12 k13
        go_wp2_with fail
        go_at_call 18
        refine (Pages_any _ _ _ T13.a).mono ?_
        rintro e w14 ⟨v14, rfl, p14, k14⟩
        have T14 := T13.on k14
        clear k14 T13
        go_wp2_with fail
        go_at_call 18
        refine (Pages_any _ _ _ T14.b).mono ?_
        rintro e w15 ⟨v15, rfl, p15, k15⟩
        have T15 := T14.on k15
        replace p14 := p14.still k15
        clear k15 T14
        go_wp2_with fail
        go_at_call 20
        refine (sameList_any _ _ _ _ _ p14.nums p15.nums).mono ?_
        rintro e w16 ⟨rfl, k16⟩
        have T16 := T15.on k16
        rw [decide_eq_true rfl]
        clear k16 T15 p14 p15
        go_wp2_with fail
        go_ret
        exact ⟨rfl, Still.low (Kept.refl _ _) T16.ma.still⟩
  · rw [decide_eq_false hn]
    have hl : layN (fun _ => 0#8) f n = fun _ => 0#8 := by unfold layN; rw [if_neg hn]
    rw [hl] at h3
    clear hl
    have hn2 : (1048576 : Int) < (n : Int) := by omega
    go_wp2_with fail
    go_at_call 18
    refine (Pages_any _ _ _ h3).mono ?_
    rintro e w14 ⟨v14, rfl, p14, k14⟩
    have N4 := N3.on k14
    rw [pages_0] at p14
    obtain ⟨z4, c4, rfl, -⟩ := p14.nums
    clear p14
    have hk : ∀ z c, Value.slice z ([] : List Int).length c = Value.slice z 0 c := fun _ _ => rfl
    rw [hk]
    clear hk
    go_wp2_with fail
    go_ret
    exact ⟨rfl, Still.low (Kept.refl _ _) N4.still⟩
end Go.Proofs.Ytnbifbllemcjfaa
