/-
  The walk of RamKeeps.
-/
import Derived.Test.YtnbifbllemcjfaaRamK
namespace Go.Proofs.Ytnbifbllemcjfaa
set_option linter.unusedVariables false
open Go.RowKit Go.Maps

theorem byte_and (M : Nat → BitVec 8) (A : BitVec 64) (j : Nat) (hj : j < 8) (h : hasS A 8 = true) : (rdN M A 8 >>> (8 * j)) &&& 255#64 = (M (A.toNat + j)).setWidth 64 := by
  have h1 : byteOf (rdN M A 8) j = M (A.toNat + j) := by
    unfold rdN
    rw [if_pos h, rdF_byte M _ _ _ _ (by decide) hj, if_pos (by exact hj), Nat.add_zero]
  rw [← h1]
  apply BitVec.eq_of_getLsbD_eq
  intro t ht
  rw [BitVec.getLsbD_setWidth, BitVec.getLsbD_and]
  by_cases h8 : t < 8
  · rw [byteOf_bit _ _ _ h8, BitVec.getLsbD_ushiftRight]
    have : (255#64).getLsbD t = true := by
      have : t = 0 ∨ t = 1 ∨ t = 2 ∨ t = 3 ∨ t = 4 ∨ t = 5 ∨ t = 6 ∨ t = 7 := by omega
      rcases this with rfl | rfl | rfl | rfl | rfl | rfl | rfl | rfl <;> rfl
    rw [this]
    simp [ht]
  · have h2 : (255#64).getLsbD t = false := by
      show (BitVec.setWidth 64 (255#8)).getLsbD t = false
      rw [BitVec.getLsbD_setWidth, BitVec.getLsbD_of_ge _ _ (by omega)]; simp
    rw [h2, BitVec.getLsbD_of_ge (byteOf _ _) _ (by omega)]
    simp
theorem rd_up (M : Nat → BitVec 8) (A : BitVec 64) (h : hasS A 8 = true) (h4 : hasS (A + 4#64) 4 = true) : rdN M (A + 4#64) 4 = rdN M A 8 >>> 32 := by
  have hh := hasS_iff.1 h
  have e : (A + 4#64).toNat = A.toNat + 4 := add_nat (by omega)
  apply bytes_ext
  intro j hj
  have h1 : byteOf (rdN M (A + 4#64) 4) j = if j < 4 then M (A.toNat + 4 + j) else 0#8 := by
    unfold rdN
    rw [if_pos h4, rdF_byte M _ _ _ _ (by decide) hj, e]
    rfl
  have h2 : ∀ j, j < 8 → byteOf (rdN M A 8) j = M (A.toNat + j) := fun j hj => by
    unfold rdN
    rw [if_pos h, rdF_byte M _ _ _ _ (by decide) hj, if_pos (by exact hj), Nat.add_zero]
  rw [h1]
  have h3 : byteOf (rdN M A 8 >>> 32) j = if j < 4 then byteOf (rdN M A 8) (j + 4) else 0#8 := by
    apply BitVec.eq_of_getLsbD_eq
    intro t ht
    rw [byteOf_bit _ _ _ ht, BitVec.getLsbD_ushiftRight]
    by_cases hj4 : j < 4
    · rw [if_pos hj4, byteOf_bit _ _ _ ht]
      congr 1
      omega
    · rw [if_neg hj4, BitVec.getLsbD_of_ge _ _ (by omega)]
      simp
  rw [h3]
  by_cases hj4 : j < 4
  · rw [if_pos hj4, if_pos hj4, h2 _ (by omega)]
    congr 1
    omega
  · rw [if_neg hj4, if_neg hj4]
theorem B_nat8 {n : Int} {P : Prop} (h : (n = 1 ∨ n = 2 ∨ n = 4 ∨ n = 8) ∧ P) : (B n).toNat = n.toNat := by
  rcases h.1 with rfl | rfl | rfl | rfl <;> rfl
set_option maxRecDepth 20000 in
set_option maxHeartbeats 4000000 in
theorem Keeps_walk (W : World) (oa : Option Addr) (l : List Sy) (cap : Nat) (hl : StepsAt W oa l) (at_ : Int) (hat : (Lit.int .u64 at_).wf = true) :
    Calls Try.prog 4 #[.slice oa l.length cap, .int .u64 at_] W fun e w' => e = .returned (.bool true) ∧ Below W.heap.size W w' := by
  rw [U_of_wf hat]
  generalize B at_ = a0
  go_enter Try.func4, Try.ntmps4
  go_wp2_with fail
  go_at_call 7
  refine (fixed_any _).mono ?_
  rintro e w1 ⟨rfl, k1⟩
  go_wp2_with fail
  go_at_call 8
  refine (New_any w1).mono ?_
  rintro e w2 ⟨q, m, rfl, h2, k2, o2⟩
  have N2 : Mine W ⟨q, m, fun _ => none⟩ w2 := ⟨k1.trans k2, fun b hb => Nat.le_trans k1.size (o2 b hb)⟩
  clear k1 k2 o2
  go_wp2_with fail
  have hA : (2147483648#64 + a0 % 1048576#64).toNat = 2147483648 + a0.toNat % 1048576 := by
    rw [BitVec.toNat_add, BitVec.toNat_umod]
    have e1 : (2147483648#64).toNat = 2147483648 := by decide
    have e2 : (1048576#64).toNat = 1048576 := by decide
    rw [e1, e2]
    omega
  have hA1 : 2147483648 ≤ (2147483648#64 + a0 % 1048576#64).toNat ∧ (2147483648#64 + a0 % 1048576#64).toNat < 2148532224 := by omega
  clear hA
  generalize 2147483648#64 + a0 % 1048576#64 = A at *
  go_loopw [6, 7] (fun wv iv wr => ∃ (i : Nat) (bl : Nat → Option Nat) (M : Nat → BitVec 8), i ≤ l.length ∧ iv = .int .i64 i ∧ wv = .int .u8 (U1 (M A.toNat)) ∧ Held wr ⟨q, m, bl⟩ M ∧ Mine W ⟨q, m, bl⟩ wr) (fun _ iv _ => l.length - (intOf iv).toNat)
  case atStart => exact ⟨0, _, _, Nat.zero_le _, rfl, rfl, h2, N2⟩
  case round =>
    clear h2 N2
    obtain ⟨i, bl, M, hi, rfl, rfl, h3, N3⟩ := hrel
    by_cases hin : i < l.length
    · obtain ⟨a, rfl, hab, hcl⟩ := hl.2 (by omega)
      have hlk := List.getElem?_eq_getElem hin
      generalize l[i] = x at hlk
      obtain ⟨hwf, hSA, hby⟩ := hcl i x hlk
      obtain ⟨xk, xa, xs, xv, xl, xn, xf⟩ := x
      obtain ⟨z, zc, hxl, -⟩ := hby
      dsimp only at hxl
      subst hxl
      obtain ⟨d0, d1, d2, d3, d4⟩ := hSA.on N3.still hab
      have hi0 : 0 ≤ (i : Int) := by omega
      have hil : (i : Int) < (l.length : Int) := by omega
      have hnm : (l.length : Int) ≤ 9223372036854775807 := by have := hl.1; rw [maxLen_is] at this; omega
      have hms := meas_k hin
      clear hcl hlk hSA
      have hX := xAt_new wr ⟨xk, xa, xs, xv, .slice z xn zc, xn, xf⟩ 32
      obtain ⟨y0, y1, y2, y3, y4⟩ := hX
      have h4 := h3.still ((Kept.refl _ wr).alloc (.cells #[.int .i64 xk, .int .u64 (U xa), .int .i64 xs, .int .u64 (U xv), (.slice z xn zc)] 32))
      have N4 := N3.on ((Kept.refl _ wr).alloc (.cells #[.int .i64 xk, .int .u64 (U xa), .int .i64 xs, .int .u64 (U xv), (.slice z xn zc)] 32))
      have hlt : ∀ b, (G.mk q m bl).own b → b < wr.heap.size := fun b hb => h3.lt hb
      replace hlt := hide hlt
      clear h3 N3
      go_wp2_with fail
      go_at_call 12
      refine (Write_any _ _ _ h4 xa xs xv).mono ?_
      rintro e w5 ⟨rfl, bl5, h5, k5, o5⟩
      have N5 := N4.wr k5 o5
      obtain ⟨y0, y1, y2, y3, y4⟩ := XAt.kept (x := ⟨xk, xa, xs, xv, .slice z xn zc, xn, xf⟩) ⟨y0, y1, y2, y3, y4⟩ k5 fun e => Nat.lt_irrefl _ (hlt.out _ e)
      clear h4 N4 k5 o5
      have hW := wrN_at M xa xs xv A.toNat
      cases hh : hasS xa xs
      · have hM : wrN M xa xs xv = M := by unfold wrN; rw [hh]; rfl
        rw [hM] at h5
        clear hW hM
        go_wp2_with fail
        go_roundw
        case rel => exact ⟨i + 1, bl5, M, hin, by simp, rfl, h5, N5⟩
        case measure => exact hms
      · have hh2 := hasS_iff.1 hh
        have hs0 : 0 ≤ xs := by omega
        have hd0 : decide (0 ≤ xs) = true := decide_eq_true hs0
        by_cases c1 : U xa ≤ U A
        · have hd1 : decide (U xa ≤ U A) = true := decide_eq_true c1
          have hsub : (A - xa).toNat = A.toNat - xa.toNat := by unfold U at c1; rw [BitVec.toNat_sub]; have := xa.isLt; omega
          by_cases c2 : U (A - xa) < U (B xs)
          · have hd2 : decide (U (A - xa) < U (B xs)) = true := decide_eq_true c2
            replace hW := hide hW
            replace hh2 := hide hh2
            replace hsub := hide hsub
            have hval : BitVec.setWidth 8 (xv >>> (8 * (18446744073709551616 - xa.toNat + A.toNat) % 18446744073709551616)) = wrN M xa xs xv A.toNat := by
              unfold U at c1 c2
              rw [hsub.out, B_nat8 hh2.out] at c2
              have h1 := hh2.out
              rw [hW.out, if_pos ⟨hh, by omega, by omega⟩]
              unfold byteOf
              congr 2
              omega
            replace hval := hide hval
            go_wp2_with fail
            go_roundw
            case rel => exact ⟨i + 1, bl5, wrN M xa xs xv, hin, by simp, by rw [hval.out], h5, N5⟩
            case measure => exact hms
          · have hd2 : decide (U (A - xa) < U (B xs)) = false := decide_eq_false c2
            have hval : wrN M xa xs xv A.toNat = M A.toNat := by
              rw [hW, if_neg]
              rintro ⟨-, r1, r2⟩
              refine c2 ?_
              unfold U
              rw [hsub, B_nat8 hh2]
              omega
            replace hW := hide hW
            replace hh2 := hide hh2
            replace hsub := hide hsub
            replace hval := hide hval
            go_wp2_with fail
            go_roundw
            case rel => exact ⟨i + 1, bl5, wrN M xa xs xv, hin, by simp, by rw [hval.out], h5, N5⟩
            case measure => exact hms
        · have hd1 : decide (U xa ≤ U A) = false := decide_eq_false c1
          have hval : wrN M xa xs xv A.toNat = M A.toNat := by
            rw [hW, if_neg]
            rintro ⟨-, r1, r2⟩
            refine c1 ?_
            unfold U
            omega
          replace hW := hide hW
          replace hh2 := hide hh2
          replace hval := hide hval
          go_wp2_with fail
          go_roundw
          case rel => exact ⟨i + 1, bl5, wrN M xa xs xv, hin, by simp, by rw [hval.out], h5, N5⟩
          case measure => exact hms
    · obtain rfl : i = l.length := by omega
      have hirr : ¬ (l.length : Int) < (l.length : Int) := Int.lt_irrefl _
      go_wp2_with fail
      go_at_call 14
      refine (Read_any _ _ _ h3 A 1).mono ?_
      rintro e w' ⟨rfl, rfl⟩
      have hs1 : hasS A 1 = true := hasS_iff.2 ⟨.inl rfl, by omega, by omega⟩
      rw [hs1, rd1 M A hs1]
      go_wp2_with fail
      go_at_call 14
      refine (Read_any _ _ _ h3 A 8).mono ?_
      rintro e w' ⟨rfl, rfl⟩
      cases h8 : hasS A 8
      · have hlo : 2148532216 < U A := by
          by_cases e : 2148532216 < U A
          · exact e
          · have : hasS A 8 = true := hasS_iff.2 ⟨.inr (.inr (.inr rfl)), by omega, by unfold U at e; omega⟩
            rw [h8] at this; cases this
        have hlo2 : decide (2148532216 < U A) = true := decide_eq_true hlo
        go_wp2_with fail
        go_ret
        exact ⟨rfl, Still.low (Kept.refl _ _) N3.still⟩
      · have h8' := hasS_iff.1 h8
        go_wp2_with fail
        go_loopw [14] (fun iv wr => ∃ j : Nat, j ≤ 8 ∧ iv = .int .i64 j ∧ wr = w') (fun iv _ => 8 - (intOf iv).toNat)
        case atStart => exact ⟨0, Nat.zero_le _, rfl, rfl⟩
        case round =>
          obtain ⟨j, hj, rfl, rfl⟩ := hrel
          by_cases hj8 : j < 8
          · have hadd : (A + BitVec.ofNat 64 j).toNat = A.toNat + j := add_nat (by omega)
            have hb1 : hasS (A + BitVec.ofNat 64 j) 1 = true := hasS_iff.2 ⟨.inl rfl, by omega, by omega⟩
            have hR := Read_any wr _ _ h3 (A + BitVec.ofNat 64 j) 1
            rw [hb1, rd1 _ _ hb1, hadd] at hR
            have hcmp := byte_and M A j hj8 h8
            have hj0 : 0 ≤ (j : Int) := by omega
            have hj9 : (j : Int) < 8 := by omega
            have hmul : (8 : Int) * (j : Int) = ((8 * j : Nat) : Int) := by omega
            have hm8 : ((8 * j : Nat) : Int) < 64 := by omega
            have hms : 8 - (j + 1) < 8 - j := by omega
            replace hms : 8 - ((j : Int) + 1).toNat < 8 - (j : Int).toNat := hms
            replace h3 := hide h3
            clear hadd
            generalize 8 * j = j8 at *
            go_wp2_with fail
            go_at_call 14
            refine hR.mono ?_
            rintro e w' ⟨rfl, rfl⟩
            go_wp2_with fail
            go_roundw
            case rel => exact ⟨j + 1, by omega, by simp, trivial⟩
            case measure => exact hms
          · obtain rfl : j = 8 := by omega
            go_wp2_with fail
            go_at_call 14
            refine (Read_any _ _ _ h3 (A + 4#64) 4).mono ?_
            rintro e w' ⟨rfl, rfl⟩
            have hadd : (A + 4#64).toNat = A.toNat + 4 := add_nat (by omega)
            have h4 : hasS (A + 4#64) 4 = true := hasS_iff.2 ⟨.inr (.inr (.inl rfl)), by omega, by omega⟩
            rw [h4, rd_up M A h8 h4]
            clear hadd
            go_wp2_with fail
            go_ret
            exact ⟨rfl, Still.low (Kept.refl _ _) N3.still⟩
end Go.Proofs.Ytnbifbllemcjfaa
