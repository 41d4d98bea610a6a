/-
  The walk of the reference's Config. (Printed by gen_csrn.py.)
-/
import Derived.Test.YtgkajhpmgeofkaaCsrM
namespace Go.Proofs.Ytgkajhpmgeofkaa
set_option linter.unusedVariables false
open Go.RowKit

def vAt (v : BitVec 64) (j : Nat) : BitVec 64 :=
  match j with
  | 0 => v
  | 1 => v >>> 8
  | 2 => v >>> 16
  | 3 => v >>> 24
  | 4 => v >>> 32
  | 5 => v >>> 40
  | 6 => v >>> 48
  | 7 => v >>> 56
  | _ => v >>> 64
theorem div8 (x : BitVec 64) : x / 256#64 = x >>> 8 := by
  apply BitVec.eq_of_toNat_eq
  simp [BitVec.toNat_udiv, BitVec.toNat_ushiftRight, Nat.shiftRight_eq_div_pow]

theorem vAt_1 (v : BitVec 64) : v / 256#64 = vAt v 1 := by rw [div8]; rfl
theorem vAt_2 (v : BitVec 64) : v >>> 8 / 256#64 = vAt v 2 := by rw [div8, ← BitVec.shiftRight_add]; rfl
theorem vAt_3 (v : BitVec 64) : v >>> 16 / 256#64 = vAt v 3 := by rw [div8, ← BitVec.shiftRight_add]; rfl
theorem vAt_4 (v : BitVec 64) : v >>> 24 / 256#64 = vAt v 4 := by rw [div8, ← BitVec.shiftRight_add]; rfl
theorem vAt_5 (v : BitVec 64) : v >>> 32 / 256#64 = vAt v 5 := by rw [div8, ← BitVec.shiftRight_add]; rfl
theorem vAt_6 (v : BitVec 64) : v >>> 40 / 256#64 = vAt v 6 := by rw [div8, ← BitVec.shiftRight_add]; rfl
theorem vAt_7 (v : BitVec 64) : v >>> 48 / 256#64 = vAt v 7 := by rw [div8, ← BitVec.shiftRight_add]; rfl
theorem vAt_8 (v : BitVec 64) : v >>> 56 / 256#64 = vAt v 8 := by rw [div8, ← BitVec.shiftRight_add]; rfl
set_option maxHeartbeats 8000000 in
theorem RConfig_any (r : Regs) (v : BitVec 64) (w : World) : Calls Try.prog 37 #[.agg (G r), .int .u64 (U v)] w fun e w' => e = .returned (.agg (G (cfgW r v))) ∧ More w w' := by
  go_enter Try.func37, Try.ntmps37
  go_wp2_with fail
  go_loopw [1, 6] (fun tv iv wr => ∃ j : Nat, j ≤ 8 ∧ iv = .int .i64 j ∧ tv = .int .u64 (U (vAt v j)) ∧ wr = ((w.alloc (.cells (G r) 23)).alloc (.cells #[Value.int IntKind.u8 0, Value.int IntKind.u8 0, Value.int IntKind.u8 0, Value.int IntKind.u8 0, Value.int IntKind.u8 0, Value.int IntKind.u8 0, Value.int IntKind.u8 0, Value.int IntKind.u8 0] 23)).alloc (.cells (G (cfgUp r v j)) 23)) (fun _ iv _ => 8 - (intOf iv).toNat)
  case atStart => exact ⟨0, by omega, rfl, rfl, rfl⟩
  case round =>
    obtain ⟨j, hj, rfl, rfl, rfl⟩ := hrel
    obtain rfl | rfl | rfl | rfl | rfl | rfl | rfl | rfl | rfl : j = 0 ∨ j = 1 ∨ j = 2 ∨ j = 3 ∨ j = 4 ∨ j = 5 ∨ j = 6 ∨ j = 7 ∨ j = 8 := by omega
    · rw [show vAt v 0 = v from rfl]
      have ho := bit_odd (v.setWidth 8)
      rcases Bool.eq_false_or_eq_true (U1 (r.c0 >>> 7 &&& 1#8) == 1) with t1 | t1
      · rcases Bool.eq_false_or_eq_true (U1 ((v.setWidth 8) >>> 1 &&& 1#8) == 1) with t2 | t2
        · rcases Bool.eq_false_or_eq_true (U1 ((v.setWidth 8) &&& 1#8) == 1) with t3 | t3
          · clear ho
            have H := hide (cfg1_no1 (n := v.setWidth 8) (fun e => by rw [bit7, u1_z _ e] at t1; cases t1))
            go_wp2_with fail
            refine (RBit_7 _ _).mono ?_
            rintro e w' ⟨rfl, rfl⟩
            rw [t1]
            go_wp2_with fail
            refine (RBit_1 _ _).mono ?_
            rintro e w' ⟨rfl, rfl⟩
            rw [t2]
            go_wp2_with fail
            refine (RBit_0 _ _).mono ?_
            rintro e w' ⟨rfl, rfl⟩
            rw [t3]
            go_wp2_with fail
            go_roundw
            case rel => exact ⟨1, by omega, by go_num, by rw [vAt_1], by simp only [cfgUp, H.out]⟩
            case measure => simp [intOf]
          · clear ho
            have H := hide (cfg1_no1 (n := v.setWidth 8) (fun e => by rw [bit7, u1_z _ e] at t1; cases t1))
            go_wp2_with fail
            refine (RBit_7 _ _).mono ?_
            rintro e w' ⟨rfl, rfl⟩
            rw [t1]
            go_wp2_with fail
            refine (RBit_1 _ _).mono ?_
            rintro e w' ⟨rfl, rfl⟩
            rw [t2]
            go_wp2_with fail
            refine (RBit_0 _ _).mono ?_
            rintro e w' ⟨rfl, rfl⟩
            rw [t3]
            go_wp2_with fail
            go_roundw
            case rel => exact ⟨1, by omega, by go_num, by rw [vAt_1], by simp only [cfgUp, H.out]⟩
            case measure => simp [intOf]
        · clear ho
          have H := hide (cfg1_no1 (n := v.setWidth 8) (fun e => by rw [bit7, u1_z _ e] at t1; cases t1))
          go_wp2_with fail
          refine (RBit_7 _ _).mono ?_
          rintro e w' ⟨rfl, rfl⟩
          rw [t1]
          go_wp2_with fail
          refine (RBit_1 _ _).mono ?_
          rintro e w' ⟨rfl, rfl⟩
          rw [t2]
          go_wp2_with fail
          go_roundw
          case rel => exact ⟨1, by omega, by go_num, by rw [vAt_1], by simp only [cfgUp, H.out]⟩
          case measure => simp [intOf]
      · have hz : r.c0 &&& 128#8 = 0#8 := by
          by_cases e : r.c0 &&& 128#8 = 0#8
          · exact e
          · rw [bit7, u1_nz _ e] at t1; cases t1
        rcases Bool.eq_false_or_eq_true (U1 ((v.setWidth 8) >>> 1 &&& 1#8) == 1) with t2 | t2
        · rcases Bool.eq_false_or_eq_true (U1 ((v.setWidth 8) &&& 1#8) == 1) with t3 | t3
          · have K := cfg1_yes (n := v.setWidth 8) hz (fun e => by have := (ho.1 e).2; rw [t3] at this; cases this)
            clear ho hz
            have H := hide (K)
            clear K
            go_wp2_with fail
            refine (RBit_7 _ _).mono ?_
            rintro e w' ⟨rfl, rfl⟩
            rw [t1]
            go_wp2_with fail
            refine (RBit_1 _ _).mono ?_
            rintro e w' ⟨rfl, rfl⟩
            rw [t2]
            go_wp2_with fail
            refine (RBit_0 _ _).mono ?_
            rintro e w' ⟨rfl, rfl⟩
            rw [t3]
            go_wp2_with fail
            go_roundw
            case rel => exact ⟨1, by omega, by go_num, by rw [vAt_1], by simp only [cfgUp, H.out]⟩
            case measure => simp [intOf]
          · have K := cfg1_no2 (c := r.c0) (ho.2 ⟨t2, t3⟩)
            clear ho hz
            have H := hide (K)
            clear K
            go_wp2_with fail
            refine (RBit_7 _ _).mono ?_
            rintro e w' ⟨rfl, rfl⟩
            rw [t1]
            go_wp2_with fail
            refine (RBit_1 _ _).mono ?_
            rintro e w' ⟨rfl, rfl⟩
            rw [t2]
            go_wp2_with fail
            refine (RBit_0 _ _).mono ?_
            rintro e w' ⟨rfl, rfl⟩
            rw [t3]
            go_wp2_with fail
            go_roundw
            case rel => exact ⟨1, by omega, by go_num, by rw [vAt_1], by simp only [cfgUp, H.out]⟩
            case measure => simp [intOf]
        · have K := cfg1_yes (n := v.setWidth 8) hz (fun e => by have := (ho.1 e).1; rw [t2] at this; cases this)
          clear ho hz
          have H := hide (K)
          clear K
          go_wp2_with fail
          refine (RBit_7 _ _).mono ?_
          rintro e w' ⟨rfl, rfl⟩
          rw [t1]
          go_wp2_with fail
          refine (RBit_1 _ _).mono ?_
          rintro e w' ⟨rfl, rfl⟩
          rw [t2]
          go_wp2_with fail
          go_roundw
          case rel => exact ⟨1, by omega, by go_num, by rw [vAt_1], by simp only [cfgUp, H.out]⟩
          case measure => simp [intOf]

    · rw [show vAt v 1 = v >>> 8 from rfl]
      have ho := bit_odd ((v >>> 8).setWidth 8)
      rcases Bool.eq_false_or_eq_true (U1 (r.c1 >>> 7 &&& 1#8) == 1) with t1 | t1
      · rcases Bool.eq_false_or_eq_true (U1 (((v >>> 8).setWidth 8) >>> 1 &&& 1#8) == 1) with t2 | t2
        · rcases Bool.eq_false_or_eq_true (U1 (((v >>> 8).setWidth 8) &&& 1#8) == 1) with t3 | t3
          · clear ho
            have H := hide (cfg1_no1 (n := (v >>> 8).setWidth 8) (fun e => by rw [bit7, u1_z _ e] at t1; cases t1))
            go_wp2_with fail
            refine (RBit_7 _ _).mono ?_
            rintro e w' ⟨rfl, rfl⟩
            rw [t1]
            go_wp2_with fail
            refine (RBit_1 _ _).mono ?_
            rintro e w' ⟨rfl, rfl⟩
            rw [t2]
            go_wp2_with fail
            refine (RBit_0 _ _).mono ?_
            rintro e w' ⟨rfl, rfl⟩
            rw [t3]
            go_wp2_with fail
            go_roundw
            case rel => exact ⟨2, by omega, by go_num, by rw [vAt_2], by simp only [cfgUp, H.out]⟩
            case measure => simp [intOf]
          · clear ho
            have H := hide (cfg1_no1 (n := (v >>> 8).setWidth 8) (fun e => by rw [bit7, u1_z _ e] at t1; cases t1))
            go_wp2_with fail
            refine (RBit_7 _ _).mono ?_
            rintro e w' ⟨rfl, rfl⟩
            rw [t1]
            go_wp2_with fail
            refine (RBit_1 _ _).mono ?_
            rintro e w' ⟨rfl, rfl⟩
            rw [t2]
            go_wp2_with fail
            refine (RBit_0 _ _).mono ?_
            rintro e w' ⟨rfl, rfl⟩
            rw [t3]
            go_wp2_with fail
            go_roundw
            case rel => exact ⟨2, by omega, by go_num, by rw [vAt_2], by simp only [cfgUp, H.out]⟩
            case measure => simp [intOf]
        · clear ho
          have H := hide (cfg1_no1 (n := (v >>> 8).setWidth 8) (fun e => by rw [bit7, u1_z _ e] at t1; cases t1))
          go_wp2_with fail
          refine (RBit_7 _ _).mono ?_
          rintro e w' ⟨rfl, rfl⟩
          rw [t1]
          go_wp2_with fail
          refine (RBit_1 _ _).mono ?_
          rintro e w' ⟨rfl, rfl⟩
          rw [t2]
          go_wp2_with fail
          go_roundw
          case rel => exact ⟨2, by omega, by go_num, by rw [vAt_2], by simp only [cfgUp, H.out]⟩
          case measure => simp [intOf]
      · have hz : r.c1 &&& 128#8 = 0#8 := by
          by_cases e : r.c1 &&& 128#8 = 0#8
          · exact e
          · rw [bit7, u1_nz _ e] at t1; cases t1
        rcases Bool.eq_false_or_eq_true (U1 (((v >>> 8).setWidth 8) >>> 1 &&& 1#8) == 1) with t2 | t2
        · rcases Bool.eq_false_or_eq_true (U1 (((v >>> 8).setWidth 8) &&& 1#8) == 1) with t3 | t3
          · have K := cfg1_yes (n := (v >>> 8).setWidth 8) hz (fun e => by have := (ho.1 e).2; rw [t3] at this; cases this)
            clear ho hz
            have H := hide (K)
            clear K
            go_wp2_with fail
            refine (RBit_7 _ _).mono ?_
            rintro e w' ⟨rfl, rfl⟩
            rw [t1]
            go_wp2_with fail
            refine (RBit_1 _ _).mono ?_
            rintro e w' ⟨rfl, rfl⟩
            rw [t2]
            go_wp2_with fail
            refine (RBit_0 _ _).mono ?_
            rintro e w' ⟨rfl, rfl⟩
            rw [t3]
            go_wp2_with fail
            go_roundw
            case rel => exact ⟨2, by omega, by go_num, by rw [vAt_2], by simp only [cfgUp, H.out]⟩
            case measure => simp [intOf]
          · have K := cfg1_no2 (c := r.c1) (ho.2 ⟨t2, t3⟩)
            clear ho hz
            have H := hide (K)
            clear K
            go_wp2_with fail
            refine (RBit_7 _ _).mono ?_
            rintro e w' ⟨rfl, rfl⟩
            rw [t1]
            go_wp2_with fail
            refine (RBit_1 _ _).mono ?_
            rintro e w' ⟨rfl, rfl⟩
            rw [t2]
            go_wp2_with fail
            refine (RBit_0 _ _).mono ?_
            rintro e w' ⟨rfl, rfl⟩
            rw [t3]
            go_wp2_with fail
            go_roundw
            case rel => exact ⟨2, by omega, by go_num, by rw [vAt_2], by simp only [cfgUp, H.out]⟩
            case measure => simp [intOf]
        · have K := cfg1_yes (n := (v >>> 8).setWidth 8) hz (fun e => by have := (ho.1 e).1; rw [t2] at this; cases this)
          clear ho hz
          have H := hide (K)
          clear K
          go_wp2_with fail
          refine (RBit_7 _ _).mono ?_
          rintro e w' ⟨rfl, rfl⟩
          rw [t1]
          go_wp2_with fail
          refine (RBit_1 _ _).mono ?_
          rintro e w' ⟨rfl, rfl⟩
          rw [t2]
          go_wp2_with fail
          go_roundw
          case rel => exact ⟨2, by omega, by go_num, by rw [vAt_2], by simp only [cfgUp, H.out]⟩
          case measure => simp [intOf]

    · rw [show vAt v 2 = v >>> 16 from rfl]
      have ho := bit_odd ((v >>> 16).setWidth 8)
      rcases Bool.eq_false_or_eq_true (U1 (r.c2 >>> 7 &&& 1#8) == 1) with t1 | t1
      · rcases Bool.eq_false_or_eq_true (U1 (((v >>> 16).setWidth 8) >>> 1 &&& 1#8) == 1) with t2 | t2
        · rcases Bool.eq_false_or_eq_true (U1 (((v >>> 16).setWidth 8) &&& 1#8) == 1) with t3 | t3
          · clear ho
            have H := hide (cfg1_no1 (n := (v >>> 16).setWidth 8) (fun e => by rw [bit7, u1_z _ e] at t1; cases t1))
            go_wp2_with fail
            refine (RBit_7 _ _).mono ?_
            rintro e w' ⟨rfl, rfl⟩
            rw [t1]
            go_wp2_with fail
            refine (RBit_1 _ _).mono ?_
            rintro e w' ⟨rfl, rfl⟩
            rw [t2]
            go_wp2_with fail
            refine (RBit_0 _ _).mono ?_
            rintro e w' ⟨rfl, rfl⟩
            rw [t3]
            go_wp2_with fail
            go_roundw
            case rel => exact ⟨3, by omega, by go_num, by rw [vAt_3], by simp only [cfgUp, H.out]⟩
            case measure => simp [intOf]
          · clear ho
            have H := hide (cfg1_no1 (n := (v >>> 16).setWidth 8) (fun e => by rw [bit7, u1_z _ e] at t1; cases t1))
            go_wp2_with fail
            refine (RBit_7 _ _).mono ?_
            rintro e w' ⟨rfl, rfl⟩
            rw [t1]
            go_wp2_with fail
            refine (RBit_1 _ _).mono ?_
            rintro e w' ⟨rfl, rfl⟩
            rw [t2]
            go_wp2_with fail
            refine (RBit_0 _ _).mono ?_
            rintro e w' ⟨rfl, rfl⟩
            rw [t3]
            go_wp2_with fail
            go_roundw
            case rel => exact ⟨3, by omega, by go_num, by rw [vAt_3], by simp only [cfgUp, H.out]⟩
            case measure => simp [intOf]
        · clear ho
          have H := hide (cfg1_no1 (n := (v >>> 16).setWidth 8) (fun e => by rw [bit7, u1_z _ e] at t1; cases t1))
          go_wp2_with fail
          refine (RBit_7 _ _).mono ?_
          rintro e w' ⟨rfl, rfl⟩
          rw [t1]
          go_wp2_with fail
          refine (RBit_1 _ _).mono ?_
          rintro e w' ⟨rfl, rfl⟩
          rw [t2]
          go_wp2_with fail
          go_roundw
          case rel => exact ⟨3, by omega, by go_num, by rw [vAt_3], by simp only [cfgUp, H.out]⟩
          case measure => simp [intOf]
      · have hz : r.c2 &&& 128#8 = 0#8 := by
          by_cases e : r.c2 &&& 128#8 = 0#8
          · exact e
          · rw [bit7, u1_nz _ e] at t1; cases t1
        rcases Bool.eq_false_or_eq_true (U1 (((v >>> 16).setWidth 8) >>> 1 &&& 1#8) == 1) with t2 | t2
        · rcases Bool.eq_false_or_eq_true (U1 (((v >>> 16).setWidth 8) &&& 1#8) == 1) with t3 | t3
          · have K := cfg1_yes (n := (v >>> 16).setWidth 8) hz (fun e => by have := (ho.1 e).2; rw [t3] at this; cases this)
            clear ho hz
            have H := hide (K)
            clear K
            go_wp2_with fail
            refine (RBit_7 _ _).mono ?_
            rintro e w' ⟨rfl, rfl⟩
            rw [t1]
            go_wp2_with fail
            refine (RBit_1 _ _).mono ?_
            rintro e w' ⟨rfl, rfl⟩
            rw [t2]
            go_wp2_with fail
            refine (RBit_0 _ _).mono ?_
            rintro e w' ⟨rfl, rfl⟩
            rw [t3]
            go_wp2_with fail
            go_roundw
            case rel => exact ⟨3, by omega, by go_num, by rw [vAt_3], by simp only [cfgUp, H.out]⟩
            case measure => simp [intOf]
          · have K := cfg1_no2 (c := r.c2) (ho.2 ⟨t2, t3⟩)
            clear ho hz
            have H := hide (K)
            clear K
            go_wp2_with fail
            refine (RBit_7 _ _).mono ?_
            rintro e w' ⟨rfl, rfl⟩
            rw [t1]
            go_wp2_with fail
            refine (RBit_1 _ _).mono ?_
            rintro e w' ⟨rfl, rfl⟩
            rw [t2]
            go_wp2_with fail
            refine (RBit_0 _ _).mono ?_
            rintro e w' ⟨rfl, rfl⟩
            rw [t3]
            go_wp2_with fail
            go_roundw
            case rel => exact ⟨3, by omega, by go_num, by rw [vAt_3], by simp only [cfgUp, H.out]⟩
            case measure => simp [intOf]
        · have K := cfg1_yes (n := (v >>> 16).setWidth 8) hz (fun e => by have := (ho.1 e).1; rw [t2] at this; cases this)
          clear ho hz
          have H := hide (K)
          clear K
          go_wp2_with fail
          refine (RBit_7 _ _).mono ?_
          rintro e w' ⟨rfl, rfl⟩
          rw [t1]
          go_wp2_with fail
          refine (RBit_1 _ _).mono ?_
          rintro e w' ⟨rfl, rfl⟩
          rw [t2]
          go_wp2_with fail
          go_roundw
          case rel => exact ⟨3, by omega, by go_num, by rw [vAt_3], by simp only [cfgUp, H.out]⟩
          case measure => simp [intOf]

    · rw [show vAt v 3 = v >>> 24 from rfl]
      have ho := bit_odd ((v >>> 24).setWidth 8)
      rcases Bool.eq_false_or_eq_true (U1 (r.c3 >>> 7 &&& 1#8) == 1) with t1 | t1
      · rcases Bool.eq_false_or_eq_true (U1 (((v >>> 24).setWidth 8) >>> 1 &&& 1#8) == 1) with t2 | t2
        · rcases Bool.eq_false_or_eq_true (U1 (((v >>> 24).setWidth 8) &&& 1#8) == 1) with t3 | t3
          · clear ho
            have H := hide (cfg1_no1 (n := (v >>> 24).setWidth 8) (fun e => by rw [bit7, u1_z _ e] at t1; cases t1))
            go_wp2_with fail
            refine (RBit_7 _ _).mono ?_
            rintro e w' ⟨rfl, rfl⟩
            rw [t1]
            go_wp2_with fail
            refine (RBit_1 _ _).mono ?_
            rintro e w' ⟨rfl, rfl⟩
            rw [t2]
            go_wp2_with fail
            refine (RBit_0 _ _).mono ?_
            rintro e w' ⟨rfl, rfl⟩
            rw [t3]
            go_wp2_with fail
            go_roundw
            case rel => exact ⟨4, by omega, by go_num, by rw [vAt_4], by simp only [cfgUp, H.out]⟩
            case measure => simp [intOf]
          · clear ho
            have H := hide (cfg1_no1 (n := (v >>> 24).setWidth 8) (fun e => by rw [bit7, u1_z _ e] at t1; cases t1))
            go_wp2_with fail
            refine (RBit_7 _ _).mono ?_
            rintro e w' ⟨rfl, rfl⟩
            rw [t1]
            go_wp2_with fail
            refine (RBit_1 _ _).mono ?_
            rintro e w' ⟨rfl, rfl⟩
            rw [t2]
            go_wp2_with fail
            refine (RBit_0 _ _).mono ?_
            rintro e w' ⟨rfl, rfl⟩
            rw [t3]
            go_wp2_with fail
            go_roundw
            case rel => exact ⟨4, by omega, by go_num, by rw [vAt_4], by simp only [cfgUp, H.out]⟩
            case measure => simp [intOf]
        · clear ho
          have H := hide (cfg1_no1 (n := (v >>> 24).setWidth 8) (fun e => by rw [bit7, u1_z _ e] at t1; cases t1))
          go_wp2_with fail
          refine (RBit_7 _ _).mono ?_
          rintro e w' ⟨rfl, rfl⟩
          rw [t1]
          go_wp2_with fail
          refine (RBit_1 _ _).mono ?_
          rintro e w' ⟨rfl, rfl⟩
          rw [t2]
          go_wp2_with fail
          go_roundw
          case rel => exact ⟨4, by omega, by go_num, by rw [vAt_4], by simp only [cfgUp, H.out]⟩
          case measure => simp [intOf]
      · have hz : r.c3 &&& 128#8 = 0#8 := by
          by_cases e : r.c3 &&& 128#8 = 0#8
          · exact e
          · rw [bit7, u1_nz _ e] at t1; cases t1
        rcases Bool.eq_false_or_eq_true (U1 (((v >>> 24).setWidth 8) >>> 1 &&& 1#8) == 1) with t2 | t2
        · rcases Bool.eq_false_or_eq_true (U1 (((v >>> 24).setWidth 8) &&& 1#8) == 1) with t3 | t3
          · have K := cfg1_yes (n := (v >>> 24).setWidth 8) hz (fun e => by have := (ho.1 e).2; rw [t3] at this; cases this)
            clear ho hz
            have H := hide (K)
            clear K
            go_wp2_with fail
            refine (RBit_7 _ _).mono ?_
            rintro e w' ⟨rfl, rfl⟩
            rw [t1]
            go_wp2_with fail
            refine (RBit_1 _ _).mono ?_
            rintro e w' ⟨rfl, rfl⟩
            rw [t2]
            go_wp2_with fail
            refine (RBit_0 _ _).mono ?_
            rintro e w' ⟨rfl, rfl⟩
            rw [t3]
            go_wp2_with fail
            go_roundw
            case rel => exact ⟨4, by omega, by go_num, by rw [vAt_4], by simp only [cfgUp, H.out]⟩
            case measure => simp [intOf]
          · have K := cfg1_no2 (c := r.c3) (ho.2 ⟨t2, t3⟩)
            clear ho hz
            have H := hide (K)
            clear K
            go_wp2_with fail
            refine (RBit_7 _ _).mono ?_
            rintro e w' ⟨rfl, rfl⟩
            rw [t1]
            go_wp2_with fail
            refine (RBit_1 _ _).mono ?_
            rintro e w' ⟨rfl, rfl⟩
            rw [t2]
            go_wp2_with fail
            refine (RBit_0 _ _).mono ?_
            rintro e w' ⟨rfl, rfl⟩
            rw [t3]
            go_wp2_with fail
            go_roundw
            case rel => exact ⟨4, by omega, by go_num, by rw [vAt_4], by simp only [cfgUp, H.out]⟩
            case measure => simp [intOf]
        · have K := cfg1_yes (n := (v >>> 24).setWidth 8) hz (fun e => by have := (ho.1 e).1; rw [t2] at this; cases this)
          clear ho hz
          have H := hide (K)
          clear K
          go_wp2_with fail
          refine (RBit_7 _ _).mono ?_
          rintro e w' ⟨rfl, rfl⟩
          rw [t1]
          go_wp2_with fail
          refine (RBit_1 _ _).mono ?_
          rintro e w' ⟨rfl, rfl⟩
          rw [t2]
          go_wp2_with fail
          go_roundw
          case rel => exact ⟨4, by omega, by go_num, by rw [vAt_4], by simp only [cfgUp, H.out]⟩
          case measure => simp [intOf]

    · rw [show vAt v 4 = v >>> 32 from rfl]
      have ho := bit_odd ((v >>> 32).setWidth 8)
      rcases Bool.eq_false_or_eq_true (U1 (r.c4 >>> 7 &&& 1#8) == 1) with t1 | t1
      · rcases Bool.eq_false_or_eq_true (U1 (((v >>> 32).setWidth 8) >>> 1 &&& 1#8) == 1) with t2 | t2
        · rcases Bool.eq_false_or_eq_true (U1 (((v >>> 32).setWidth 8) &&& 1#8) == 1) with t3 | t3
          · clear ho
            have H := hide (cfg1_no1 (n := (v >>> 32).setWidth 8) (fun e => by rw [bit7, u1_z _ e] at t1; cases t1))
            go_wp2_with fail
            refine (RBit_7 _ _).mono ?_
            rintro e w' ⟨rfl, rfl⟩
            rw [t1]
            go_wp2_with fail
            refine (RBit_1 _ _).mono ?_
            rintro e w' ⟨rfl, rfl⟩
            rw [t2]
            go_wp2_with fail
            refine (RBit_0 _ _).mono ?_
            rintro e w' ⟨rfl, rfl⟩
            rw [t3]
            go_wp2_with fail
            go_roundw
            case rel => exact ⟨5, by omega, by go_num, by rw [vAt_5], by simp only [cfgUp, H.out]⟩
            case measure => simp [intOf]
          · clear ho
            have H := hide (cfg1_no1 (n := (v >>> 32).setWidth 8) (fun e => by rw [bit7, u1_z _ e] at t1; cases t1))
            go_wp2_with fail
            refine (RBit_7 _ _).mono ?_
            rintro e w' ⟨rfl, rfl⟩
            rw [t1]
            go_wp2_with fail
            refine (RBit_1 _ _).mono ?_
            rintro e w' ⟨rfl, rfl⟩
            rw [t2]
            go_wp2_with fail
            refine (RBit_0 _ _).mono ?_
            rintro e w' ⟨rfl, rfl⟩
            rw [t3]
            go_wp2_with fail
            go_roundw
            case rel => exact ⟨5, by omega, by go_num, by rw [vAt_5], by simp only [cfgUp, H.out]⟩
            case measure => simp [intOf]
        · clear ho
          have H := hide (cfg1_no1 (n := (v >>> 32).setWidth 8) (fun e => by rw [bit7, u1_z _ e] at t1; cases t1))
          go_wp2_with fail
          refine (RBit_7 _ _).mono ?_
          rintro e w' ⟨rfl, rfl⟩
          rw [t1]
          go_wp2_with fail
          refine (RBit_1 _ _).mono ?_
          rintro e w' ⟨rfl, rfl⟩
          rw [t2]
          go_wp2_with fail
          go_roundw
          case rel => exact ⟨5, by omega, by go_num, by rw [vAt_5], by simp only [cfgUp, H.out]⟩
          case measure => simp [intOf]
      · have hz : r.c4 &&& 128#8 = 0#8 := by
          by_cases e : r.c4 &&& 128#8 = 0#8
          · exact e
          · rw [bit7, u1_nz _ e] at t1; cases t1
        rcases Bool.eq_false_or_eq_true (U1 (((v >>> 32).setWidth 8) >>> 1 &&& 1#8) == 1) with t2 | t2
        · rcases Bool.eq_false_or_eq_true (U1 (((v >>> 32).setWidth 8) &&& 1#8) == 1) with t3 | t3
          · have K := cfg1_yes (n := (v >>> 32).setWidth 8) hz (fun e => by have := (ho.1 e).2; rw [t3] at this; cases this)
            clear ho hz
            have H := hide (K)
            clear K
            go_wp2_with fail
            refine (RBit_7 _ _).mono ?_
            rintro e w' ⟨rfl, rfl⟩
            rw [t1]
            go_wp2_with fail
            refine (RBit_1 _ _).mono ?_
            rintro e w' ⟨rfl, rfl⟩
            rw [t2]
            go_wp2_with fail
            refine (RBit_0 _ _).mono ?_
            rintro e w' ⟨rfl, rfl⟩
            rw [t3]
            go_wp2_with fail
            go_roundw
            case rel => exact ⟨5, by omega, by go_num, by rw [vAt_5], by simp only [cfgUp, H.out]⟩
            case measure => simp [intOf]
          · have K := cfg1_no2 (c := r.c4) (ho.2 ⟨t2, t3⟩)
            clear ho hz
            have H := hide (K)
            clear K
            go_wp2_with fail
            refine (RBit_7 _ _).mono ?_
            rintro e w' ⟨rfl, rfl⟩
            rw [t1]
            go_wp2_with fail
            refine (RBit_1 _ _).mono ?_
            rintro e w' ⟨rfl, rfl⟩
            rw [t2]
            go_wp2_with fail
            refine (RBit_0 _ _).mono ?_
            rintro e w' ⟨rfl, rfl⟩
            rw [t3]
            go_wp2_with fail
            go_roundw
            case rel => exact ⟨5, by omega, by go_num, by rw [vAt_5], by simp only [cfgUp, H.out]⟩
            case measure => simp [intOf]
        · have K := cfg1_yes (n := (v >>> 32).setWidth 8) hz (fun e => by have := (ho.1 e).1; rw [t2] at this; cases this)
          clear ho hz
          have H := hide (K)
          clear K
          go_wp2_with fail
          refine (RBit_7 _ _).mono ?_
          rintro e w' ⟨rfl, rfl⟩
          rw [t1]
          go_wp2_with fail
          refine (RBit_1 _ _).mono ?_
          rintro e w' ⟨rfl, rfl⟩
          rw [t2]
          go_wp2_with fail
          go_roundw
          case rel => exact ⟨5, by omega, by go_num, by rw [vAt_5], by simp only [cfgUp, H.out]⟩
          case measure => simp [intOf]

    · rw [show vAt v 5 = v >>> 40 from rfl]
      have ho := bit_odd ((v >>> 40).setWidth 8)
      rcases Bool.eq_false_or_eq_true (U1 (r.c5 >>> 7 &&& 1#8) == 1) with t1 | t1
      · rcases Bool.eq_false_or_eq_true (U1 (((v >>> 40).setWidth 8) >>> 1 &&& 1#8) == 1) with t2 | t2
        · rcases Bool.eq_false_or_eq_true (U1 (((v >>> 40).setWidth 8) &&& 1#8) == 1) with t3 | t3
          · clear ho
            have H := hide (cfg1_no1 (n := (v >>> 40).setWidth 8) (fun e => by rw [bit7, u1_z _ e] at t1; cases t1))
            go_wp2_with fail
            refine (RBit_7 _ _).mono ?_
            rintro e w' ⟨rfl, rfl⟩
            rw [t1]
            go_wp2_with fail
            refine (RBit_1 _ _).mono ?_
            rintro e w' ⟨rfl, rfl⟩
            rw [t2]
            go_wp2_with fail
            refine (RBit_0 _ _).mono ?_
            rintro e w' ⟨rfl, rfl⟩
            rw [t3]
            go_wp2_with fail
            go_roundw
            case rel => exact ⟨6, by omega, by go_num, by rw [vAt_6], by simp only [cfgUp, H.out]⟩
            case measure => simp [intOf]
          · clear ho
            have H := hide (cfg1_no1 (n := (v >>> 40).setWidth 8) (fun e => by rw [bit7, u1_z _ e] at t1; cases t1))
            go_wp2_with fail
            refine (RBit_7 _ _).mono ?_
            rintro e w' ⟨rfl, rfl⟩
            rw [t1]
            go_wp2_with fail
            refine (RBit_1 _ _).mono ?_
            rintro e w' ⟨rfl, rfl⟩
            rw [t2]
            go_wp2_with fail
            refine (RBit_0 _ _).mono ?_
            rintro e w' ⟨rfl, rfl⟩
            rw [t3]
            go_wp2_with fail
            go_roundw
            case rel => exact ⟨6, by omega, by go_num, by rw [vAt_6], by simp only [cfgUp, H.out]⟩
            case measure => simp [intOf]
        · clear ho
          have H := hide (cfg1_no1 (n := (v >>> 40).setWidth 8) (fun e => by rw [bit7, u1_z _ e] at t1; cases t1))
          go_wp2_with fail
          refine (RBit_7 _ _).mono ?_
          rintro e w' ⟨rfl, rfl⟩
          rw [t1]
          go_wp2_with fail
          refine (RBit_1 _ _).mono ?_
          rintro e w' ⟨rfl, rfl⟩
          rw [t2]
          go_wp2_with fail
          go_roundw
          case rel => exact ⟨6, by omega, by go_num, by rw [vAt_6], by simp only [cfgUp, H.out]⟩
          case measure => simp [intOf]
      · have hz : r.c5 &&& 128#8 = 0#8 := by
          by_cases e : r.c5 &&& 128#8 = 0#8
          · exact e
          · rw [bit7, u1_nz _ e] at t1; cases t1
        rcases Bool.eq_false_or_eq_true (U1 (((v >>> 40).setWidth 8) >>> 1 &&& 1#8) == 1) with t2 | t2
        · rcases Bool.eq_false_or_eq_true (U1 (((v >>> 40).setWidth 8) &&& 1#8) == 1) with t3 | t3
          · have K := cfg1_yes (n := (v >>> 40).setWidth 8) hz (fun e => by have := (ho.1 e).2; rw [t3] at this; cases this)
            clear ho hz
            have H := hide (K)
            clear K
            go_wp2_with fail
            refine (RBit_7 _ _).mono ?_
            rintro e w' ⟨rfl, rfl⟩
            rw [t1]
            go_wp2_with fail
            refine (RBit_1 _ _).mono ?_
            rintro e w' ⟨rfl, rfl⟩
            rw [t2]
            go_wp2_with fail
            refine (RBit_0 _ _).mono ?_
            rintro e w' ⟨rfl, rfl⟩
            rw [t3]
            go_wp2_with fail
            go_roundw
            case rel => exact ⟨6, by omega, by go_num, by rw [vAt_6], by simp only [cfgUp, H.out]⟩
            case measure => simp [intOf]
          · have K := cfg1_no2 (c := r.c5) (ho.2 ⟨t2, t3⟩)
            clear ho hz
            have H := hide (K)
            clear K
            go_wp2_with fail
            refine (RBit_7 _ _).mono ?_
            rintro e w' ⟨rfl, rfl⟩
            rw [t1]
            go_wp2_with fail
            refine (RBit_1 _ _).mono ?_
            rintro e w' ⟨rfl, rfl⟩
            rw [t2]
            go_wp2_with fail
            refine (RBit_0 _ _).mono ?_
            rintro e w' ⟨rfl, rfl⟩
            rw [t3]
            go_wp2_with fail
            go_roundw
            case rel => exact ⟨6, by omega, by go_num, by rw [vAt_6], by simp only [cfgUp, H.out]⟩
            case measure => simp [intOf]
        · have K := cfg1_yes (n := (v >>> 40).setWidth 8) hz (fun e => by have := (ho.1 e).1; rw [t2] at this; cases this)
          clear ho hz
          have H := hide (K)
          clear K
          go_wp2_with fail
          refine (RBit_7 _ _).mono ?_
          rintro e w' ⟨rfl, rfl⟩
          rw [t1]
          go_wp2_with fail
          refine (RBit_1 _ _).mono ?_
          rintro e w' ⟨rfl, rfl⟩
          rw [t2]
          go_wp2_with fail
          go_roundw
          case rel => exact ⟨6, by omega, by go_num, by rw [vAt_6], by simp only [cfgUp, H.out]⟩
          case measure => simp [intOf]

    · rw [show vAt v 6 = v >>> 48 from rfl]
      have ho := bit_odd ((v >>> 48).setWidth 8)
      rcases Bool.eq_false_or_eq_true (U1 (r.c6 >>> 7 &&& 1#8) == 1) with t1 | t1
      · rcases Bool.eq_false_or_eq_true (U1 (((v >>> 48).setWidth 8) >>> 1 &&& 1#8) == 1) with t2 | t2
        · rcases Bool.eq_false_or_eq_true (U1 (((v >>> 48).setWidth 8) &&& 1#8) == 1) with t3 | t3
          · clear ho
            have H := hide (cfg1_no1 (n := (v >>> 48).setWidth 8) (fun e => by rw [bit7, u1_z _ e] at t1; cases t1))
            go_wp2_with fail
            refine (RBit_7 _ _).mono ?_
            rintro e w' ⟨rfl, rfl⟩
            rw [t1]
            go_wp2_with fail
            refine (RBit_1 _ _).mono ?_
            rintro e w' ⟨rfl, rfl⟩
            rw [t2]
            go_wp2_with fail
            refine (RBit_0 _ _).mono ?_
            rintro e w' ⟨rfl, rfl⟩
            rw [t3]
            go_wp2_with fail
            go_roundw
            case rel => exact ⟨7, by omega, by go_num, by rw [vAt_7], by simp only [cfgUp, H.out]⟩
            case measure => simp [intOf]
          · clear ho
            have H := hide (cfg1_no1 (n := (v >>> 48).setWidth 8) (fun e => by rw [bit7, u1_z _ e] at t1; cases t1))
            go_wp2_with fail
            refine (RBit_7 _ _).mono ?_
            rintro e w' ⟨rfl, rfl⟩
            rw [t1]
            go_wp2_with fail
            refine (RBit_1 _ _).mono ?_
            rintro e w' ⟨rfl, rfl⟩
            rw [t2]
            go_wp2_with fail
            refine (RBit_0 _ _).mono ?_
            rintro e w' ⟨rfl, rfl⟩
            rw [t3]
            go_wp2_with fail
            go_roundw
            case rel => exact ⟨7, by omega, by go_num, by rw [vAt_7], by simp only [cfgUp, H.out]⟩
            case measure => simp [intOf]
        · clear ho
          have H := hide (cfg1_no1 (n := (v >>> 48).setWidth 8) (fun e => by rw [bit7, u1_z _ e] at t1; cases t1))
          go_wp2_with fail
          refine (RBit_7 _ _).mono ?_
          rintro e w' ⟨rfl, rfl⟩
          rw [t1]
          go_wp2_with fail
          refine (RBit_1 _ _).mono ?_
          rintro e w' ⟨rfl, rfl⟩
          rw [t2]
          go_wp2_with fail
          go_roundw
          case rel => exact ⟨7, by omega, by go_num, by rw [vAt_7], by simp only [cfgUp, H.out]⟩
          case measure => simp [intOf]
      · have hz : r.c6 &&& 128#8 = 0#8 := by
          by_cases e : r.c6 &&& 128#8 = 0#8
          · exact e
          · rw [bit7, u1_nz _ e] at t1; cases t1
        rcases Bool.eq_false_or_eq_true (U1 (((v >>> 48).setWidth 8) >>> 1 &&& 1#8) == 1) with t2 | t2
        · rcases Bool.eq_false_or_eq_true (U1 (((v >>> 48).setWidth 8) &&& 1#8) == 1) with t3 | t3
          · have K := cfg1_yes (n := (v >>> 48).setWidth 8) hz (fun e => by have := (ho.1 e).2; rw [t3] at this; cases this)
            clear ho hz
            have H := hide (K)
            clear K
            go_wp2_with fail
            refine (RBit_7 _ _).mono ?_
            rintro e w' ⟨rfl, rfl⟩
            rw [t1]
            go_wp2_with fail
            refine (RBit_1 _ _).mono ?_
            rintro e w' ⟨rfl, rfl⟩
            rw [t2]
            go_wp2_with fail
            refine (RBit_0 _ _).mono ?_
            rintro e w' ⟨rfl, rfl⟩
            rw [t3]
            go_wp2_with fail
            go_roundw
            case rel => exact ⟨7, by omega, by go_num, by rw [vAt_7], by simp only [cfgUp, H.out]⟩
            case measure => simp [intOf]
          · have K := cfg1_no2 (c := r.c6) (ho.2 ⟨t2, t3⟩)
            clear ho hz
            have H := hide (K)
            clear K
            go_wp2_with fail
            refine (RBit_7 _ _).mono ?_
            rintro e w' ⟨rfl, rfl⟩
            rw [t1]
            go_wp2_with fail
            refine (RBit_1 _ _).mono ?_
            rintro e w' ⟨rfl, rfl⟩
            rw [t2]
            go_wp2_with fail
            refine (RBit_0 _ _).mono ?_
            rintro e w' ⟨rfl, rfl⟩
            rw [t3]
            go_wp2_with fail
            go_roundw
            case rel => exact ⟨7, by omega, by go_num, by rw [vAt_7], by simp only [cfgUp, H.out]⟩
            case measure => simp [intOf]
        · have K := cfg1_yes (n := (v >>> 48).setWidth 8) hz (fun e => by have := (ho.1 e).1; rw [t2] at this; cases this)
          clear ho hz
          have H := hide (K)
          clear K
          go_wp2_with fail
          refine (RBit_7 _ _).mono ?_
          rintro e w' ⟨rfl, rfl⟩
          rw [t1]
          go_wp2_with fail
          refine (RBit_1 _ _).mono ?_
          rintro e w' ⟨rfl, rfl⟩
          rw [t2]
          go_wp2_with fail
          go_roundw
          case rel => exact ⟨7, by omega, by go_num, by rw [vAt_7], by simp only [cfgUp, H.out]⟩
          case measure => simp [intOf]

    · rw [show vAt v 7 = v >>> 56 from rfl]
      have ho := bit_odd ((v >>> 56).setWidth 8)
      rcases Bool.eq_false_or_eq_true (U1 (r.c7 >>> 7 &&& 1#8) == 1) with t1 | t1
      · rcases Bool.eq_false_or_eq_true (U1 (((v >>> 56).setWidth 8) >>> 1 &&& 1#8) == 1) with t2 | t2
        · rcases Bool.eq_false_or_eq_true (U1 (((v >>> 56).setWidth 8) &&& 1#8) == 1) with t3 | t3
          · clear ho
            have H := hide (cfg1_no1 (n := (v >>> 56).setWidth 8) (fun e => by rw [bit7, u1_z _ e] at t1; cases t1))
            go_wp2_with fail
            refine (RBit_7 _ _).mono ?_
            rintro e w' ⟨rfl, rfl⟩
            rw [t1]
            go_wp2_with fail
            refine (RBit_1 _ _).mono ?_
            rintro e w' ⟨rfl, rfl⟩
            rw [t2]
            go_wp2_with fail
            refine (RBit_0 _ _).mono ?_
            rintro e w' ⟨rfl, rfl⟩
            rw [t3]
            go_wp2_with fail
            go_roundw
            case rel => exact ⟨8, by omega, by go_num, by rw [vAt_8], by simp only [cfgUp, H.out]⟩
            case measure => simp [intOf]
          · clear ho
            have H := hide (cfg1_no1 (n := (v >>> 56).setWidth 8) (fun e => by rw [bit7, u1_z _ e] at t1; cases t1))
            go_wp2_with fail
            refine (RBit_7 _ _).mono ?_
            rintro e w' ⟨rfl, rfl⟩
            rw [t1]
            go_wp2_with fail
            refine (RBit_1 _ _).mono ?_
            rintro e w' ⟨rfl, rfl⟩
            rw [t2]
            go_wp2_with fail
            refine (RBit_0 _ _).mono ?_
            rintro e w' ⟨rfl, rfl⟩
            rw [t3]
            go_wp2_with fail
            go_roundw
            case rel => exact ⟨8, by omega, by go_num, by rw [vAt_8], by simp only [cfgUp, H.out]⟩
            case measure => simp [intOf]
        · clear ho
          have H := hide (cfg1_no1 (n := (v >>> 56).setWidth 8) (fun e => by rw [bit7, u1_z _ e] at t1; cases t1))
          go_wp2_with fail
          refine (RBit_7 _ _).mono ?_
          rintro e w' ⟨rfl, rfl⟩
          rw [t1]
          go_wp2_with fail
          refine (RBit_1 _ _).mono ?_
          rintro e w' ⟨rfl, rfl⟩
          rw [t2]
          go_wp2_with fail
          go_roundw
          case rel => exact ⟨8, by omega, by go_num, by rw [vAt_8], by simp only [cfgUp, H.out]⟩
          case measure => simp [intOf]
      · have hz : r.c7 &&& 128#8 = 0#8 := by
          by_cases e : r.c7 &&& 128#8 = 0#8
          · exact e
          · rw [bit7, u1_nz _ e] at t1; cases t1
        rcases Bool.eq_false_or_eq_true (U1 (((v >>> 56).setWidth 8) >>> 1 &&& 1#8) == 1) with t2 | t2
        · rcases Bool.eq_false_or_eq_true (U1 (((v >>> 56).setWidth 8) &&& 1#8) == 1) with t3 | t3
          · have K := cfg1_yes (n := (v >>> 56).setWidth 8) hz (fun e => by have := (ho.1 e).2; rw [t3] at this; cases this)
            clear ho hz
            have H := hide (K)
            clear K
            go_wp2_with fail
            refine (RBit_7 _ _).mono ?_
            rintro e w' ⟨rfl, rfl⟩
            rw [t1]
            go_wp2_with fail
            refine (RBit_1 _ _).mono ?_
            rintro e w' ⟨rfl, rfl⟩
            rw [t2]
            go_wp2_with fail
            refine (RBit_0 _ _).mono ?_
            rintro e w' ⟨rfl, rfl⟩
            rw [t3]
            go_wp2_with fail
            go_roundw
            case rel => exact ⟨8, by omega, by go_num, by rw [vAt_8], by simp only [cfgUp, H.out]⟩
            case measure => simp [intOf]
          · have K := cfg1_no2 (c := r.c7) (ho.2 ⟨t2, t3⟩)
            clear ho hz
            have H := hide (K)
            clear K
            go_wp2_with fail
            refine (RBit_7 _ _).mono ?_
            rintro e w' ⟨rfl, rfl⟩
            rw [t1]
            go_wp2_with fail
            refine (RBit_1 _ _).mono ?_
            rintro e w' ⟨rfl, rfl⟩
            rw [t2]
            go_wp2_with fail
            refine (RBit_0 _ _).mono ?_
            rintro e w' ⟨rfl, rfl⟩
            rw [t3]
            go_wp2_with fail
            go_roundw
            case rel => exact ⟨8, by omega, by go_num, by rw [vAt_8], by simp only [cfgUp, H.out]⟩
            case measure => simp [intOf]
        · have K := cfg1_yes (n := (v >>> 56).setWidth 8) hz (fun e => by have := (ho.1 e).1; rw [t2] at this; cases this)
          clear ho hz
          have H := hide (K)
          clear K
          go_wp2_with fail
          refine (RBit_7 _ _).mono ?_
          rintro e w' ⟨rfl, rfl⟩
          rw [t1]
          go_wp2_with fail
          refine (RBit_1 _ _).mono ?_
          rintro e w' ⟨rfl, rfl⟩
          rw [t2]
          go_wp2_with fail
          go_roundw
          case rel => exact ⟨8, by omega, by go_num, by rw [vAt_8], by simp only [cfgUp, H.out]⟩
          case measure => simp [intOf]

    · go_wp2_with fail
      refine bodyPost_ret (v := .agg (G (cfgW r v))) (by simp [results, Try.results37, go_sem]; rfl) rfl ⟨rfl, below3 _ _ _ _⟩
end Go.Proofs.Ytgkajhpmgeofkaa
