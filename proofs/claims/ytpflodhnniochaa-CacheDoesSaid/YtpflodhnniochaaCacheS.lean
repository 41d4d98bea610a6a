/-
  The walk of CacheStays.
-/
import Derived.Test.YtpflodhnniochaaCacheL
namespace Go.Proofs.Ytpflodhnniochaa
set_option linter.unusedVariables false
open Go.RowKit Go.Maps

def shapeC (a b c d : Int) (e : BitVec 64) : Array Value := #[.int .i64 a, .int .i64 b, .int .i64 c, .int .i64 d, .int .u64 (U e)]
/-- The cells of a slice of bools. -/
def BoolsAt (w : World) (oa : Option Addr) (n : Nat) (B : Nat → Bool) : Prop :=
  n ≤ maxLen ∧ (0 < n → ∃ a, oa = some a ∧ a.block < w.heap.size ∧ ∀ i, i < n → w.cell? (a.add i) = some (.bool (B i)))
/-- The shape lies in block b; all that is older than W's end is as it was. -/
def Env (W : World) (sh : Array Value) (w : World) : Prop := Below W.heap.size W w ∧ w.heap[W.heap.size]? = some (.cells sh 24 (0, 0))
theorem Env.kept {W w w' : World} {sh : Array Value} {g : G} (h : Env W sh w) (k : Kept g.own w w') (ho : ∀ b, g.own b → W.heap.size < b) : Env W sh w' :=
  ⟨h.1.trans (k.below h.1.size (fun b hb e => absurd (ho b e) (by omega))), (k.block _ (Array.getElem?_eq_some_iff.1 h.2).1 (fun e => absurd (ho _ e) (Nat.lt_irrefl _))).trans h.2⟩
theorem Env.still {W w w' : World} {sh : Array Value} (h : Env W sh w) (k : Still w w') : Env W sh w' :=
  ⟨h.1.trans (k.below h.1.size (fun b hb e => e)), (k.block _ (Array.getElem?_eq_some_iff.1 h.2).1 (fun e => e)).trans h.2⟩
theorem Env.lt {W w : World} {sh : Array Value} (h : Env W sh w) : W.heap.size < w.heap.size := (Array.getElem?_eq_some_iff.1 h.2).1
theorem env_start (W : World) (sh : Array Value) : Env W sh (W.alloc (.cells sh 24)) := ⟨(Below.refl _ _).alloc (Nat.le_refl _) _, heap_alloc_new _ _⟩
theorem Env.below {W w w' : World} {sh : Array Value} (h : Env W sh w) (k : Below w.heap.size w w') : Env W sh w' :=
  ⟨h.1.trans (k.mono h.1.size), (k.block _ h.lt).trans h.2⟩
theorem Env.cells {W w : World} {a b c d : Int} {e : BitVec 64} (h : Env W (shapeC a b c d e) w) :
    w.cell? ⟨W.heap.size, 0, none⟩ = some (.int .i64 a) ∧ w.cell? ⟨W.heap.size, 1, none⟩ = some (.int .i64 b) ∧ w.cell? ⟨W.heap.size, 2, none⟩ = some (.int .i64 c) ∧ w.cell? ⟨W.heap.size, 3, none⟩ = some (.int .i64 d) ∧ w.cell? ⟨W.heap.size, 4, none⟩ = some (.int .u64 (U e)) := by
  have h2 := h.2
  refine ⟨?_, ?_, ?_, ?_, ?_⟩ <;> simp [World.cell?, h2, shapeC]
theorem addr_block (a : Addr) (i : Nat) : (a.add i).block = a.block := by unfold Addr.add; split <;> rfl
theorem New_one (w : World) (seed : BitVec 64) : Calls Try.prog 9 #[.int .i64 1, .int .i64 1, .int .i64 1, .int .i64 64, .int .u64 (U seed)] w fun e w' =>
    ∃ g, e = .returned (.pointer (some ⟨g.c, 0, none⟩)) ∧ Held w' g (newS 1 1 1 64 seed) ∧ Still w w' ∧ ∀ b, g.own b → w.heap.size ≤ b := New_1 w 1 1 64 seed (by decide) (by decide) (by decide)

set_option maxRecDepth 100000 in
set_option maxHeartbeats 8000000 in
theorem Stays_bad (W : World) (a b c d : Int) (seed at_ : BitVec 64) (lv : Value) (ticks : Int) (hbad : Bad a b c d) :
    Calls Try.prog 7 #[.agg (shapeC a b c d seed), .int .u64 (U at_), lv, .int .i64 ticks] W fun e w' => e = .returned (.bool true) ∧ Below W.heap.size W w' := by
  unfold shapeC
  go_enter Try.func7, Try.ntmps7
  go_wp2_with fail
  go_at_call 8
  have E0 := env_start W (shapeC a b c d seed)
  unfold shapeC at E0
  refine (fixed_any _).mono ?_
  rintro e w1 ⟨rfl, k1⟩
  have E1 : Env W (shapeC a b c d seed) w1 := E0.below k1
  clear E0 k1
  obtain ⟨c0, c1, c2, c3, c4⟩ := E1.cells
  go_wp2_with fail
  go_at_call 9
  refine (New_bad _ a b c d seed hbad).mono ?_
  rintro e w' ⟨rfl, rfl⟩
  go_wp2_with fail
  go_at_call 9
  refine (New_one _ seed).mono ?_
  rintro e w2 ⟨g, rfl, h2, k2, ho⟩
  have hB : Below W.heap.size W w2 := (E1.still k2).1
  clear c0 c1 c2 c3 c4 E1 h2 k2 ho
  go_wp2
  go_ret
  exact ⟨rfl, hB⟩

/-- Ahead of tick k. -/
noncomputable def stA (sets ways ns delay : Nat) (seed L : BitVec 64) (k : Nat) : St := if k ≤ delay then wst sets ways ns delay seed L (delay + 1 - k) else lst sets ways ns delay seed L false
theorem stA_wait {sets ways ns delay : Nat} {seed L : BitVec 64} {k : Nat} (h : k ≤ delay) : stA sets ways ns delay seed L k = wst sets ways ns delay seed L (delay + 1 - k) := if_pos h
theorem stA_there {sets ways ns delay : Nat} {seed L : BitVec 64} : stA sets ways ns delay seed L (delay + 1) = lst sets ways ns delay seed L false := if_neg (by omega)
theorem neD (w : World) (x : Int) : (binOp .neq 40 (.agg #[.int .u64 x, .int .u64 0, .bool false]) (.agg #[.int .u64 x, .int .u64 0, .bool false])).run Try.prog w = .ok (.bool false) w := by
  have e : (Op.equalIn 10000 40 (.agg #[.int .u64 x, .int .u64 0, .bool false]) (.agg #[.int .u64 x, .int .u64 0, .bool false])).run Try.prog w = .ok true w := by
    go_simp
  simp only [binOp]
  simp [Op.equal, Op.maxDepth, e]

set_option maxRecDepth 100000 in
set_option maxHeartbeats 8000000 in
theorem Stays_fine (W : World) (sets ways ns delay : Nat) (hfine : Fine sets ways ns delay) (seed at_ : BitVec 64) (oa : Option Addr) (n cap : Nat) (Bf : Nat → Bool) (hl : BoolsAt W oa n Bf) (ticks : Int) :
    Calls Try.prog 7 #[.agg (shapeC sets ways ns delay seed), .int .u64 (U at_), .slice oa n cap, .int .i64 ticks] W fun e w' => e = .returned (.bool true) ∧ Below W.heap.size W w' := by
  unfold shapeC
  go_enter Try.func7, Try.ntmps7
  go_wp2_with fail
  go_at_call 8
  have E0 := env_start W (shapeC sets ways ns delay seed)
  unfold shapeC at E0
  refine (fixed_any _).mono ?_
  rintro e w1 ⟨rfl, k1⟩
  have E1 : Env W (shapeC sets ways ns delay seed) w1 := E0.below k1
  clear E0 k1
  obtain ⟨c0, c1, c2, c3, c4⟩ := E1.cells
  go_wp2_with fail
  go_at_call 9
  refine (New_fine _ hfine seed).mono ?_
  rintro e w2 ⟨g, rfl, h2, k2, ho⟩
  have E2 := E1.still k2
  have hog : ∀ b, g.own b → W.heap.size < b := fun b e => Nat.lt_of_lt_of_le E1.lt (ho b e)
  clear c0 c1 c2 c3 c4 E1 k2 ho
  go_wp2_with fail
  go_at_call 11
  refine (Ask_any _ g _ at_ false h2).mono ?_
  rw [ask_new hfine.ns.1]
  rintro e w3 ⟨rfl, h3, k3⟩
  have E3 := E2.kept k3 hog
  clear E2 k3 h2
  generalize hLe : at_ / 64#64 = L at h3
  have hmask : L <<< 6 = at_ &&& ~~~63#64 := by rw [← hLe]; exact mask6 at_
  have hLe := hide hLe
  have hmask := hide hmask
  have hd1 : 1 ≤ delay := hfine.delay.1
  have hd2 : delay ≤ 64 := hfine.delay.2
  have hns := hide hfine.ns.1
  go_wp2_with fail
  go_loopw [10] (fun iv wr => ∃ k : Nat, 1 ≤ k ∧ k ≤ delay + 1 ∧ iv = .int .i64 k ∧ Env W (shapeC sets ways ns delay seed) wr ∧ Held wr g (stA sets ways ns delay seed L k)) (fun iv _ => delay + 1 - (intOf iv).toNat)
  case atStart => exact ⟨1, Nat.le_refl _, by omega, rfl, E3, by rw [stA_wait hd1]; exact h3⟩
  case round =>
    obtain ⟨k, hk1, hk2, rfl, E4, h4⟩ := hrel
    have E40 := hide E4
    have c3 := E4.cells.2.2.2.1
    clear E4
    by_cases hkd : k ≤ delay
    · have hms := meas_succ2 (n := delay + 1) (k := k) (by omega)
      have hk3 : k + 1 ≤ delay + 1 := by omega
      have hle : (k : Int) ≤ (delay : Int) := by omega
      by_cases hlt : k < delay
      · obtain ⟨m, hm⟩ : ∃ m, delay + 1 - k = m + 2 := ⟨delay - k - 1, by omega⟩
        have hm2 : delay + 1 - (k + 1) = m + 1 := by omega
        have hne : ¬ (k : Int) = (delay : Int) := by omega
        rw [stA_wait hkd, hm] at h4
        go_wp2_with fail
        go_at_call 13
        refine (Tick_lit _ g _ _ _ (tick_wait hns.out m) (fr_wst (by omega)) h4).mono ?_
        rintro e w4 ⟨v, rfl, o4, h5, k4⟩
        obtain ⟨z, zc, rfl⟩ := owns_none o4
        have E5 := hide (E40.out.kept k4 hog)
        have c3 := E5.out.cells.2.2.2.1
        clear h4 o4 k4 E40
        go_wp2
        go_roundw
        case rel => exact ⟨k + 1, by omega, hk3, by simp, E5.out, by rw [stA_wait hlt, hm2]; exact h5⟩
        case measure => exact hms
      · obtain rfl : k = delay := by omega
        rw [stA_wait hkd, show k + 1 - k = 1 by omega] at h4
        go_wp2_with fail
        go_at_call 13
        refine (Tick_lit _ g _ _ _ (tick_lands hfine) (fr_wst (by omega)) h4).mono ?_
        rintro e w4 ⟨v, rfl, o4, h5, k4⟩
        obtain ⟨b8, c8, rfl, hb8, hl8, hc8⟩ := owns_cells o4 Nat.zero_lt_one
        have x0 : w4.cell? ⟨b8, 0, none⟩ = some (.int .u64 (U (at_ &&& ~~~63#64))) := by rw [← hmask.out]; exact hc8 0 _ rfl
        have x1 : w4.cell? ⟨b8, 1, none⟩ = some (.int .u64 0) := hc8 1 _ rfl
        have x2 : w4.cell? ⟨b8, 2, none⟩ = some (.bool false) := hc8 2 _ rfl
        have E5 := hide (E40.out.kept k4 hog)
        have c3 := E5.out.cells.2.2.2.1
        have hne := neD w4 (U (at_ &&& ~~~63#64))
        clear h4 o4 k4 E40 hc8
        simp only [List.length_cons, List.length_nil]
        go_wp2
        go_roundw
        case rel => exact ⟨k + 1, by omega, hk3, by simp, E5.out, by rw [stA_there]; exact h5⟩
        case measure => exact hms
    · obtain rfl : k = delay + 1 := by omega
      rw [stA_there] at h4
      have hgt : ¬ ((delay : Nat) : Int) + 1 ≤ (delay : Int) := by omega
      clear E3 h3
      go_wp2_with fail
      clear c3 hgt
      go_loopw [12, 13] (fun bv iv wq => ∃ (i : Nat) (b : Bool), i ≤ n ∧ iv = .int .i64 i ∧ bv = .bool b ∧ Env W (shapeC sets ways ns delay seed) wq ∧ Held wq g (lst sets ways ns delay seed L b)) (fun _ iv _ => n - (intOf iv).toNat)
      case atStart => exact ⟨0, false, Nat.zero_le _, rfl, rfl, E40.out, h4⟩
      case round =>
        obtain ⟨i, b, hi, rfl, rfl, E5, h5⟩ := hrel
        have E5 := hide E5
        by_cases hin : i < n
        · obtain ⟨a, rfl, hab, hcl⟩ := hl.2 (by omega)
          have hin2 : (i : Int) < (n : Int) := by omega
          have hi0 : 0 ≤ (i : Int) := by omega
          have hnm : (n : Int) ≤ 9223372036854775807 := by have := hl.1; rw [maxLen_is] at this; omega
          have d0 : wr.cell? (a.add i) = some (.bool (Bf i)) := by
            rw [E5.out.1.cell (p := a.add i) (by rw [addr_block]; exact hab)]
            exact hcl i hin
          have hcl := hide hcl
          have hx : (at_ ^^^ B ((i : Int) % 64)) / 64#64 = L := by
            have e1 : ((i : Int) % 64) = ((i % 64 : Nat) : Int) := by omega
            rw [e1, B_nat, xor_div _ (by rw [BitVec.toNat_ofNat]; omega)]
            exact hLe.out
          have hms := meas_succ2 hin
          have hi1 : i + 1 ≤ n := hin
          clear E40 h4 hk1 hk2 hkd
          go_wp2_with fail
          go_at_call 11
          refine (Ask_any _ g _ _ _ h5).mono ?_
          rw [hx, ask_lst]
          rintro e w5 ⟨rfl, h6, k6⟩
          have E6 := hide (E5.out.kept k6 hog)
          have d1 : w5.cell? (a.add i) = some (.bool (Bf i)) := by
            rw [E6.out.1.cell (p := a.add i) (by rw [addr_block]; exact hab)]
            exact hcl.out i hin
          clear h5 k6 E5 d0 hx
          go_wp2_with fail
          go_at_call 18
          refine (Under_lit _ g _ 0 (by rw [under_none (lst_sl _)]; rfl) h6).mono ?_
          rintro e w6 ⟨rfl, k7⟩
          have E7 := hide (E6.out.still k7)
          have h7 := h6.still k7
          have d2 : w6.cell? (a.add i) = some (.bool (Bf i)) := by
            rw [E7.out.1.cell (p := a.add i) (by rw [addr_block]; exact hab)]
            exact hcl.out i hin
          clear h6 k7 E6 d1
          cases b
          · go_wp2
            go_roundw
            case rel => exact ⟨i + 1, Bf i, hi1, by simp, rfl, E7.out, by simpa using h7⟩
            case measure => exact hms
          · go_wp2
            go_roundw
            case rel => exact ⟨i + 1, true, hi1, by simp, rfl, E7.out, by simpa using h7⟩
            case measure => exact hms
        · obtain rfl : i = n := by omega
          clear E40 h4 hk1 hk2 hkd hl
          go_wp2_with fail
          go_loopw [14] (fun iv wr => ∃ j : Nat, j ≤ 50 ∧ iv = .int .i64 j ∧ Env W (shapeC sets ways ns delay seed) wr ∧ Held wr g (lst sets ways ns delay seed L b)) (fun iv _ => 50 - (intOf iv).toNat)
          case atStart => exact ⟨0, Nat.zero_le _, rfl, E5.out, h5⟩
          case round =>
            obtain ⟨j, hj, rfl, E8, h8⟩ := hrel
            have E8 := hide E8
            clear E5 h5
            by_cases hlt : (j : Int) < ticks.tmod 50
            · have ht50 : ticks.tmod 50 < 50 := Int.tmod_lt_of_pos ticks (by decide)
              have hj1 : j + 1 ≤ 50 := by omega
              have hms := meas_succ2 (show j < 50 from hj1)
              clear ht50
              go_wp2_with fail
              go_at_call 13
              refine (Tick_lit _ g _ _ _ (tick_lst b ns) (fr_lst b) h8).mono ?_
              rintro e w5 ⟨v, rfl, o5, h9, k9⟩
              obtain ⟨z, zc, rfl⟩ := owns_none o5
              have E9 := E8.out.kept k9 hog
              clear h8 o5 k9 E8
              go_wp2
              go_roundw
              case rel => exact ⟨j + 1, hj1, by simp, E9, h9⟩
              case measure => exact hms
            · go_wp2_with fail
              go_at_call 16
              refine (Has_any _ g _ _ h8).mono ?_
              rw [hLe.out, has_lst]
              rintro e w5 ⟨rfl, k9⟩
              have h9 := h8.still k9
              have E9 := E8.out.still k9
              clear h8 k9 E8 hlt
              have hout := out_all (sets := sets) (ways := ways) (ns := ns) (delay := delay) (seed := seed) (L := L) hfine b
              cases b
              · go_wp2_with fail
                go_at_call 20
                refine (Flush_lit _ g _ _ hout (by simp) h9).mono ?_
                rintro e w6 ⟨v6, rfl, o6, h6, k6⟩
                obtain ⟨z, zc, rfl⟩ := owns_none o6
                have hB := (E9.kept k6 hog).1
                clear h9 o6 h6 k6 E9 hout
                go_wp2
                go_ret
                exact ⟨rfl, hB⟩
              · rw [if_pos rfl, hmask.out] at hout
                go_wp2_with fail
                go_at_call 20
                refine (Flush_lit _ g _ _ hout (by simp) h9).mono ?_
                rintro e w6 ⟨v6, rfl, o6, h6, k6⟩
                obtain ⟨b12, c12, rfl, hb12, hl12, hc12⟩ := owns_cells o6 Nat.zero_lt_one
                have y0 : w6.cell? ⟨b12, 0, none⟩ = some (.int .u64 (U (at_ &&& ~~~63#64))) := hc12 0 _ rfl
                have hB := (E9.kept k6 hog).1
                simp only [List.length_cons, List.length_nil]
                clear h9 o6 h6 k6 E9 hout hc12
                go_wp2
                go_ret
                exact ⟨rfl, hB⟩
end Go.Proofs.Ytpflodhnniochaa
