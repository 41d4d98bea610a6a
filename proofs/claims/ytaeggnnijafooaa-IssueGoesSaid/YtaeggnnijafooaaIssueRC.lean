/-
  The reference's Tags, Drop.
-/
import Derived.Test.YtaeggnnijafooaaIssueRB
import Derived.Test.YtaeggnnijafooaaIssueT
namespace Go.Proofs.Ytaeggnnijafooaa
set_option linter.unusedVariables false
open Go.RowKit Go.Maps

set_option maxRecDepth 100000 in
set_option maxHeartbeats 8000000 in
theorem RTags_any (w : World) (b : Nat) (v : Value) (base : Nat) (size : Int) (s : List En) (h : HeldR w b v base size s) (hsz : s.length ≤ 64) :
    Calls Try.prog 21 #[.pointer (some ⟨b, 0, none⟩)] w fun e w' =>
      ∃ v', e = .returned v' ∧ Ints w' w.heap.size v' (tags s) ∧ Still w w' := by
  obtain ⟨i0, hi, hz0, hz1, hz2⟩ := info_parts infoI
  obtain ⟨z, cap, rfl, hz⟩ := h.row.form
  have c0 := h.c0
  replace hz := hide hz
  replace h := hide h
  go_enter Try.func21, Try.ntmps21
  go_wp2_with fail
  have r3 : (w.alloc (.cells #[] 3)).ownsRow w.heap.size 3 1 (.slice (some ⟨w.heap.size, 0, none⟩) 0 0) 0 [] := World.ownsRow_made w #[] 0 (Nat.le_refl _) (Nat.zero_le _) rfl
  have k3 : Still w (w.alloc (.cells #[] 3)) := (Kept.refl _ w).alloc _
  generalize w.alloc (.cells #[] 3) = w3 at *
  go_loopw [3, 4] (fun ov iv wr => ∃ (d r : List En), s = d ++ r ∧ iv = .int .i64 d.length ∧ wr.ownsRow w.heap.size 3 1 ov d.length ((tags d).map (Value.int .i64)) ∧ Still w wr) (fun _ iv _ => s.length - (intOf iv).toNat)
  case atStart => exact ⟨[], s, rfl, rfl, r3, k3⟩
  case round =>
    clear r3 k3
    obtain ⟨d, r, hs', rfl, hrow, k4⟩ := hrel
    have hsl : s.length = d.length + r.length := by rw [hs', List.length_append]
    have hdk : (d.length : Int) < 1000 := by omega
    have c0' := k4.cell c0
    cases r with
    | nil =>
      obtain rfl : s = d := by rw [hs', List.append_nil]
      have hnot : ¬ (s.length : Int) < (s.length : Int) := Int.lt_irrefl _
      clear hs' hsl hz
      go_wp2
      go_ret
      exact ⟨_, rfl, ints_of hrow (length_tags s).symm, k4⟩
    | cons e r =>
      obtain ⟨rb, rfl, hrb, hrl, hra⟩ := hz.out (by simp at hsl; omega)
      have hse : s[d.length]? = some e := by rw [hs']; simp
      obtain ⟨d0, d1, d2, d3, d4⟩ := (hra _ _ hse).on k4 (fun e => e)
      have hin : (d.length : Int) < (s.length : Int) := by simp at hsl; omega
      have hin0 : 0 ≤ (d.length : Int) := by omega
      have hms := meas_k (k := d.length) (n := s.length) (by simp at hsl; omega)
      have hs2 : s = (d ++ [e]) ++ r := by rw [hs']; simp
      have hdl : d.length ≤ 64 := by omega
      replace hs2 := hide hs2
      have hszr : w.heap.size ≤ wr.heap.size := k4.size
      clear hse hra hs' hsl
      go_wp2_with (first
        | (at_builtin; refine wpList_append_own_at _ rfl _ _ 36 rfl w.heap.size 3 i0 (.int .i64 0) 1 8 Try.underlying36 hi hz0 hz1 hz2 rfl (by decide) _ _ _ rfl (hrow.alloc _) ⟨wr.heap.size, 0, none⟩ 1 1 [.int .i64 e.tag] rfl rfl (cell_one_new _ _ _) (by simp [Value.oneCell']) (by unfold maxLen; omega) (by omega) (by simp; omega) ?_; intro v7 w7 hown7 hg7 hnil7 hloc7; go_frame))
      have k7 : Still w w7 := (k4.alloc _).grown hg7 (fun p hp => .inr (World.ownsRow.lt hrow p hp).1)
      go_roundw
      case rel => exact ⟨d ++ [e], r, hs2.out, by simp, by simpa [tags] using hown7, k7⟩
      case measure => exact hms
theorem drop_count (x : Int) : ∀ s : List En, dropN x s + (dropL x s).length = s.length
  | [] => rfl
  | e :: r => by
    have ih := drop_count x r
    unfold dropN dropL at ih ⊢
    cases h : decide (e.tag ≤ x)
    · simp only [List.filter_cons, h, Bool.not_false, if_true, Bool.false_eq_true, if_false, List.length_cons]; omega
    · simp only [List.filter_cons, h, Bool.not_true, if_true, Bool.false_eq_true, if_false, List.length_cons]; omega
theorem dropL_le (x : Int) (s : List En) : (dropL x s).length ≤ s.length := List.length_filter_le _ _
theorem take_drop {f : En → Bool} {d : List En} {e : En} : (d ++ [e]).filter f = d.filter f ++ (if f e = true then [e] else []) := by
  rw [List.filter_append, List.filter_cons]
  rfl
set_option maxRecDepth 100000 in
set_option maxHeartbeats 8000000 in
theorem RDrop_any (w : World) (b : Nat) (v : Value) (base : Nat) (size x : Int) (s : List En) (h : HeldR w b v base size s) (hsz : s.length ≤ 64) :
    Calls Try.prog 19 #[.pointer (some ⟨b, 0, none⟩), .int .i64 x] w fun e w' =>
      e = .returned (.int .i64 (dropN x s : Nat)) ∧ ROut w b v size (dropL x s) w' := by
  obtain ⟨i0, hi, hz0, hz1, hz2⟩ := info_parts infoU
  obtain ⟨z, cap, rfl, hz⟩ := h.row.form
  have c0 := h.c0
  replace hz := hide hz
  replace h := hide h
  go_enter Try.func19, Try.ntmps19
  go_wp2_with fail
  have r3 : URow (w.alloc (.cells #[] 30)) w.heap.size (.slice (some ⟨w.heap.size, 0, none⟩) 0 0) [] := World.ownsRow_made w #[] 0 (Nat.le_refl _) (Nat.zero_le _) rfl
  have k3 : Still w (w.alloc (.cells #[] 30)) := (Kept.refl _ w).alloc _
  generalize w.alloc (.cells #[] 30) = w3 at *
  go_loopw [5, 6] (fun ov iv wr => ∃ (d r : List En), s = d ++ r ∧ iv = .int .i64 d.length ∧ URow wr w.heap.size ov (dropL x d) ∧ Still w wr) (fun _ iv _ => s.length - (intOf iv).toNat)
  case atStart => exact ⟨[], s, rfl, rfl, r3, k3⟩
  case round =>
    clear r3 k3
    obtain ⟨d, r, hs', rfl, hrow, k4⟩ := hrel
    have hsl : s.length = d.length + r.length := by rw [hs', List.length_append]
    have hdk : (d.length : Int) < 1000 := by omega
    have c0' := k4.cell c0
    have hdl := dropL_le x d
    cases r with
    | nil =>
      obtain rfl : s = d := by rw [hs', List.append_nil]
      have hnot : ¬ (s.length : Int) < (s.length : Int) := Int.lt_irrefl _
      have hfree := (h.out.still k4).free 0
      have hcnt := drop_count x s
      have hcI : (s.length : Int) - ((dropL x s).length : Int) = (dropN x s : Int) := by omega
      have hcd : (dropN x s : Int) < 1000 := by omega
      obtain ⟨zo, co, rfl, -⟩ := hrow.form
      clear hs' hsl hz hcnt
      go_wp2_with fail
      go_ret
      exact ⟨rfl, h.out.outLay (Kept.refl _ _) k4 hrow⟩
    | cons e r =>
      obtain ⟨rb, rfl, hrb, hrl, hra⟩ := hz.out (by simp at hsl; omega)
      have hse : s[d.length]? = some e := by rw [hs']; simp
      obtain ⟨d0, d1, d2, d3, d4⟩ := (hra _ _ hse).on k4 (fun e => e)
      have hin : (d.length : Int) < (s.length : Int) := by simp at hsl; omega
      have hin0 : 0 ≤ (d.length : Int) := by omega
      have hms := meas_k (k := d.length) (n := s.length) (by simp at hsl; omega)
      have hs2 : s = (d ++ [e]) ++ r := by rw [hs']; simp
      replace hs2 := hide hs2
      have hszr : w.heap.size ≤ wr.heap.size := k4.size
      clear hse hra hs' hsl
      by_cases hx : x < e.tag
      · have hL : dropL x (d ++ [e]) = dropL x d := by rw [dropL_snoc, if_pos hx]
        replace hL := hide hL
        go_wp2_with fail
        go_roundw
        case rel => exact ⟨d ++ [e], r, hs2.out, by simp, by rw [hL.out]; exact hrow, k4⟩
        case measure => exact hms
      · have hL : dropL x (d ++ [e]) = dropL x d ++ [e] := by rw [dropL_snoc, if_neg hx]
        replace hL := hide hL
        have hx2 : e.tag ≤ x := by omega
        have hdl2 : (dropL x d).length ≤ 64 := by omega
        go_wp2_with (first
          | (at_builtin; refine wpList_append_own_at _ rfl _ _ 45 rfl w.heap.size 30 i0 _ 5 40 Try.underlying45 hi hz0 hz1 hz2 rfl (by decide) _ _ _ rfl (World.ownsRow.alloc hrow _) ⟨wr.heap.size, 0, none⟩ 1 1 [.int .i64 e.tag, .int .i64 e.unit, .int .i64 e.a, .int .i64 e.b, .int .i64 e.c] rfl rfl (news_one rfl) (by simp [Value.oneCell']) (by unfold maxLen; omega) (by omega) (by simp; omega) ?_; intro v8 w8 hown8 hg8 hnil8 hloc8; go_frame))
        have k8 : Still w w8 := (k4.alloc _).grown hg8 (fun p hp => .inr (URow.lt hrow p hp).1)
        have hrow8 := URow.app hown8
        go_roundw
        case rel => exact ⟨d ++ [e], r, hs2.out, by simp, by rw [hL.out]; exact hrow8, k8⟩
        case measure => exact hms
end Go.Proofs.Ytaeggnnijafooaa
