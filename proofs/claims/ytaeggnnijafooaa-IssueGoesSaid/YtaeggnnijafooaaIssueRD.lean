/-
  The reference's Pick.
-/
import Derived.Test.YtaeggnnijafooaaIssueRC
namespace Go.Proofs.Ytaeggnnijafooaa
set_option linter.unusedVariables false
open Go.RowKit Go.Maps

theorem Owns.low {w : World} {base base' n size : Nat} {e : TypeId} {v : Value} {xs : List Value} (h : w.ownsRow base e size v n xs) (hb : base' ≤ base) : w.ownsRow base' e size v n xs := by
  obtain ⟨h1, h2⟩ := h
  refine ⟨h1, ?_⟩
  rcases h2 with h2 | ⟨g, cap, cur, r1, r2, r3⟩
  · exact .inl h2
  · exact .inr ⟨g, cap, cur, r1, Nat.le_trans hb r2, r3⟩
theorem grown_keep {w w' : World} {o : Obj} {row : Option Nat} (hg : (w.alloc o).grownBy w' row) {b : Nat} (hb : b < w.heap.size) (hne : row ≠ some b) : w'.heap[b]? = w.heap[b]? :=
  (hg.block b (by simp; omega) (fun e => hne e.symm)).trans (Below.heap_alloc _ _ _ hb)
set_option maxRecDepth 100000 in
set_option maxHeartbeats 8000000 in
theorem RPick_any (w : World) (b : Nat) (v : Value) (base : Nat) (size : Int) (s : List En) (f : Int → Int) (h : HeldR w b v base size s) (hsz : s.length ≤ 64) (hun : ∀ e ∈ s, 0 ≤ e.unit ∧ e.unit < 5) (hf : ∀ k, (Lit.int .i64 (f k)).wf = true) :
    Calls Try.prog 16 #[.pointer (some ⟨b, 0, none⟩), .agg #[.int .i64 (f 0), .int .i64 (f 1), .int .i64 (f 2), .int .i64 (f 3), .int .i64 (f 4)]] w fun e w' =>
      ∃ v', e = .returned v' ∧ Ints w' w.heap.size v' (pickS f s).2 ∧ ROut w b v size (pickS f s).1 w' := by
  obtain ⟨i0, hi, hz0, hz1, hz2⟩ := info_parts infoU
  obtain ⟨j0, ji, jz0, jz1, jz2⟩ := info_parts infoI
  obtain ⟨z, cap, rfl, hz⟩ := h.row.form
  replace hz := hide hz
  replace hun := hide hun
  go_enter Try.func16, Try.ntmps16
  go_wp2_with fail
  have hU1 : UnAt (w.alloc (.cells #[.int .i64 (f 0), .int .i64 (f 1), .int .i64 (f 2), .int .i64 (f 3), .int .i64 (f 4)] 31)) w.heap.size f := heap_alloc_new _ _
  have hw1s : (w.alloc (.cells #[.int .i64 (f 0), .int .i64 (f 1), .int .i64 (f 2), .int .i64 (f 3), .int .i64 (f 4)] 31)).heap.size = w.heap.size + 1 := by simp
  have k1 : Still w (w.alloc (.cells #[.int .i64 (f 0), .int .i64 (f 1), .int .i64 (f 2), .int .i64 (f 3), .int .i64 (f 4)] 31)) := (Kept.refl _ w).alloc _
  generalize w.alloc (.cells #[.int .i64 (f 0), .int .i64 (f 1), .int .i64 (f 2), .int .i64 (f 3), .int .i64 (f 4)] 31) = w1 at *
  have hub : w.heap.size < w1.heap.size := hU1.lt
  have r3 : ((w1.alloc (.cells #[] 3)).alloc (.cells #[] 30)).ownsRow w1.heap.size 3 1 (.slice (some ⟨w1.heap.size, 0, none⟩) 0 0) 0 [] := (World.ownsRow_made w1 #[] 0 (Nat.le_refl _) (Nat.zero_le _) rfl).alloc _
  have e1 : (w1.alloc (.cells #[] 3)).heap.size = w1.heap.size + 1 := by simp
  have q3 : URow ((w1.alloc (.cells #[] 3)).alloc (.cells #[] 30)) w1.heap.size (.slice (some ⟨w1.heap.size + 1, 0, none⟩) 0 0) [] := by
    have := World.ownsRow_made (base := w1.heap.size) (e := 30) (size := 5) (w1.alloc (.cells #[] 3)) #[] 0 (by rw [e1]; exact Nat.le_succ _) (Nat.zero_le _) rfl
    rw [e1] at this
    exact this
  have k3 : Still w1 ((w1.alloc (.cells #[] 3)).alloc (.cells #[] 30)) := ((Kept.refl _ w1).alloc _).alloc _
  generalize (w1.alloc (.cells #[] 3)).alloc (.cells #[] 30) = w3 at *
  have hU3 := hU1.kept k3 (fun e => e)
  have k13 := k1.trans k3
  have hs13 := k3.size
  rw [hw1s] at r3 q3 hs13
  go_loopw [5, 6, 7] (fun ov lv iv wr => ∃ (d r : List En), s = d ++ r ∧ iv = .int .i64 d.length ∧ wr.ownsRow (w.heap.size + 1) 3 1 ov (pickS f d).2.length ((pickS f d).2.map (Value.int .i64)) ∧ URow wr (w.heap.size + 1) lv (pickS f d).1 ∧
      (∀ x, ov.ownBlock = some x → lv.ownBlock ≠ some x) ∧ UnAt wr w.heap.size (pickU f d) ∧ Still w wr ∧ (w.heap.size + 1) ≤ wr.heap.size) (fun _ _ iv _ => s.length - (intOf iv).toNat)
  case atStart => exact ⟨[], s, rfl, rfl, r3, q3, fun x hx e => by have h1 := Option.some.inj hx; have h2 := Option.some.inj e; dsimp at h1 h2; omega, hU3, k13, hs13⟩
  case round =>
    clear r3 q3 hU3 k13 hs13 k3 e1 hU1
    obtain ⟨d, r, hs', rfl, hrow, hurow, hap, hU, k4, hsz1⟩ := hrel
    have hsl : s.length = d.length + r.length := by rw [hs', List.length_append]
    have hdk : (d.length : Int) < 1000 := by omega
    have c0' := (h.still k4).c0
    have hpl := pick_len f d
    have hpl1 : (pickS f d).1.length ≤ d.length := (pick_sub f d).length_le
    cases r with
    | nil =>
      obtain rfl : s = d := by rw [hs', List.append_nil]
      have hnot : ¬ (s.length : Int) < (s.length : Int) := Int.lt_irrefl _
      have hfree := (h.still k4).free 0
      obtain ⟨zo, co, hzo, -⟩ := hurow.form
      subst hzo
      have hbb : b < w.heap.size := h.lt (.inl rfl)
      have hrow2 := ownsRow_setCell_below (a := ⟨b, 0, none⟩) hrow (show b < w.heap.size + 1 by omega) (.slice zo (pickS f s).1.length co)
      clear hs' hsl hz
      go_wp2_with fail
      go_ret
      exact ⟨_, rfl, (ints_of hrow2 rfl).low (Nat.le_succ _), h.outLay (Kept.refl _ _) k4 (Owns.low hurow (Nat.le_succ _))⟩
    | cons e r =>
      obtain ⟨rb, rfl, hrb, hrl, hra⟩ := hz.out (by simp at hsl; omega)
      have hse : s[d.length]? = some e := by rw [hs']; simp
      obtain ⟨d0, d1, d2, d3, d4⟩ := (hra _ _ hse).on k4 (fun e => e)
      have hin : (d.length : Int) < (s.length : Int) := by simp at hsl; omega
      have hin0 : 0 ≤ (d.length : Int) := by omega
      have hms := meas_k (k := d.length) (n := s.length) (by simp at hsl; omega)
      have hs2 : s = (d ++ [e]) ++ r := by rw [hs']; simp
      obtain ⟨hu0, hu5⟩ := hun.out e (by rw [hs']; simp)
      obtain ⟨u, hu⟩ : ∃ u : Nat, e.unit = u := ⟨e.unit.toNat, by omega⟩
      have hun5 : u < 5 := by omega
      have hu5' : (u : Int) < 5 := by omega
      have hu0' : 0 ≤ (u : Int) := by omega
      replace hs2 := hide hs2
      replace hu := hide hu
      clear hse hra hs' hsl hu0 hu5
      go_wp2_with fail
      go_at_call 26
      have ka : Still wr (wr.alloc (.cells #[.int .i64 e.tag, .int .i64 e.unit, .int .i64 e.a, .int .i64 e.b, .int .i64 e.c] 30)) := (Kept.refl _ wr).alloc _
      have hce : ∀ j v, (wr.alloc (.cells #[.int .i64 e.tag, .int .i64 e.unit, .int .i64 e.a, .int .i64 e.b, .int .i64 e.c] 30)).cell? ⟨wr.heap.size, j, none⟩ = some v → ∀ w', Still (wr.alloc (.cells #[.int .i64 e.tag, .int .i64 e.unit, .int .i64 e.a, .int .i64 e.b, .int .i64 e.c] 30)) w' → w'.cell? ⟨wr.heap.size, j, none⟩ = some v := fun j v hc w' k => k.cell hc
      refine (Ready_any _ e).mono ?_
      rintro e' w5 ⟨rfl, k5⟩
      have x0 := hce 0 (.int .i64 e.tag) (by simp) w5 k5
      have x1 := hce 1 (.int .i64 e.unit) (by simp) w5 k5
      have x2 := hce 2 (.int .i64 e.a) (by simp) w5 k5
      have x3 := hce 3 (.int .i64 e.b) (by simp) w5 k5
      have x4 := hce 4 (.int .i64 e.c) (by simp) w5 k5
      have kr : Still wr w5 := ka.trans k5
      have hsz5 : (w.heap.size + 1) ≤ w5.heap.size := Nat.le_trans hsz1 kr.size
      replace hrow := Owns.keep hrow fun x hx => kr.block x (World.ownsRow.lt hrow x hx).2 (fun e => e)
      replace hurow := hurow.still kr
      replace hU := hU.kept kr (fun e => e)
      replace k4 := k4.trans kr
      clear hce k5 ka kr d0 d1 d2 d3 d4 c0'
      rw [hu.out] at x1
      have xu := hU.cell hun5
      have hfr := hU.free u
      have hFwf := (wf_i _).1 (pickU_wf f d hf u)
      generalize hF : pickU f d u = F at xu hFwf
      replace hF := hide hF
      obtain ⟨hFw1, hFw2⟩ := hFwf
      by_cases hgo : ready e = true ∧ 1 ≤ F
      · obtain ⟨hr1, hF1⟩ := hgo
        have hst := snoc_yes f d e ⟨hr1, by rw [hu.out, hF.out]; exact hF1⟩
        replace hst := hide hst
        have hF2 : 0 < F := by omega
        have hUs := hU.set hun5 (F - 1)
        have hrow2 := ownsRow_setCell_below (a := ⟨w.heap.size, u, none⟩) hrow (Nat.lt_succ_self _) (.int .i64 (F - 1))
        have hurow2 : URow (w5.setCell ⟨w.heap.size, u, none⟩ (.int .i64 (F - 1))) (w.heap.size + 1) _ _ := ownsRow_setCell_below (a := ⟨w.heap.size, u, none⟩) hurow (Nat.lt_succ_self _) (.int .i64 (F - 1))
        have k6 : Still w (w5.setCell ⟨w.heap.size, u, none⟩ (.int .i64 (F - 1))) := k4.setCell _ _ (.inr (Nat.le_refl _))
        have hsz6 : (w.heap.size + 1) ≤ (w5.setCell ⟨w.heap.size, u, none⟩ (.int .i64 (F - 1))).heap.size := by simpa using hsz5
        have hubn : wr.heap.size ≠ w.heap.size := by omega
        have hss : (w5.setCell ⟨w.heap.size, u, none⟩ (.int .i64 (F - 1))).heap.size = w5.heap.size := by simp
        have hcn := cell_one_new (w5.setCell ⟨w.heap.size, u, none⟩ (.int .i64 (F - 1))) (.int .i64 e.tag) 3
        rw [hss] at hcn
        rw [hr1]
        clear hrow hurow hU
        go_wp2_with (first
          | (at_builtin; refine wpList_append_own_at _ rfl _ _ 36 rfl (w.heap.size + 1) 3 j0 (.int .i64 0) 1 8 Try.underlying36 ji jz0 jz1 jz2 rfl (by decide) _ _ _ rfl (hrow2.alloc _) ⟨w5.heap.size, 0, none⟩ 1 1 [.int .i64 e.tag] rfl rfl hcn (by simp [Value.oneCell']) (by unfold maxLen; omega) (by omega) (by simp; omega) ?_; intro v8 w8 hown8 hg8 hnil8 hloc8; go_frame))
        have k8 : Still w w8 := (k6.alloc _).grown hg8 (fun p hp => .inr (Nat.le_of_succ_le (World.ownsRow.lt hrow2 p hp).1))
        have hsz8 : w.heap.size + 1 ≤ w8.heap.size := by have := hg8.size; simp at this; omega
        have hU8 : UnAt w8 w.heap.size (upd (pickU f d) u (F - 1)) := (grown_keep hg8 hUs.lt (fun e => by have := (World.ownsRow.lt hrow2 _ e).1; omega)).trans hUs
        have hur8 := Owns.keep hurow2 fun x hx => grown_keep hg8 (URow.lt hurow2 x hx).2 (fun e => hap x e hx)
        have hap8 : ∀ x, v8.ownBlock = some x → u6.ownBlock ≠ some x := fun x hx e => by
          rcases hloc8 with h1 | h1
          · exact hap x (h1 ▸ hx) e
          · rw [h1] at hx
            have := Option.some.inj hx
            have := (URow.lt hurow2 x e).2
            simp at *
            omega
        go_roundw
        case rel => exact ⟨d ++ [e], r, hs2.out, by simp, by rw [hst.out.1]; simpa using hown8, by rw [hst.out.1]; exact hur8, hap8, by rw [hst.out.2, hu.out, hF.out]; exact hU8, k8, hsz8⟩
        case measure => exact hms
      · have hno : ¬ (ready e = true ∧ 1 ≤ pickU f d e.unit) := fun h => hgo ⟨h.1, by have := h.2; rw [hu.out, hF.out] at this; exact this⟩
        have hnw : ∀ j y, ([.int .i64 e.tag, .int .i64 u, .int .i64 e.a, .int .i64 e.b, .int .i64 e.c] : List Value)[j]? = some y → (w5.alloc (.cells #[.int .i64 e.tag, .int .i64 u, .int .i64 e.a, .int .i64 e.b, .int .i64 e.c] 30)).cell? ((⟨w5.heap.size, 0, none⟩ : Addr).add j) = some y := by
          have := news_one (w := w5) (cs := enC e) (t := 30) (e := e) rfl
          unfold enC at this
          rw [hu.out] at this
          exact this
        cases hr : ready e
        · clear hgo
          have hst := hide (snoc_not f d e hno)
          go_wp2_with (first
            | (at_builtin; refine wpList_append_own_at _ rfl _ _ 45 rfl (w.heap.size + 1) 30 i0 _ 5 40 Try.underlying45 hi hz0 hz1 hz2 rfl (by decide) _ _ _ rfl (World.ownsRow.alloc hurow _) ⟨w5.heap.size, 0, none⟩ 1 1 [.int .i64 e.tag, .int .i64 u, .int .i64 e.a, .int .i64 e.b, .int .i64 e.c] rfl rfl hnw (by simp [Value.oneCell']) (by unfold maxLen; omega) (by omega) (by simp; omega) ?_; intro v8 w8 hown8 hg8 hnil8 hloc8; go_frame))
          rw [← hu.out] at hown8
          have hrow8 := URow.app hown8
          have k8 : Still w w8 := (k4.alloc _).grown hg8 (fun p hp => .inr (Nat.le_of_succ_le (URow.lt hurow p hp).1))
          have hsz8 : w.heap.size + 1 ≤ w8.heap.size := by have := hg8.size; simp at this; omega
          have hU8 : UnAt w8 w.heap.size (pickU f d) := (grown_keep hg8 hU.lt (fun e => by have := (URow.lt hurow _ e).1; omega)).trans hU
          have hro8 := Owns.keep hrow fun x hx => grown_keep hg8 (World.ownsRow.lt hrow x hx).2 (fun e => hap x hx e)
          have hap8 : ∀ x, u5.ownBlock = some x → v8.ownBlock ≠ some x := fun x hx e => by
            rcases hloc8 with h1 | h1
            · exact hap x hx (h1 ▸ e)
            · rw [h1] at e
              have := Option.some.inj e
              have := (World.ownsRow.lt hrow x hx).2
              simp at *
              omega
          go_roundw
          case rel => exact ⟨d ++ [e], r, hs2.out, by simp, by rw [hst.out.1]; exact hro8, by rw [hst.out.1]; exact hrow8, hap8, by rw [hst.out.2]; exact hU8, k8, hsz8⟩
          case measure => exact hms
        · have hF0 : ¬ 0 < F := fun h => hgo ⟨hr, by omega⟩
          have hF1 : F ≤ 0 := by omega
          have hF3 : decide (0 < F) = false := decide_eq_false hF0
          clear hgo hF0
          have hst := hide (snoc_not f d e hno)
          go_wp2_with (first
            | (at_builtin; refine wpList_append_own_at _ rfl _ _ 45 rfl (w.heap.size + 1) 30 i0 _ 5 40 Try.underlying45 hi hz0 hz1 hz2 rfl (by decide) _ _ _ rfl (World.ownsRow.alloc hurow _) ⟨w5.heap.size, 0, none⟩ 1 1 [.int .i64 e.tag, .int .i64 u, .int .i64 e.a, .int .i64 e.b, .int .i64 e.c] rfl rfl hnw (by simp [Value.oneCell']) (by unfold maxLen; omega) (by omega) (by simp; omega) ?_; intro v8 w8 hown8 hg8 hnil8 hloc8; go_frame))
          rw [← hu.out] at hown8
          have hrow8 := URow.app hown8
          have k8 : Still w w8 := (k4.alloc _).grown hg8 (fun p hp => .inr (Nat.le_of_succ_le (URow.lt hurow p hp).1))
          have hsz8 : w.heap.size + 1 ≤ w8.heap.size := by have := hg8.size; simp at this; omega
          have hU8 : UnAt w8 w.heap.size (pickU f d) := (grown_keep hg8 hU.lt (fun e => by have := (URow.lt hurow _ e).1; omega)).trans hU
          have hro8 := Owns.keep hrow fun x hx => grown_keep hg8 (World.ownsRow.lt hrow x hx).2 (fun e => hap x hx e)
          have hap8 : ∀ x, u5.ownBlock = some x → v8.ownBlock ≠ some x := fun x hx e => by
            rcases hloc8 with h1 | h1
            · exact hap x hx (h1 ▸ e)
            · rw [h1] at e
              have := Option.some.inj e
              have := (World.ownsRow.lt hrow x hx).2
              simp at *
              omega
          go_roundw
          case rel => exact ⟨d ++ [e], r, hs2.out, by simp, by rw [hst.out.1]; exact hro8, by rw [hst.out.1]; exact hrow8, hap8, by rw [hst.out.2]; exact hU8, k8, hsz8⟩
          case measure => exact hms
end Go.Proofs.Ytaeggnnijafooaa
