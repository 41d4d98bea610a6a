/-
  The reference's Wake.
-/
import Derived.Test.YtaeggnnijafooaaIssueRB
namespace Go.Proofs.Ytaeggnnijafooaa
set_option linter.unusedVariables false
open Go.RowKit Go.Maps

/-- .. of the first k registers. -/
def strK (p : Int) (k : Nat) (e : En) : En := { e with a := if 1 ≤ k then str1 p e.a else e.a, b := if 2 ≤ k then str1 p e.b else e.b, c := if 3 ≤ k then str1 p e.c else e.c }
theorem strK_0 (p : Int) (e : En) : strK p 0 e = e := rfl
theorem strK_3 {p : Int} (hp : 0 ≤ p) (e : En) : strK p 3 e = strike p e := by
  unfold strike
  rw [if_pos hp]
  rfl
def nth (e : En) (j : Nat) : Int := if j = 0 then e.a else if j = 1 then e.b else e.c
theorem strK_step {p : Int} {e : En} {j : Nat} (hj : j < 3) (h : nth (strK p j e) j ≠ p) : strK p (j + 1) e = strK p j e := by
  have : j = 0 ∨ j = 1 ∨ j = 2 := by omega
  rcases this with rfl | rfl | rfl
  · have h1 : ¬ e.a = p := h
    simp [strK, str1, h1]
  · have h1 : ¬ e.b = p := h
    simp [strK, str1, h1]
  · have h1 : ¬ e.c = p := h
    simp [strK, str1, h1]
theorem EnAt.nth {w : World} {b i : Nat} {e : En} (h : EnAt w b i e) {j : Nat} (hj : j < 3) : w.cell? ⟨b, i * 5 + 2 + j, none⟩ = some (.int .i64 (Go.Proofs.Ytaeggnnijafooaa.nth e j)) := by
  have : j = 0 ∨ j = 1 ∨ j = 2 := by omega
  rcases this with rfl | rfl | rfl
  · exact h.d2
  · exact h.d3
  · exact h.d4
theorem uC_put {p : Int} {d r : List En} {e : En} {j : Nat} (hj : j < 3) (h : nth (strK p j e) j = p) : (uC (d ++ strK p j e :: r)).set (d.length * 5 + 2 + j) (.int .i64 (-1)) = uC (d ++ strK p (j + 1) e :: r) := by
  have hl := uC_len d
  rw [uC_app, uC_app, List.set_append_right _ _ (by omega), hl]
  congr 1
  have hd : d.length * 5 + 2 + j - d.length * 5 = 2 + j := by omega
  rw [hd]
  have : j = 0 ∨ j = 1 ∨ j = 2 := by omega
  rcases this with rfl | rfl | rfl
  · have h1 : e.a = p := h
    simp [uC, enC, strK, str1, h1]
  · have h1 : e.b = p := h
    simp [uC, enC, strK, str1, h1]
  · have h1 : e.c = p := h
    simp [uC, enC, strK, str1, h1]
theorem HeldR.put {w : World} {b rb n cap base : Nat} {size p : Int} {d r : List En} {e : En} {j : Nat} (h : HeldR w b (.slice (some ⟨rb, 0, none⟩) n cap) base size (d ++ strK p j e :: r)) (hn : n = (d ++ strK p j e :: r).length) (hj : j < 3) (hy : nth (strK p j e) j = p) :
    HeldR (w.setCell ⟨rb, d.length * 5 + 2 + j, none⟩ (.int .i64 (-1))) b (.slice (some ⟨rb, 0, none⟩) n cap) base size (d ++ strK p (j + 1) e :: r) := by
  have hr := h.row
  unfold URow at hr
  rw [← hn] at hr
  have hst := (World.ownsRow.stored hr (d.length * 5 + 2 + j) (.int .i64 (-1))).1
  rw [uC_put hj hy] at hst
  have hn2 : n = (d ++ strK p (j + 1) e :: r).length := by rw [hn]; simp
  refine ⟨?_, ?_, h.ne⟩
  · rw [RowKit.Below.heap_setCell _ _ _ _ (fun e' => h.ne (by rw [e']; rfl))]
    exact h.q
  · unfold URow
    rw [← hn2]
    exact hst
theorem wakeN_snoc (p : Int) (d : List En) (e : En) : wakeN p (d ++ [e]) = wakeN p d + (if (!ready e && ready (strike p e)) = true then 1 else 0) := by
  unfold wakeN
  rw [List.filter_append, List.length_append, List.filter_cons, woke_eq]
  split <;> rfl
theorem wakeL_snoc (p : Int) (d : List En) (e : En) : wakeL p (d ++ [e]) = wakeL p d ++ [strike p e] := List.map_append
set_option maxRecDepth 100000 in
set_option maxHeartbeats 8000000 in
theorem RWake_any (w : World) (b : Nat) (v : Value) (base : Nat) (size p : Int) (s : List En) (h : HeldR w b v base size s) (hsz : s.length ≤ 64) :
    Calls Try.prog 14 #[.pointer (some ⟨b, 0, none⟩), .int .i64 p] w fun e w' =>
      e = .returned (.int .i64 (wakeN p s : Nat)) ∧ ROut w b v size (wakeL p s) w' := by
  by_cases hp : p < 0
  · have h0 : wakeN p s = 0 := wake_none fun e he => waits_neg hp
    have h1 : wakeL p s = s := by
      unfold wakeL
      have : strike p = id := funext fun e => by unfold strike; rw [if_neg (by omega)]; rfl
      rw [this, List.map_id]
    rw [h0, h1]
    go_enter Try.func14, Try.ntmps14
    go_wp2
    go_ret
    exact ⟨rfl, h.out (Kept.refl _ _)⟩
  · have hp0 : 0 ≤ p := by omega
    have hns : ¬ p < 0 := hp
    obtain ⟨z, cap, rfl, hz⟩ := h.row.form
    replace hz := hide hz
    replace h := hide h
    go_enter Try.func14, Try.ntmps14
    go_wp2_with fail
    go_loopw [5, 6] (fun nv iv wr => ∃ (d r : List En), s = d ++ r ∧ iv = .int .i64 d.length ∧ nv = .int .i64 (wakeN p d : Nat) ∧ HeldR wr b (.slice z s.length cap) base size (wakeL p d ++ r) ∧ Kept (rOwn b (.slice z s.length cap)) w wr) (fun _ iv _ => s.length - (intOf iv).toNat)
    case atStart => exact ⟨[], s, rfl, rfl, rfl, h.out, Kept.refl _ _⟩
    case round =>
      obtain ⟨d, r, hs', rfl, rfl, hh, k4⟩ := hrel
      have hsl : s.length = d.length + r.length := by rw [hs', List.length_append]
      have hdk : (d.length : Int) < 1000 := by omega
      have c0' := hh.c0
      have hwn : wakeN p d ≤ d.length := List.length_filter_le _ _
      have hwk : (wakeN p d : Int) < 1000 := by omega
      cases r with
      | nil =>
        obtain rfl : s = d := by rw [hs', List.append_nil]
        have hnot : ¬ (s.length : Int) < (s.length : Int) := Int.lt_irrefl _
        rw [List.append_nil] at hh
        clear hs' hsl hz
        go_wp2
        go_ret
        exact ⟨rfl, _, _, hh, k4, fun x hx => .inl hx⟩
      | cons e r =>
        obtain ⟨rb, rfl, -, -, -⟩ := hz.out (by simp at hsl; omega)
        have hwl : (wakeL p d).length = d.length := wake_len p d
        have hin : (d.length : Int) < (s.length : Int) := by simp at hsl; omega
        have hin0 : 0 ≤ (d.length : Int) := by omega
        have hms := meas_k (k := d.length) (n := s.length) (by simp at hsl; omega)
        have hs2 : s = (d ++ [e]) ++ r := by rw [hs']; simp
        have hln : ∀ e' : En, s.length = (wakeL p d ++ e' :: r).length := fun e' => by rw [hs']; simp [hwl]
        have hE : ∀ w' (e' : En), HeldR w' b (.slice (some ⟨rb, 0, none⟩) s.length cap) base size (wakeL p d ++ e' :: r) → EnAt w' rb d.length e' := fun w' e' h' => by
          obtain ⟨z', c', hv, hz'⟩ := h'.row.form
          injection hv with h1 h2 h3
          obtain ⟨b', hb', -, -, hc⟩ := hz' (by simp; omega)
          rw [hb'] at h1
          injection h1 with h1
          injection h1 with h1
          subst h1
          exact hc _ _ (by rw [← hwl]; simp)
        have hnc := wakeN_snoc p d e
        have hlc := wakeL_snoc p d e
        replace hs2 := hide hs2
        replace hln := hide hln
        replace hE := hide hE
        replace hnc := hide hnc
        replace hlc := hide hlc
        clear hs' hsl
        obtain ⟨d0, d1, d2, d3, d4⟩ := hE.out _ _ hh
        go_wp2_with fail
        go_at_call 26
        refine (Ready_any _ e).mono ?_
        rintro e' w5 ⟨rfl, k5⟩
        have h5 := hh.still k5
        have k6 := k4.still k5
        clear hh k4 k5 c0' d0 d1 d2 d3 d4
        go_wp2_with fail
        go_loopw [8] (fun kv wr => ∃ j : Nat, j ≤ 3 ∧ kv = .int .i64 j ∧ HeldR wr b (.slice (some ⟨rb, 0, none⟩) s.length cap) base size (wakeL p d ++ strK p j e :: r) ∧ Kept (rOwn b (.slice (some ⟨rb, 0, none⟩) s.length cap)) w wr) (fun kv _ => 3 - (intOf kv).toNat)
        case atStart => exact ⟨0, Nat.zero_le _, rfl, h5, k6⟩
        case round =>
          clear h5 k6
          obtain ⟨j, hj, rfl, h6, k6⟩ := hrel
          have c0' := h6.c0
          by_cases hj3 : j < 3
          · have hms3 := meas3 hj3
            have dj := (hE.out _ _ h6).nth hj3
            have hj0 : 0 ≤ (j : Int) := by omega
            have hj3' : (j : Int) < 3 := by omega
            by_cases hy : nth (strK p j e) j = p
            · rw [hy] at dj
              have h7 := h6.put (by exact hln.out _) hj3 hy
              rw [hwl] at h7
              have k7 := k6.setCell ⟨rb, d.length * 5 + 2 + j, none⟩ (.int .i64 (-1)) (.inl (.inr rfl))
              have hr6 := h6.row
              unfold URow at hr6
              rw [← hln.out] at hr6
              have hfr := World.ownsRow.frozenAt hr6 (d.length * 5 + 2 + j)
              replace hy := hide hy
              replace h7 := hide h7
              replace k7 := hide k7
              clear hr6 h6
              go_wp2
              go_roundw
              case rel => exact ⟨j + 1, hj3, by simp, h7.out, k7.out⟩
              case measure => exact hms3
            · have hst := strK_step hj3 hy
              generalize hyy : nth (strK p j e) j = y at dj hy
              replace hst := hide hst
              clear hyy
              go_wp2
              go_roundw
              case rel => exact ⟨j + 1, hj3, by simp, by rw [hst.out]; exact h6, k6⟩
              case measure => exact hms3
          · obtain rfl : j = 3 := by omega
            have hj3 : ¬ (3 : Int) < 3 := by omega
            rw [strK_3 hp0] at h6
            obtain ⟨d0, d1, d2, d3, d4⟩ := hE.out _ _ h6
            go_wp2_with fail
            go_at_call 26
            refine (Ready_any _ (strike p e)).mono ?_
            rintro e' w7 ⟨rfl, k7⟩
            have h7 := h6.still k7
            have k8 := k6.still k7
            clear h6 k6 k7 c0' d0 d1 d2 d3 d4
            cases hr1 : ready e
            · cases hr2 : ready (strike p e)
              · have hn' : wakeN p (d ++ [e]) = wakeN p d := by rw [hnc.out, hr1, hr2]; rfl
                replace hn' := hide hn'
                go_wp2_with fail
                go_roundw
                case rel => exact ⟨d ++ [e], r, hs2.out, by simp, by rw [hn'.out], by rw [hlc.out]; simpa using h7, k8⟩
                case measure => exact hms
              · have hn' : wakeN p (d ++ [e]) = wakeN p d + 1 := by rw [hnc.out, hr1, hr2]; rfl
                replace hn' := hide hn'
                go_wp2_with fail
                go_roundw
                case rel => exact ⟨d ++ [e], r, hs2.out, by simp, by rw [hn'.out]; simp, by rw [hlc.out]; simpa using h7, k8⟩
                case measure => exact hms
            · have hr2 := ready_strike (p := p) hr1
              have hn' : wakeN p (d ++ [e]) = wakeN p d := by rw [hnc.out, hr1]; rfl
              replace hn' := hide hn'
              rw [hr2]
              go_wp2_with fail
              go_roundw
              case rel => exact ⟨d ++ [e], r, hs2.out, by simp, by rw [hn'.out], by rw [hlc.out]; simpa using h7, k8⟩
              case measure => exact hms
end Go.Proofs.Ytaeggnnijafooaa
