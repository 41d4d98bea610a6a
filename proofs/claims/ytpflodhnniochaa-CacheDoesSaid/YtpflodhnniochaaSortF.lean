/-
  The pivot's choice: order2, median, medianAdjacent, choosePivot: what they hand back lies in its range.
-/
import Derived.Test.YtpflodhnniochaaSortE
namespace Go.Proofs.Ytpflodhnniochaa
set_option linter.unusedVariables false
open Go.RowKit Go.Sort
/-- The counter of exchanges. -/
def Cnt (w : World) (b s : Nat) : Prop := w.heap[b]? = some (.cells #[.int .i64 (s : Int)] 3 (0, 0))
theorem Cnt.cell {w : World} {b s : Nat} (h : Cnt w b s) : w.cell? ⟨b, 0, none⟩ = some (.int .i64 (s : Int)) := by
  unfold Cnt at h
  simp [World.cell?, h]
theorem Cnt.frozen {w : World} {b s : Nat} (h : Cnt w b s) (i : Nat) : w.frozen? ⟨b, i, none⟩ = false := by
  unfold Cnt at h
  simp [World.frozen?, h]
theorem Cnt.lt {w : World} {b s : Nat} (h : Cnt w b s) : b < w.heap.size := (Array.getElem?_eq_some_iff.1 h).1
theorem Cnt.kept {w w' : World} {b s : Nat} (h : Cnt w b s) (e : w'.heap[b]? = w.heap[b]?) : Cnt w' b s := e.trans h
theorem Cnt.on {w w' : World} {b s : Nat} (h : Cnt w b s) (k : Still w w') : Cnt w' b s := h.kept (k.block b h.lt fun e => e)
theorem Cnt.set {w : World} {b s : Nat} (h : Cnt w b s) (t : Nat) : Cnt (w.setCell ⟨b, 0, none⟩ (.int .i64 (t : Int))) b t := by
  unfold Cnt at *
  rw [heap_setCell_same w b 0 _ _ _ h]
  rfl
theorem RowI.past {w w' : World} {b x : Nat} {d : Array Int} (h : RowI w b d) (k : Kept (fun k => k = x) w w') (hne : b ≠ x) : RowI w' b d := h.kept (k.block b h.lt hne)
/-- What a call leaves that turns the counter alone. -/
def Counts (w w' : World) (b s : Nat) : Prop := ∃ t : Nat, t ≤ s ∧ Cnt w' b t ∧ Kept (fun x => x = b) w w'
set_option maxRecDepth 20000 in
theorem Order2_any (w : World) (b c sb s x y : Nat) (d : Array Int) (h : RowI w b d) (hC : Cnt w sb s) (hs : s < 1000) (hx : x < d.size) (hy : y < d.size) (hsz : d.size < 1000000) :
    Calls Try.prog 54 #[.slice (some ⟨b, 0, none⟩) d.size c, .int .i64 x, .int .i64 y, .pointer (some ⟨sb, 0, none⟩)] w fun r w' =>
      ∃ x' y' : Nat, r = .returned (.tuple #[.int .i64 x', .int .i64 y']) ∧ (x' = x ∧ y' = y ∨ x' = y ∧ y' = x) ∧ Counts w w' sb (s + 1) := by
  have y1 : ∀ n, (w.drewN n).cell? ⟨b, x, none⟩ = some (.int .u64 (el d x)) := fun n => h.cell hx
  have y0 : ∀ n, (w.drewN n).cell? ⟨b, y, none⟩ = some (.int .u64 (el d y)) := fun n => h.cell hy
  have hb1 : (x : Int) < (d.size : Int) := by omega
  have hb2 : 0 ≤ (x : Int) := by omega
  have hb3 : (y : Int) < (d.size : Int) := by omega
  have hb4 : 0 ≤ (y : Int) := by omega
  go_enter Try.func54, Try.ntmps54
  have c1 : ∀ n, (w.drewN n).cell? ⟨sb, 0, none⟩ = some (.int .i64 (s : Int)) := fun n => (hC.on (still_drewN w n)).cell
  have c2 : ∀ n, (w.drewN n).frozen? ⟨sb, 0, none⟩ = false := fun n => (hC.on (still_drewN w n)).frozen 0
  have hs2 : (s : Int) < 1000 := by omega
  have hs3 : 0 ≤ (s : Int) := by omega
  have hC2 := fun n => (hC.on (still_drewN w n)).set (s + 1)
  have hK2 := fun n => ((Kept.refl (fun x => x = sb) w).still (still_drewN w n)).setCell ⟨sb, 0, none⟩ (.int .i64 ((s + 1 : Nat) : Int)) (.inl rfl)
  have hs4 : ((s + 1 : Nat) : Int) = (s : Int) + 1 := by omega
  simp only [hs4] at hC2 hK2
  clear hs4
  replace hC2 := hide hC2
  replace hK2 := hide hK2
  go_wp2_with fail
  go_quiet ((go_at_call 43; exact Calls.quiet_of_same (Less_any _ _ _)))
  go_wp2_with fail
  all_goals first
    | (have hlt : ltInt (el d y) (el d x) = true := by assumption
       go_ret2
       exact ⟨y, x, rfl, .inr ⟨rfl, rfl⟩, s + 1, by omega, hC2.out nq, hK2.out nq⟩)
    | (have hlt : ltInt (el d y) (el d x) = false := by assumption
       go_ret2
       exact ⟨x, y, rfl, .inl ⟨rfl, rfl⟩, s, by omega, hC.on (still_drewN w nq), (Kept.refl _ w).still (still_drewN w nq)⟩)
set_option maxRecDepth 20000 in
theorem Median_any (w : World) (b c sb s x y z : Nat) (d : Array Int) (h : RowI w b d) (hC : Cnt w sb s) (hs : s < 900) (hx : x < d.size) (hy : y < d.size) (hz : z < d.size) (hne : b ≠ sb) (hsz : d.size < 1000000) :
    Calls Try.prog 52 #[.slice (some ⟨b, 0, none⟩) d.size c, .int .i64 x, .int .i64 y, .int .i64 z, .pointer (some ⟨sb, 0, none⟩)] w fun r w' =>
      ∃ p : Nat, r = .returned (.int .i64 p) ∧ (p = x ∨ p = y ∨ p = z) ∧ Counts w w' sb (s + 3) := by
  have hb2 : 0 ≤ (x : Int) := by omega
  have hb4 : 0 ≤ (y : Int) := by omega
  have hb6 : 0 ≤ (z : Int) := by omega
  go_enter Try.func52, Try.ntmps52
  go_wp2_with fail
  go_at_call 54
  refine (Order2_any w b c sb s x y d h hC (by omega) hx hy hsz).mono ?_
  rintro r w1 ⟨x1, y1, rfl, e1, s1, hs1, hC1, hK1⟩
  have h1 := h.past hK1 hne
  have hx1 : x1 < d.size ∧ y1 < d.size := by omega
  replace e1 := hide e1
  go_wp2_with fail
  go_at_call 54
  refine (Order2_any w1 b c sb s1 y1 z d h1 hC1 (by omega) hx1.2 hz hsz).mono ?_
  rintro r w2 ⟨y2, z2, rfl, e2, s2, hs2, hC2, hK2⟩
  have h2 := h1.past hK2 hne
  have hx2 : y2 < d.size ∧ z2 < d.size := by omega
  replace e2 := hide e2
  go_wp2_with fail
  go_at_call 54
  refine (Order2_any w2 b c sb s2 x1 y2 d h2 hC2 (by omega) hx1.1 hx2.1 hsz).mono ?_
  rintro r w3 ⟨x3, y3, rfl, e3, s3, hs3, hC3, hK3⟩
  replace e3 := hide e3
  go_wp2_with fail
  go_ret
  exact ⟨y3, rfl, by have := e1.out; have := e2.out; have := e3.out; omega, s3, by omega, hC3, (hK1.trans hK2).trans hK3⟩
set_option maxRecDepth 20000 in
theorem MedianAdj_any (w : World) (b c sb s x : Nat) (d : Array Int) (h : RowI w b d) (hC : Cnt w sb s) (hs : s < 900) (hx : 1 ≤ x) (hy : x + 1 < d.size) (hne : b ≠ sb) (hsz : d.size < 1000000) :
    Calls Try.prog 51 #[.slice (some ⟨b, 0, none⟩) d.size c, .int .i64 x, .pointer (some ⟨sb, 0, none⟩)] w fun r w' =>
      ∃ p : Nat, r = .returned (.int .i64 p) ∧ x - 1 ≤ p ∧ p ≤ x + 1 ∧ Counts w w' sb (s + 3) := by
  obtain ⟨p, hp⟩ : ∃ p, x = p + 1 := ⟨x - 1, by omega⟩
  obtain ⟨q, hq⟩ : ∃ q, q = x + 1 := ⟨_, rfl⟩
  have hp2 : (x : Int) - 1 = (p : Int) := by omega
  have hq2 : (x : Int) + 1 = (q : Int) := by omega
  have hm := Median_any w b c sb s p x q d h hC hs (by omega) (by omega) (by omega) hne hsz
  have hb1 : 1 ≤ (x : Int) := by omega
  have hb2 : (x : Int) < 1000000 := by omega
  replace hp := hide hp
  replace hq := hide hq
  replace hm := hide hm
  go_enter Try.func51, Try.ntmps51
  go_wp2_with fail
  go_at_call 52
  refine hm.out.mono ?_
  rintro r w1 ⟨z, rfl, e1, hc⟩
  replace e1 := hide e1
  go_wp2_with fail
  go_ret
  exact ⟨z, rfl, by have := e1.out; have := hp.out; have := hq.out; omega, by have := e1.out; have := hp.out; have := hq.out; omega, hc⟩
/-- A place between a and e, and a hint. -/
def Picked (r : Ending) (a e : Nat) : Prop := ∃ p hint : Nat, r = .returned (.tuple #[.int .i64 p, .int .i64 hint]) ∧ a ≤ p ∧ p < e
theorem Kept.fresh {w w' : World} (h : Kept (fun x => x = w.heap.size) w w') : Still w w' :=
  ⟨h.os, h.tape, h.output, h.size, fun k hk _ => h.block k hk (by omega)⟩
set_option maxRecDepth 100000 in
set_option maxHeartbeats 4000000 in
theorem Pivot_any (w : World) (b c a e : Nat) (d : Array Int) (h : RowI w b d) (hae : a < e) (hed : e ≤ d.size) (hsz : d.size < 1000000) :
    Calls Try.prog 40 #[.slice (some ⟨b, 0, none⟩) d.size c, .int .i64 a, .int .i64 e] w fun r w' =>
      Picked r a e ∧ RowI w' b d ∧ Still w w' := by
  obtain ⟨I, hI⟩ : ∃ I : Nat, I = a + (e - a) / 4 * 1 := ⟨_, rfl⟩
  obtain ⟨J, hJ⟩ : ∃ J : Nat, J = a + (e - a) / 4 * 2 := ⟨_, rfl⟩
  obtain ⟨K, hK⟩ : ∃ K : Nat, K = a + (e - a) / 4 * 3 := ⟨_, rfl⟩
  have eI : ((a : Int) + ((e : Int) - (a : Int)) / 4) = (I : Int) := by omega
  have eJ : ((a : Int) + ((e : Int) - (a : Int)) / 4 * 2) = (J : Int) := by omega
  have eK : ((a : Int) + ((e : Int) - (a : Int)) / 4 * 3) = (K : Int) := by omega
  have hb1 : (a : Int) < 1000000 := by omega
  have hb2 : (e : Int) < 1000000 := by omega
  have hb3 : 0 ≤ (a : Int) := by omega
  have hb4 : (a : Int) < (e : Int) := by omega
  obtain ⟨sb, hsb⟩ : ∃ sb, sb = w.heap.size := ⟨_, rfl⟩
  have hne : b ≠ sb := by have := h.lt; omega
  have hr0 : RowI (w.alloc (.cells #[.int .i64 0] 3)) b d := h.kept (Below.heap_alloc w _ b h.lt)
  have hC0 : Cnt (w.alloc (.cells #[.int .i64 0] 3)) sb 0 := by subst hsb; unfold Cnt; exact Array.getElem?_push_size
  have hK0 : Kept (fun x => x = sb) w (w.alloc (.cells #[.int .i64 0] 3)) := (Kept.refl _ w).alloc _
  have hfin : ∀ w', Kept (fun x => x = sb) w w' → Still w w' := fun w' k => by subst hsb; exact k.fresh
  replace hsb : w.heap.size = sb := hsb.symm
  by_cases h8 : e - a ≥ 8
  · have h82 : (e : Int) - (a : Int) ≥ 8 := by omega
    by_cases h50 : e - a ≥ 50
    · have h52 : (e : Int) - (a : Int) ≥ 50 := by omega
      have hIr : 1 ≤ I ∧ a + 1 ≤ I ∧ I + 1 < e := by omega
      have hJr : 1 ≤ J ∧ a + 1 ≤ J ∧ J + 1 < e := by omega
      have hKr : 1 ≤ K ∧ a + 1 ≤ K ∧ K + 1 < e := by omega
      replace hI := hide hI
      replace hJ := hide hJ
      replace hK := hide hK
      replace hr0 := hide hr0
      replace hC0 := hide hC0
      replace hK0 := hide hK0
      replace hfin := hide hfin
      go_enter Try.func40, Try.ntmps40
      go_wp2_with fail
      generalize w.alloc (.cells #[.int .i64 0] 3) = w0 at *
      go_at_call 51
      refine (MedianAdj_any w0 b c sb 0 I d hr0.out hC0.out (by omega) hIr.1 (by omega) hne hsz).mono ?_
      rintro r w1 ⟨i1, rfl, l1, u1, s1, hs1, hC1, hK1⟩
      have hr1 := hr0.out.past hK1 hne
      go_wp2_with fail
      go_at_call 51
      refine (MedianAdj_any w1 b c sb s1 J d hr1 hC1 (by omega) hJr.1 (by omega) hne hsz).mono ?_
      rintro r w2 ⟨j1, rfl, l2, u2, s2, hs2, hC2, hK2⟩
      have hr2 := hr1.past hK2 hne
      go_wp2_with fail
      go_at_call 51
      refine (MedianAdj_any w2 b c sb s2 K d hr2 hC2 (by omega) hKr.1 (by omega) hne hsz).mono ?_
      rintro r w3 ⟨k1, rfl, l3, u3, s3, hs3, hC3, hK3⟩
      have hr3 := hr2.past hK3 hne
      go_wp2_with fail
      go_at_call 52
      refine (Median_any w3 b c sb s3 i1 j1 k1 d hr3 hC3 (by omega) (by omega) (by omega) (by omega) hne hsz).mono ?_
      rintro r w4 ⟨p, rfl, hp, s4, hs4, hC4, hK4⟩
      have hr4 := hr3.past hK4 hne
      have c4 := hC4.cell
      have hp2 : a ≤ p ∧ p < e := by omega
      have hst := hfin.out _ ((((hK0.out.trans hK1).trans hK2).trans hK3).trans hK4)
      clear hp l1 u1 l2 u2 l3 u3 hC1 hC2 hC3 hC4 hK1 hK2 hK3 hK4 hr1 hr2 hr3 hr0 hC0 hK0 hs1 hs2 hs3 hs4 hIr hJr hKr h52 h82 h50 h8 hfin eI eJ eK hI hJ hK
      replace hst := hide hst
      replace hp2 := hide hp2
      replace hr4 := hide hr4
      have hh : ((s4 : Int) == 0) = true ∧ True ∨ ((s4 : Int) == 0) = false ∧ ((s4 : Int) == 12) = true ∨ ((s4 : Int) == 0) = false ∧ ((s4 : Int) == 12) = false := by
        cases ((s4 : Int) == 0) <;> cases ((s4 : Int) == 12) <;> simp
      rcases hh with ⟨t0, t1⟩ | ⟨t0, t1⟩ | ⟨t0, t1⟩
      · go_wp2_with fail
        go_ret2
        exact ⟨⟨_, 1, rfl, hp2.out.1, hp2.out.2⟩, hr4.out, hst.out⟩
      · go_wp2_with fail
        go_ret2
        exact ⟨⟨_, 2, rfl, hp2.out.1, hp2.out.2⟩, hr4.out, hst.out⟩
      · go_wp2_with fail
        go_ret2
        exact ⟨⟨_, 0, rfl, hp2.out.1, hp2.out.2⟩, hr4.out, hst.out⟩
    
    · have h52 : ¬ (e : Int) - (a : Int) ≥ 50 := by omega
      have hIr : a ≤ I ∧ I < e := by omega
      have hJr : a ≤ J ∧ J < e := by omega
      have hKr : a ≤ K ∧ K < e := by omega
      replace hI := hide hI
      replace hJ := hide hJ
      replace hK := hide hK
      replace hr0 := hide hr0
      replace hC0 := hide hC0
      replace hK0 := hide hK0
      replace hfin := hide hfin
      go_enter Try.func40, Try.ntmps40
      go_wp2_with fail
      generalize w.alloc (.cells #[.int .i64 0] 3) = w0 at *
      go_at_call 52
      refine (Median_any w0 b c sb 0 I J K d hr0.out hC0.out (by omega) (by omega) (by omega) (by omega) hne hsz).mono ?_
      rintro r w4 ⟨p, rfl, hp, s4, hs4, hC4, hK4⟩
      have hr4 := hr0.out.past hK4 hne
      have c4 := hC4.cell
      have hp2 : a ≤ p ∧ p < e := by omega
      have hst := hfin.out _ (hK0.out.trans hK4)
      clear hp hC4 hK4 hr0 hC0 hK0 hs4 hIr hJr hKr h52 h82 h50 h8 hfin eI eJ eK hI hJ hK
      replace hst := hide hst
      replace hp2 := hide hp2
      replace hr4 := hide hr4
      have hh : ((s4 : Int) == 0) = true ∧ True ∨ ((s4 : Int) == 0) = false ∧ ((s4 : Int) == 12) = true ∨ ((s4 : Int) == 0) = false ∧ ((s4 : Int) == 12) = false := by
        cases ((s4 : Int) == 0) <;> cases ((s4 : Int) == 12) <;> simp
      rcases hh with ⟨t0, t1⟩ | ⟨t0, t1⟩ | ⟨t0, t1⟩
      · go_wp2_with fail
        go_ret2
        exact ⟨⟨_, 1, rfl, hp2.out.1, hp2.out.2⟩, hr4.out, hst.out⟩
      · go_wp2_with fail
        go_ret2
        exact ⟨⟨_, 2, rfl, hp2.out.1, hp2.out.2⟩, hr4.out, hst.out⟩
      · go_wp2_with fail
        go_ret2
        exact ⟨⟨_, 0, rfl, hp2.out.1, hp2.out.2⟩, hr4.out, hst.out⟩
    
  · have h82 : ¬ (e : Int) - (a : Int) ≥ 8 := by omega
    have hJr : a ≤ J ∧ J < e := by omega
    have c4 := hC0.cell
    have hst := hfin _ hK0
    replace hI := hide hI
    replace hJ := hide hJ
    replace hK := hide hK
    replace hr0 := hide hr0
    replace hC0 := hide hC0
    replace hK0 := hide hK0
    replace hfin := hide hfin
    replace hst := hide hst
    go_enter Try.func40, Try.ntmps40
    go_wp2_with fail

    all_goals
      go_ret2
      first
        | exact ⟨⟨_, 1, rfl, hJr.1, hJr.2⟩, hr0.out, hst.out⟩
        | exact ⟨⟨_, 2, rfl, hJr.1, hJr.2⟩, hr0.out, hst.out⟩
        | exact ⟨⟨_, 0, rfl, hJr.1, hJr.2⟩, hr0.out, hst.out⟩
  
end Go.Proofs.Ytpflodhnniochaa
