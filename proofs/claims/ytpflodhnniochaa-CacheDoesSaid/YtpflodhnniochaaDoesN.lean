/-
  The walk of CacheDoes.
-/
import Derived.Test.YtpflodhnniochaaDoesM
namespace Go.Proofs.Ytpflodhnniochaa
set_option linter.unusedVariables false
open Go.RowKit Go.Maps

theorem done_row {w : World} {base : Nat} {v : Value} {ds : List Dn} (h : w.ownsRow base 40 3 v ds.length (dnCells ds)) : ∃ z cap, v = .slice z ds.length cap ∧ (0 < ds.length → ∃ b, z = some ⟨b, 0, none⟩ ∧ base ≤ b ∧ ∃ e, Row w b 40 3 ds.length e) := by
  by_cases h0 : 0 < ds.length
  · obtain ⟨b, cap, rfl, hb, hr⟩ := row_ofR (e := fun i j => ((dnCells ds)[i * 3 + j]?).getD undef) h h0 (fun i j hi hj => by
      have hd := List.getElem?_eq_getElem hi
      have : j = 0 ∨ j = 1 ∨ j = 2 := by omega
      rcases this with rfl | rfl | rfl
      · have := (dn_at ds i _ hd).1; rw [Nat.add_zero, this]; rfl
      · have := (dn_at ds i _ hd).2; rw [this]; rfl
      · have := dn_at3 ds i _ hd; rw [this]; rfl)
    exact ⟨_, cap, rfl, fun _ => ⟨b, rfl, hb, _, hr⟩⟩
  · have e0 : ds.length = 0 := by omega
    rw [e0] at h ⊢
    obtain ⟨z, cap, rfl⟩ := owns_none h
    exact ⟨z, cap, rfl, fun e => absurd e (Nat.lt_irrefl _)⟩
theorem row3 {w : World} {b n j : Nat} {T : TypeId} {e : Nat → Nat → Value} (h : Row w b T 3 n e) (hj : j < n) : ∃ v0 v1 v2, w.cell? ⟨b, j * 3, none⟩ = some v0 ∧ w.cell? ⟨b, j * 3 + 1, none⟩ = some v1 ∧ w.cell? ⟨b, j * 3 + 2, none⟩ = some v2 ∧ ∀ o, w.frozen? ⟨b, o, none⟩ = false :=
  ⟨_, _, _, h.cell j 0 hj (by decide), h.cell j 1 hj (by decide), h.cell j 2 hj (by decide), h.frozen⟩
set_option maxRecDepth 100000 in
set_option maxHeartbeats 400000000 in
theorem Does_fine (W : World) (sets ways ns delay : Nat) (hfine : Fine sets ways ns delay) (seed : BitVec 64) (oa : Option Addr) (n cap : Nat) (Lf : Nat → Int × BitVec 64 × Bool) (hl : StepsAt W oa n Lf) :
    Calls Try.prog 3 #[.agg (shapeC sets ways ns delay seed), .slice oa n cap] W fun e w' => e = .returned (.bool true) ∧ Below W.heap.size W w' := by
  unfold shapeC
  go_enter Try.func3, Try.ntmps3
  go_wp2_with fail
  go_at_call 8
  have E0 := env_start W (shapeC sets ways ns delay seed)
  unfold shapeC at E0
  refine (fixed_any _).mono ?_
  rintro e w1 ⟨rfl, k1⟩
  have E1 : Env W (shapeC sets ways ns delay seed) w1 := E0.below k1
  clear E0 k1
  obtain ⟨c0, c1, c2, c3, c4⟩ := E1.cells
  go_wp2_with fail
  go_at_call 9
  refine (New_fine _ hfine seed).mono ?_
  rintro e w2 ⟨g, rfl, h2, k2, ho⟩
  have E2 := E1.still k2
  have hog : ∀ b, g.own b → W.heap.size < b := fun b e => Nat.lt_of_lt_of_le E1.lt (ho b e)
  clear c0 c1 c2 c3 c4 E1 k2 ho
  obtain ⟨c0, c1, c2, c3, c4⟩ := E2.cells
  go_wp2_with fail
  go_at_call 10
  refine (NewR_fine _ hfine seed).mono ?_
  rintro e w3 ⟨r, rfl, h3, k3, ho⟩
  have B3 : Both W (shapeC sets ways ns delay seed) g r (newS sets ways ns delay seed) w3 :=
    ⟨E2.still k3, h2.still k3, h3, fun i hi e => by simp [newS] at e, co_start (ok_new hfine), hog, fun b hb => Nat.lt_of_lt_of_le E2.lt (ho b hb), fun b hg hb => absurd (h2.lt hg) (Nat.not_lt.2 (ho b hb))⟩
  clear c0 c1 c2 c3 c4 E2 k3 ho hog h2 h3
  go_wp2_with fail
  go_loopw [5, 6, 7] (fun cv rv iv wr => ∃ (k : Nat) (g : G) (r : R) (s : St), k ≤ n ∧ iv = .int .i64 k ∧ cv = .pointer (some ⟨g.c, 0, none⟩) ∧ rv = .pointer (some ⟨r.c, 0, none⟩) ∧ Both W (shapeC sets ways ns delay seed) g r s wr) (fun _ _ iv _ => n - (intOf iv).toNat)
  case atStart => exact ⟨0, g, r, _, Nat.zero_le _, rfl, rfl, rfl, B3⟩
  case round =>
    clear B3
    obtain ⟨k, g, r, s, hk, rfl, rfl, rfl, B⟩ := hrel
    by_cases hkn : k < n
    · obtain ⟨a, rfl, hab, hcl⟩ := hl.2 (by omega)
      have hin2 : (k : Int) < (n : Int) := by omega
      have hi0 : 0 ≤ (k : Int) := by omega
      have hnm : (n : Int) ≤ 9223372036854775807 := by have := hl.1; rw [maxLen_is] at this; omega
      have hms := hide (meas_succ2 hkn)
      have hk1 : k + 1 ≤ n := hkn
      obtain ⟨d0, d1, d2⟩ := B.env.cell_at hab hcl hkn
      have hns8 := B.hc.ok.ns.2
      clear hcl
      obtain ⟨kd, hkd⟩ : ∃ kd, (Lf k).1 = kd := ⟨_, rfl⟩
      obtain ⟨x, hx⟩ : ∃ x, (Lf k).2.1 = x := ⟨_, rfl⟩
      obtain ⟨wb, hwb⟩ : ∃ wb, (Lf k).2.2 = wb := ⟨_, rfl⟩
      rw [hkd] at d0
      rw [hx] at d1
      rw [hwb] at d2
      clear hkd hx hwb
      have BX := B.still ((Kept.refl _ wr).alloc (Obj.cells #[.int .i64 kd, .int .u64 (U x), .bool wb] 32))
      have hxb : (wr.alloc (Obj.cells #[.int .i64 kd, .int .u64 (U x), .bool wb] 32)).heap[wr.heap.size]? = some (Obj.cells #[.int .i64 kd, .int .u64 (U x), .bool wb] 32) := heap_alloc_new _ _
      have hxg : ∀ b, g.own b → b < wr.heap.size := fun b hb => B.hc.lt hb
      have hxr : ∀ b, r.own s.sets b → b < wr.heap.size := fun b hb => B.hr.lt hb
      have hWx : W.heap.size < wr.heap.size := B.env.lt
      replace BX := hide BX
      replace hxb := hide hxb
      replace hxg := hide hxg
      replace hxr := hide hxr
      clear B
      by_cases hk0 : kd = 0
      · subst hk0
        as_aux_lemma =>
          go_wp2_with fail
          go_at_call 11
          refine (Ask_any _ g s x wb BX.out.hc).mono ?_
          rintro e w4 ⟨rfl, h4, k4⟩
          have hr4 := (BX.out.ask1 k4).1
          have hx4 := (k4.block _ (Array.getElem?_eq_some_iff.1 hxb.out).1 (fun e => absurd (hxg.out _ e) (Nat.lt_irrefl _))).trans hxb.out
          have x1 : w4.cell? ⟨wr.heap.size, 1, none⟩ = some (.int .u64 (U x)) := by simp [World.cell?, hx4]
          have x2 : w4.cell? ⟨wr.heap.size, 2, none⟩ = some (.bool wb) := by simp [World.cell?, hx4]
          clear hx4 d0 d1 d2
          go_wp2_with fail
          go_at_call 12
          refine (AskR_any w4 r s x wb hr4 BX.out.co).mono ?_
          rintro e w5 ⟨rfl, h5, k5⟩
          have B5 := BX.out.ask h4 k4 h5 k5
          generalize (askS s (x / 64#64) wb).2 = q
          clear h4 k4 h5 k5 hr4 x1 x2
          go_wp2_with fail
          go_roundw
          case rel => exact ⟨k + 1, g, r, _, hk1, by simp, rfl, rfl, B5⟩
          case measure => exact hms.out
      have hk00 : (kd == 0) = false := by simpa using hk0
      by_cases hk1' : kd = 1
      · subst hk1'
        clear hk0 hk00
        as_aux_lemma =>
          go_wp2_with fail
          go_at_call 13
          refine (Tick_any _ g s BX.out.hc BX.out.fr).mono ?_
          rintro e w4 ⟨v4, rfl, o4, h4, k4⟩
          have hr4 := (BX.out.ask1 k4).1
          clear d0 d1 d2
          go_wp2_with fail
          go_at_call 14
          refine (TickR_any w4 r s hr4 BX.out.co BX.out.fr).mono ?_
          rintro e w5 ⟨v5, rfl, o5, h5, k5⟩
          have B5 := BX.out.tick h4 k4 h5 k5
          have o45 := Owns.kept o4 k5 (fun b hb hw => by have := hxr.out b hw; rw [World.size_alloc] at hb; omega)
          rw [World.size_alloc] at o45
          have hlen8 : (tickS s s.ns).2.length ≤ 8 := Nat.le_trans (tick_length s _) hns8
          have hxr5 : ∀ b, r.own (tickS s s.ns).1.sets b → b < wr.heap.size := fun b hb => hxr.out b (by rw [tick_sets] at hb; exact hb)
          replace hxr5 := hide hxr5
          generalize tickS s s.ns = q at B5 o45 o5 hlen8 hxr5
          obtain ⟨s5, ds⟩ := q
          simp only [] at B5 o45 o5 hlen8 hxr5
          clear h4 k4 h5 k5 hr4 o4
          have hsd := hide (SameDone_any w5 _ _ _ _ ds o45 o5 hlen8)
          obtain ⟨z, zc, rfl, hrow⟩ := done_row o45
          clear o5 o45
          replace hrow := hide hrow
          go_wp2_with fail
          go_at_call 15
          refine hsd.out.mono ?_
          rintro e w6 ⟨rfl, k6⟩
          have B6 := hide (B5.still k6)
          have hrow6 : Hid (0 < ds.length → ∃ b, z = some ⟨b, 0, none⟩ ∧ wr.heap.size + 1 ≤ b ∧ ∃ e, Row w6 b 40 3 ds.length e) := hide (fun h0 => by
            obtain ⟨b, e1, e2, e, e3⟩ := hrow.out h0
            exact ⟨b, e1, e2, e, e3.kept (k6.block b e3.lt (fun e => e))⟩)
          clear hsd hrow k6 B5
          go_wp2_with fail
          go_loopw [13] (fun jv wq => ∃ j : Nat, j ≤ ds.length ∧ jv = .int .i64 j ∧ Kept (fun b => wr.heap.size + 1 ≤ b) w6 wq ∧ (0 < ds.length → ∃ b, z = some ⟨b, 0, none⟩ ∧ wr.heap.size + 1 ≤ b ∧ ∃ e, Row wq b 40 3 ds.length e)) (fun jv _ => ds.length - (intOf jv).toNat)
          case atStart => exact ⟨0, Nat.zero_le _, rfl, Kept.refl _ _, hrow6.out⟩
          case round =>
            obtain ⟨j, hj, rfl, k7, hrow7⟩ := hrel
            clear hrow6
            by_cases hjl : j < ds.length
            · obtain ⟨b, rfl, hbl, e, hr7⟩ := hrow7 (by omega)
              have hms2 := hide (meas_succ2 hjl)
              have hj1 : j + 1 ≤ ds.length := hjl
              have hj0 : 0 ≤ (j : Int) := by omega
              have hj2 : (j : Int) < (ds.length : Int) := by omega
              obtain ⟨v0, v1, v2, e0, e1, e2, e9⟩ := row3 hr7 hjl
              have hrr := ((hr7.set j 0 (.int .u64 5) hjl (by decide)).set j 1 (.int .u64 0) hjl (by decide)).set j 2 (.bool false) hjl (by decide)
              have hkk := ((k7.setCell ⟨b, j * 3, none⟩ (.int .u64 5) (.inl hbl)).setCell ⟨b, j * 3 + 1, none⟩ (.int .u64 0) (.inl hbl)).setCell ⟨b, j * 3 + 2, none⟩ (.bool false) (.inl hbl)
              replace hrr := hide hrr
              replace hkk := hide hkk
              clear hr7 k7 hrow7
              go_wp2_with fail
              go_roundw
              case rel => exact ⟨j + 1, hj1, by simp, hkk.out, fun _ => ⟨b, rfl, hbl, _, hrr.out⟩⟩
              case measure => exact hms2.out
            · obtain rfl : j = ds.length := by omega
              have B7 := B6.out.past k7 (fun b hb => by omega) (fun b hb e => by have := hxg.out b hb; omega) (fun b hb e => by have := hxr5.out b hb; omega)
              clear hrow7 k7 B6
              go_wp2_with fail
              go_roundw
              case rel => exact ⟨k + 1, g, r, _, hk1, by simp, rfl, rfl, B7⟩
              case measure => exact hms.out
      have hk11 : (kd == 1) = false := by simpa using hk1'
      by_cases hk2' : kd = 2
      · subst hk2'
        clear hk0 hk00 hk1' hk11
        as_aux_lemma =>
          go_wp2_with fail
          go_at_call 16
          refine (Has_any _ g s x BX.out.hc).mono ?_
          rintro e w4 ⟨rfl, k4⟩
          have B4 := hide (BX.out.still k4)
          have hx4 := (k4.block _ (Array.getElem?_eq_some_iff.1 hxb.out).1 (fun e => e)).trans hxb.out
          have x1 : w4.cell? ⟨wr.heap.size, 1, none⟩ = some (.int .u64 (U x)) := by simp [World.cell?, hx4]
          clear hx4 d0 d1 d2 k4
          go_wp2_with fail
          go_at_call 17
          refine (HasR_any w4 r s x B4.out.hr B4.out.co).mono ?_
          rintro e w5 ⟨rfl, k5⟩
          have B5 := hide (B4.out.still k5)
          clear B4 k5 x1
          generalize hasS s (x / 64#64) = q
          obtain ⟨q1, q2⟩ := q
          simp only []
          go_wp2_with fail
          go_at_call 18
          refine (Under_any w5 g s B5.out.hc).mono ?_
          rintro e w6 ⟨rfl, k6⟩
          have B6 := hide (B5.out.still k6)
          clear B5 k6
          go_wp2_with fail
          go_at_call 19
          refine (UnderR_any w6 r s B6.out.hr B6.out.hc.ok).mono ?_
          rintro e w' ⟨rfl, rfl⟩
          go_wp2_with fail
          go_roundw
          case rel => exact ⟨k + 1, g, r, _, hk1, by simp, rfl, rfl, B6.out⟩
          case measure => exact hms.out
      have hk22 : (kd == 2) = false := by simpa using hk2'
      by_cases hk3' : kd = 3
      · subst hk3'
        clear hk0 hk00 hk1' hk11 hk2' hk22
        as_aux_lemma =>
          go_wp2_with fail
          go_at_call 20
          refine (Flush_all _ g s BX.out.hc).mono ?_
          rintro e w4 ⟨v4, L, rfl, hp, hrs, o4, h4, k4⟩
          obtain rfl := flush_same hp hrs
          have hr4 := (BX.out.ask1 k4).1
          clear d0 d1 d2 hp hrs
          go_wp2_with fail
          go_at_call 21
          refine (FlushR_any w4 r s hr4 BX.out.hc.ok).mono ?_
          rintro e w5 ⟨v5, r5, rfl, o5, hrc, hro, h5, k5⟩
          have B5 := BX.out.flush h4 k4 h5 k5 hro
          have n4 := nums_of_out (o4.kept k5 (fun b hb hw => by have := hxr.out b hw; rw [World.size_alloc] at hb; omega))
          have n5 := nums_of_owns o5
          have hl6 : (insA s s.n).length ≤ 600 := by have := insA_length s s.n; have := BX.out.hc.ok.n_le.2; omega
          have hsl := hide (SameList_any w5 v4 v5 _ n4 n5 hl6)
          have hrc' := hide hrc
          clear h4 k4 h5 k5 hr4 o4 o5 hrc hro n4 n5 hl6
          go_wp2_with fail
          go_at_call 22
          refine hsl.out.mono ?_
          rintro e w6 ⟨rfl, k6⟩
          have B6 := hide (B5.still k6)
          clear hsl B5 k6
          go_wp2_with fail
          go_roundw
          case rel => exact ⟨k + 1, g, r5, _, hk1, by simp, rfl, by rw [hrc'.out], B6.out⟩
          case measure => exact hms.out
      have hk33 : (kd == 3) = false := by simpa using hk3'
      as_aux_lemma =>
        go_wp2_with fail
        go_at_call 23
        refine (Copy_any _ g s BX.out.hc).mono ?_
        rintro e w4 ⟨g4, rfl, h4, k4, ho4⟩
        have B4 := BX.out.still k4
        have hx4 := (k4.block _ (Array.getElem?_eq_some_iff.1 hxb.out).1 (fun e => e)).trans hxb.out
        clear d0 d1 d2
        go_wp2_with fail
        go_at_call 24
        refine (CopyR_any w4 r s B4.hr B4.hc.ok).mono ?_
        rintro e w5 ⟨r5, rfl, h5, k5, ho5⟩
        rw [World.size_alloc] at ho4
        have hg4 : ∀ b, g4.own b → wr.heap.size < b := fun b hb => ho4 b hb
        have hsz4 : wr.heap.size + 1 ≤ w4.heap.size := by have := k4.size; rwa [World.size_alloc] at this
        have B5 : Both W (shapeC sets ways ns delay seed) g4 r5 s w5 :=
          ⟨(B4.env).still k5, h4.still k5, h5, B4.fr, B4.co, fun b hb => Nat.lt_trans hWx (hg4 b hb), fun b hb => by have := ho5 b hb; omega, fun b hg hb => by have := h4.lt hg; have := ho5 b hb; omega⟩
        have hog : ∀ b, g.own b → W.heap.size < b := B4.og
        have hOld := B4.hc.still k5
        have hfr := B4.fr
        have hx5 := (k5.block _ (Array.getElem?_eq_some_iff.1 hx4).1 (fun e => e)).trans hx4
        have x1 : w5.cell? ⟨wr.heap.size, 1, none⟩ = some (.int .u64 (U x)) := by simp [World.cell?, hx5]
        have hn1 : ∀ b, g4.own b → ¬ g.own b := fun b hb hg => by have := hg4 b hb; have := hxg.out b hg; omega
        have hn2 : ∀ b, r5.own s.sets b → ¬ g.own b := fun b hb hg => by have := ho5 b hb; have := hxg.out b hg; omega
        have hdl := B4.hc.ok.delay.1
        replace hn1 := hide hn1
        replace hn2 := hide hn2
        replace hog := hide hog
        replace B5 := hide B5
        clear B4 h4 k4 ho4 h5 k5 ho5 hg4 hsz4 hx4 hx5
        go_wp2_with fail
        go_at_call 11
        refine (Ask_any w5 g s x true hOld).mono ?_
        rintro e w6 ⟨rfl, h6, k6⟩
        have B6 := hide (B5.out.past k6 hog.out hn1.out hn2.out)
        have hfr6 := fr_ask hfr hdl (x / 64#64) true
        generalize askS s (x / 64#64) true = q at h6 hfr6
        clear B5 k6 x1 hOld hfr
        go_wp2_with fail
        go_at_call 13
        refine (Tick_any w6 g q.1 h6 hfr6).mono ?_
        rintro e w7 ⟨v7, rfl, o7, h7, k7⟩
        have B7 := hide (B6.out.past k7 hog.out hn1.out hn2.out)
        generalize (tickS q.1 q.1.ns).1 = s7 at h7
        clear B6 k7 o7 h6 hfr6
        go_wp2_with fail
        go_at_call 20
        refine (Flush_all w7 g s7 h7).mono ?_
        rintro e w8 ⟨v8, L8, rfl, hp8, hrs8, o8, h8, k8⟩
        have B8 := hide (B7.out.past k8 hog.out hn1.out hn2.out)
        clear B7 k8 o8 h7 h8 hp8 hrs8
        go_wp2_with fail
        go_roundw
        case rel => exact ⟨k + 1, g4, r5, _, hk1, by simp, rfl, rfl, B8.out⟩
        case measure => exact hms.out
    · obtain rfl : k = n := by omega
      clear hl
      go_wp2_with fail
      go_at_call 18
      refine (Under_any _ g s B.hc).mono ?_
      rintro e w6 ⟨rfl, k6⟩
      have B6 := B.still k6
      clear B k6
      go_wp2_with fail
      go_at_call 19
      refine (UnderR_any w6 r s B6.hr B6.hc.ok).mono ?_
      rintro e w' ⟨rfl, rfl⟩
      have hB := B6.env.1
      clear B6
      go_wp2
      go_ret
      exact ⟨rfl, hB⟩
theorem Does_walk (W : World) (a b c d : Int) (seed : BitVec 64) (oa : Option Addr) (n cap : Nat) (Lf : Nat → Int × BitVec 64 × Bool) (hl : StepsAt W oa n Lf) :
    Calls Try.prog 3 #[.agg (shapeC a b c d seed), .slice oa n cap] W fun e w' => e = .returned (.bool true) ∧ Below W.heap.size W w' := by
  by_cases h : Bad a b c d
  · exact Does_bad W a b c d seed _ h
  · obtain ⟨a, b, c, d, rfl, rfl, rfl, rfl, hf⟩ := fine_of h
    exact Does_fine W a b c d hf seed oa n cap Lf hl
end Go.Proofs.Ytpflodhnniochaa
