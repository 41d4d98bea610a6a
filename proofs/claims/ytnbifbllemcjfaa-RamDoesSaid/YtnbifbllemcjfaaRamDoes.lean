/-
  The walk of RamDoes.
-/
import Derived.Test.YtnbifbllemcjfaaRamDA
namespace Go.Proofs.Ytnbifbllemcjfaa
set_option linter.unusedVariables false
open Go.RowKit Go.Maps

theorem NRow.rowAt {w : World} {base : Nat} {v : Value} {l : List Int} (h : NRow w base v l) : ∃ z c, v = .slice z l.length c ∧ l.length ≤ c ∧ c ≤ maxLen ∧ (0 < l.length → ∃ b V, z = some ⟨b, 0, none⟩ ∧ base ≤ b ∧ RowAt w b 30 l.length V) := by
  have h' := h
  unfold NRow at h'
  rcases h'.2 with ⟨rfl, h0⟩ | ⟨b, cap, cur, rfl, hb, hgg, h1, h2, h3, h4⟩
  · have : l.length = 0 := by have := h'.1; simp at h0; rw [h0]; rfl
    exact ⟨none, 0, by rw [this], by omega, Nat.zero_le _, fun e => by omega⟩
  · exact ⟨_, cap, rfl, h1, h2, fun _ => ⟨b, fun i => cur.getD i default, rfl, hb, cur, hgg, by omega, fun i hi => by
      have : i < cur.size := by omega
      simp [this]⟩⟩
set_option maxRecDepth 100000 in
set_option maxHeartbeats 16000000 in
theorem Does_walk (W : World) (v0 : Value) (n : Nat) (f : Nat → BitVec 8) (hb : Bys W v0 n f) (hn47 : n ≤ 140737488351232) (oa : Option Addr) (l : List Sy) (cap : Nat) (hl : StepsAt W oa l) :
    Calls Try.prog 3 #[v0, .slice oa l.length cap] W fun e w' => e = .returned (.bool true) ∧ Below W.heap.size W w' := by
  have hb0 := hb
  obtain ⟨z, c, rfl, hnc, hcm, hz⟩ := hb0
  have hn63 : (n : Int) ≤ 140737488351232 := by omega
  go_enter Try.func3, Try.ntmps3
  go_wp2_with fail
  go_at_call 7
  refine (fixed_any _).mono ?_
  rintro e w1 ⟨rfl, k1⟩
  go_wp2_with fail
  go_at_call 8
  refine (New_any w1).mono ?_
  rintro e w2 ⟨q, m, rfl, h2, k2, o2⟩
  go_wp2_with fail
  go_at_call 9
  refine (RNew_any w2).mono ?_
  rintro e w3 ⟨r, rfl, h3, k3, o3⟩
  have A3 := Al.make k1 h2 k2 o2 h3 k3 o3
  clear h2 k2 o2 h3 k3 o3 k1
  have X4 : (w3.alloc (.cells #[] 5)).heap[w3.heap.size]? = some (.cells #[] 5 (0, 0)) := heap_alloc_new _ _
  have K4 : Still w3 (w3.alloc (.cells #[] 5)) := (Kept.refl _ _).alloc _
  have B4 := (hb.still A3.st).still K4
  go_wp2_with (at_builtin; refine wpList_append_bytes rfl _ _ rfl w3.heap.size _ n f rfl rfl X4 B4 hn47 ?_; intro v5 w5 own5 k5; go_frame)
  have K5 : Still w3 w5 := K4.start (k5.mono fun b e => .inr (by omega))
  have A5 := A3.on K5
  clear K4 X4 B4 k5
  go_at_call 10
  refine (Lay_any w5 _ _ A5.i.a v5 n f own5.bys (fun h0 b e hg => ?_)).mono ?_
  · obtain ⟨zo, co, rfl, -, -, hro⟩ := own5
    obtain ⟨b', rfl, hb3, -⟩ := hro h0
    have e1 : b' = b := Option.some.inj e
    have e2 := A3.i.lt (.inl hg)
    have e3 : w3.heap.size ≤ b' := hb3
    omega
  rintro e w6 ⟨rfl, bl6, h6, k6, o6⟩
  have A6 : Al true true W w6 ⟨q, m, bl6⟩ ⟨q, m, bl6⟩ r r _ _ _ _ := A5.wrI h6 k6 o6
  have own6 := own5.kept k6 fun b hb hg => by
    have h1 := A3.i.lt (.inl hg)
    have h2 : w3.heap.size ≤ b := hb
    omega
  have sep6 : ∀ b, w3.heap.size ≤ b → b < w5.heap.size → ¬ (G.mk q m bl6).own b := fun b h1 h2 hg => by
    rcases o6 b hg with h | h
    · have := A3.i.lt (.inl h)
      omega
    · omega
  have lt5 : ∀ b z c, v5 = .slice (some ⟨b, 0, none⟩) z c → 0 < n → b < w5.heap.size ∧ w3.heap.size ≤ b := fun b z c e h0 => by
    obtain ⟨zo, co, hv, -, -, hro⟩ := own5
    obtain ⟨b', rfl, hb3, hrow⟩ := hro h0
    rw [hv] at e
    cases e
    exact ⟨hrow.lt, hb3⟩
  have hs56 : w5.heap.size ≤ w6.heap.size := k6.size
  clear h6 k6 o6
  go_wp2_with fail
  go_at_call 11
  refine (RLay_any w6 _ _ A6.j.a _ n f (hb.still A6.st) (fun h0 b e hg => ?_)).mono ?_
  · obtain ⟨rb, rfl, hrb, -⟩ := hz h0
    cases e
    have := A6.j.ma _ hg
    omega
  rintro e w7 ⟨rfl, tab7, h7, k7, o7⟩
  have A7 : Al true true W w7 ⟨q, m, bl6⟩ ⟨q, m, bl6⟩ ⟨r.q, r.p, tab7⟩ ⟨r.q, r.p, tab7⟩ _ _ _ _ := A6.wrR h7 k7 o7
  have own7 := own6.kept k7 fun b hb hg => by
    have h1 := A3.j.lt (.inl hg)
    have h2 : w3.heap.size ≤ b := hb
    omega
  have sep7 : ∀ b, w3.heap.size ≤ b → b < w5.heap.size → ¬ (GR.mk r.q r.p tab7).own b := fun b h1 h2 hg => by
    rcases o7 b hg with h | h
    · have := A3.j.lt (.inl h)
      omega
    · omega
  have hW3 : W.heap.size ≤ w3.heap.size := A3.st.size
  clear h7 k7 o7 A3 A5 A6 own5 own6
  have cv0 := conv_bys own7.bys
  have cv1 := conv_bys (hb.still A7.st)
  generalize str n f = t0 at *
  obtain ⟨zo, co, rfl, hoc, hom, hor⟩ := own7
  rw [maxLen_is] at hom
  generalize hd : decide (n ≤ 1048576) = okb
  generalize layN (fun _ => 0#8) f n = M7 at *
  have lt5' := fun b z c e h0 => lt5 b z c e h0
  replace lt5 := hide lt5'
  clear lt5'
  replace hor := hide hor
  replace sep6 := hide sep6
  replace sep7 := hide sep7
  go_wp2_with fail
  clear cv0 cv1
  go_loopw [12] (fun iv wr => ∃ j : Nat, j ≤ n ∧ iv = .int .i64 j ∧ Al true true W wr ⟨q, m, bl6⟩ ⟨q, m, bl6⟩ ⟨r.q, r.p, tab7⟩ ⟨r.q, r.p, tab7⟩ M7 M7 M7 M7 ∧ (0 < n → ∃ b F, zo = some ⟨b, 0, none⟩ ∧ RowAt wr b 5 n F)) (fun iv _ => n - (intOf iv).toNat)
  case atStart => exact ⟨0, Nat.zero_le _, rfl, A7, fun h0 => by obtain ⟨b, hz0, -, hr⟩ := hor.out h0; exact ⟨b, _, hz0, hr⟩⟩
  case round =>
    clear A7 hor
    obtain ⟨j, hj, rfl, A3, hrow⟩ := hrel
    by_cases hjn : j < n
    · obtain ⟨b, F, rfl, hr⟩ := hrow (by omega)
      obtain ⟨l1, l2⟩ := lt5.out b n co rfl (by omega)
      have c0 := hr.cell hjn
      have f0 := hr.frozen j
      have n1 := sep6.out b l2 l1
      have n2 := sep7.out b l2 l1
      have hWb : W.heap.size ≤ b := Nat.le_trans hW3 l2
      have A4 := A3.kept (S := fun x => x = b) ((Kept.refl _ wr).setCell ⟨b, j, none⟩ (.int .u8 77) (.inl rfl)) (fun x e => by rw [e]; exact hWb) (fun x hx e => n1 (e ▸ hx.elim id id)) (fun x hx e => n2 (e ▸ hx.elim id id))
      have hr2 := hr.set j (.int .u8 77)
      have hj0 : 0 ≤ (j : Int) := by omega
      have hj1 : (j : Int) < (n : Int) := by omega
      have hms := meas_k hjn
      clear A3 hr hrow
      go_wp2_with fail
      go_roundw
      case rel => exact ⟨j + 1, hjn, by simp, A4, fun _ => ⟨b, _, rfl, hr2⟩⟩
      case measure => exact hms
    · obtain rfl : j = n := by omega
      have hirr : ¬ (j : Int) < (j : Int) := Int.lt_irrefl _
      clear hrow
      have hr7q : Value.pointer (some ⟨r.q, 0, none⟩) = .pointer (some ⟨(GR.mk r.q r.p tab7).q, 0, none⟩) := rfl
      replace hr7q := hide hr7q
      generalize GR.mk r.q r.p tab7 = r7 at *
      go_wp2_with fail
      clear lt5 sep6 sep7 hd hW3 hs56
      go_loopw [5, 6, 7, 8, 13] (fun mv rv ov sv iv wr => ∃ (i : Nat) (e : Bool) (g o : G) (r s : GR) (M O : Nat → BitVec 8), i ≤ l.length ∧ iv = .int .i64 i ∧ mv = .pointer (some ⟨g.q, 0, none⟩) ∧ rv = .pointer (some ⟨r.q, 0, none⟩) ∧ ov = .pointer (some ⟨o.q, 0, none⟩) ∧ sv = .pointer (some ⟨s.q, 0, none⟩) ∧ Al e e W wr g o r s M O M O) (fun _ _ _ _ iv _ => l.length - (intOf iv).toNat)
      case atStart => exact ⟨0, true, _, _, _, _, _, _, Nat.zero_le _, rfl, rfl, hr7q.out, rfl, hr7q.out, A3⟩
      case round =>
        clear A3
        obtain ⟨i, e, g, o, r, s, M, O, hi, rfl, rfl, rfl, rfl, rfl, A3⟩ := hrel
        by_cases hin : i < l.length
        · obtain ⟨a, rfl, hab, hcl⟩ := hl.2 (by omega)
          have hlk := List.getElem?_eq_getElem hin
          generalize l[i] = x at hlk
          obtain ⟨hwf, hSA, hby⟩ := hcl i x hlk
          obtain ⟨xk, xa, xs, xv, xl, xn, xf⟩ := x
          have hby0 := hby
          obtain ⟨z4, zc, hxl, -, -, hbz⟩ := hby
          dsimp only at hxl
          subst hxl
          obtain ⟨d0, d1, d2, d3, d4⟩ := hSA.on A3.st hab
          have hby : Bys W (.slice z4 xn zc) xn xf := hby0
          dsimp only at hbz d0 d1 d2 d3 d4
          have hi0 : 0 ≤ (i : Int) := by omega
          have hil : (i : Int) < (l.length : Int) := by omega
          have hnm : (l.length : Int) ≤ 9223372036854775807 := by have := hl.1; rw [maxLen_is] at this; omega
          have hms := meas_k hin
          clear hcl hlk hSA hby0 hwf
          have hX := xAt_new wr ⟨xk, xa, xs, xv, .slice z4 xn zc, xn, xf⟩ 32
          obtain ⟨y0, y1, y2, y3, y4⟩ := hX
          have A4 := A3.on ((Kept.refl _ wr).alloc (.cells #[.int .i64 xk, .int .u64 (U xa), .int .i64 xs, .int .u64 (U xv), (.slice z4 xn zc)] 32))
          have hlt : ∀ b, (g.own b ∨ o.own b) ∨ (r.own b ∨ s.own b) → b < wr.heap.size := fun b hb => hb.elim A3.i.lt A3.j.lt
          have hWr0 : W.heap.size ≤ wr.heap.size := A3.st.size
          replace hlt := hide hlt
          replace hby := hide hby
          replace hbz := hide hbz
          clear A3
          by_cases hk0 : xk = 0
          · subst hk0
            as_aux_lemma =>
              go_wp2_with fail
              go_at_call 12
              refine (Write_any _ _ _ A4.i.a xa xs xv).mono ?_
              rintro e5 w5 ⟨rfl, bl5, h5, k5, o5⟩
              have A5 := A4.wrI h5 k5 o5
              have Q5 := A4.i.q bl5
              obtain ⟨y0, y1, y2, y3, y4⟩ := XAt.kept (x := ⟨0, xa, xs, xv, .slice z4 xn zc, xn, xf⟩) ⟨y0, y1, y2, y3, y4⟩ k5 fun e' => Nat.lt_irrefl _ (hlt.out _ (.inl (.inl e')))
              clear A4 h5 k5 o5
              go_wp2_with fail
              go_at_call 13
              refine (RWrite_any _ _ _ A5.j.a xa xs xv).mono ?_
              rintro e6 w6 ⟨rfl, tab6, h6, k6, o6⟩
              have A6 := A5.wrR h6 k6 o6
              have Q6 := A5.j.q tab6
              clear A5 h6 k6 o6 y0 y1 y2 y3 y4
              generalize hb5 : hasS xa xs = hb at *
              go_wp2_with fail
              go_roundw
              case rel => exact ⟨i + 1, e, ⟨g.q, g.m, bl5⟩, (bif e then ⟨g.q, g.m, bl5⟩ else o), ⟨r.q, r.p, tab6⟩, (bif e then ⟨r.q, r.p, tab6⟩ else s), _, _, hin, by simp, rfl, rfl, by rw [Q5], by rw [Q6], A6⟩
              case measure => exact hms
          by_cases hk1 : xk = 1
          · subst hk1
            as_aux_lemma =>
              go_wp2_with fail
              go_at_call 14
              refine (Read_any _ _ _ A4.i.a xa xs).mono ?_
              rintro e5 w5 ⟨rfl, rfl⟩
              go_wp2_with fail
              go_at_call 15
              refine (RRead_any _ _ _ A4.j.a xa xs).mono ?_
              rintro e6 w6 ⟨rfl, rfl⟩
              generalize rdN M xa xs = rv at *
              generalize hasS xa xs = hb at *
              go_wp2_with fail
              go_roundw
              case rel => exact ⟨i + 1, e, _, _, _, _, _, _, hin, by simp, rfl, rfl, rfl, rfl, A4⟩
              case measure => exact hms
          by_cases hk2 : xk = 2
          · subst hk2
            as_aux_lemma =>
              have z1 : ∀ n, ((wr.alloc (.cells #[.int .i64 2, .int .u64 (U xa), .int .i64 xs, .int .u64 (U xv), (.slice z4 xn zc)] 32)).drewN n).cell? ⟨wr.heap.size, 1, none⟩ = some (.int .u64 (U xa)) := fun _ => y1
              have z2 : ∀ n, ((wr.alloc (.cells #[.int .i64 2, .int .u64 (U xa), .int .i64 xs, .int .u64 (U xv), (.slice z4 xn zc)] 32)).drewN n).cell? ⟨wr.heap.size, 2, none⟩ = some (.int .i64 xs) := fun _ => y2
              go_wp2_with fail
              go_quiet ((first
                | (go_at_call 16; exact Calls.quiet_of_same (Has_any _ _ xa xs))
                | (go_at_call 17; exact Calls.quiet_of_same (RHas_any _ _ xa xs))))
              have A5 := A4.on ((Kept.refl (fun _ => False) _).drewN nq)
              generalize hasS xa xs = hb at *
              go_wp2_with fail
              go_roundw
              case rel => exact ⟨i + 1, e, _, _, _, _, _, _, hin, by simp, rfl, rfl, rfl, rfl, A5⟩
              case measure => exact hms
          by_cases hk3 : xk = 3
          · subst hk3
            as_aux_lemma =>
              go_wp2_with fail
              go_at_call 18
              refine (Pages_any _ _ _ A4.i.a).mono ?_
              rintro e5 w5 ⟨v5, rfl, p5, k5⟩
              have A5 := A4.on k5
              go_wp2_with fail
              go_at_call 19
              refine (RPages_any _ _ _ A5.j.a).mono ?_
              rintro e6 w6 ⟨v6, rfl, p6, k6⟩
              have A6 := A5.on k6
              replace p5 := p5.still k6
              clear A4 A5
              go_wp2_with fail
              go_at_call 20
              refine (sameList_any _ _ _ _ _ p5.nums p6.nums).mono ?_
              rintro e7 w7 ⟨rfl, k7⟩
              rw [decide_eq_true rfl]
              have A7 := A6.on k7
              replace p5 := p5.still k7
              clear A6 p6
              obtain ⟨z9, c9, rfl, hc9, hm9, hr9⟩ := p5.rowAt
              clear p5 k5 k6 k7
              have hL := length_pagesI M
              generalize (pagesI M).length = len at *
              rw [maxLen_is] at hm9
              replace hr9 := hide hr9
              go_wp2_with fail
              go_loopw [23] (fun kv wr' => ∃ k : Nat, k ≤ len ∧ kv = .int .i64 k ∧ Al e e W wr' g o r s M O M O ∧ (0 < len → ∃ b V, z9 = some ⟨b, 0, none⟩ ∧ wr.heap.size + 1 ≤ b ∧ RowAt wr' b 30 len V)) (fun kv _ => len - (intOf kv).toNat)
              case atStart => exact ⟨0, Nat.zero_le _, rfl, A7, fun h0 => by
                obtain ⟨b, V, r1, r2, r3⟩ := hr9.out h0
                rw [World.size_alloc] at r2
                exact ⟨b, V, r1, r2, r3⟩⟩
              case round =>
                clear A7 hr9
                obtain ⟨k, hk, rfl, A7, hr9⟩ := hrel
                by_cases hkn : k < len
                · obtain ⟨b, V, rfl, hb9, hrow⟩ := hr9 (by omega)
                  have c0 := hrow.cell hkn
                  have f0 := hrow.frozen k
                  have hWr := A7.st.size
                  have A8 := A7.kept (S := fun x => x = b) ((Kept.refl _ _).setCell ⟨b, k, none⟩ (.int .u64 5) (.inl rfl)) (fun x e' => by rw [e']; have := hWr0; omega) (fun x hx e' => by have := hlt.out x (.inl hx); omega) (fun x hx e' => by have := hlt.out x (.inr hx); omega)
                  have hr2 := hrow.set k (.int .u64 5)
                  have hk0 : 0 ≤ (k : Int) := by omega
                  have hk1 : (k : Int) < (len : Int) := by omega
                  have hms9 := meas_k hkn
                  clear A7 hrow hr9
                  go_wp2_with fail
                  go_roundw
                  case rel => exact ⟨k + 1, hkn, by simp, A8, fun _ => ⟨b, _, rfl, hb9, hr2⟩⟩
                  case measure => exact hms9
                · obtain rfl : k = len := by omega
                  have hirr9 : ¬ (k : Int) < (k : Int) := Int.lt_irrefl _
                  clear hr9
                  go_wp2_with fail
                  go_roundw
                  case rel => exact ⟨i + 1, e, _, _, _, _, _, _, hin, by simp, rfl, rfl, rfl, rfl, A7⟩
                  case measure => exact hms
          by_cases hk4 : xk = 4
          · subst hk4
            as_aux_lemma =>
              go_wp2_with fail
              go_at_call 21
              refine (Copy_any _ _ _ A4.i.a).mono ?_
              rintro e5 w5 ⟨g5, rfl, h5, k5, o5⟩
              have A5 := A4.cpI h5 k5 o5
              obtain ⟨y0, y1, y2, y3, y4⟩ := XAt.on (x := ⟨4, xa, xs, xv, .slice z4 xn zc, xn, xf⟩) ⟨y0, y1, y2, y3, y4⟩ k5
              clear A4 h5 k5 o5
              go_wp2_with fail
              go_at_call 22
              refine (RCopy_any _ _ _ A5.j.a).mono ?_
              rintro e6 w6 ⟨r6, rfl, h6, k6, o6⟩
              have A6 := A5.cpR h6 k6 o6
              obtain ⟨y0, y1, y2, y3, y4⟩ := XAt.on (x := ⟨4, xa, xs, xv, .slice z4 xn zc, xn, xf⟩) ⟨y0, y1, y2, y3, y4⟩ k6
              clear A5 h6 k6 o6
              go_wp2_with fail
              go_at_call 12
              refine (Write_any _ _ _ A6.i.b xa xs xv).mono ?_
              rintro e7 w7 ⟨rfl, bl7, h7, k7, o7⟩
              have A7 := A6.wrO h7 k7 o7
              obtain ⟨y0, y1, y2, y3, y4⟩ := XAt.kept (x := ⟨4, xa, xs, xv, .slice z4 xn zc, xn, xf⟩) ⟨y0, y1, y2, y3, y4⟩ k7 fun e' => Nat.lt_irrefl _ (hlt.out _ (.inl (.inl e')))
              clear A6 h7 k7 o7
              go_wp2_with fail
              go_at_call 13
              refine (RWrite_any _ _ _ A7.j.b xa xs xv).mono ?_
              rintro e8 w8 ⟨rfl, tab8, h8, k8, o8⟩
              have A8 := A7.wrS h8 k8 o8
              clear A7 h8 k8 o8 y0 y1 y2 y3 y4
              go_wp2_with fail
              go_roundw
              case rel => exact ⟨i + 1, false, g5, ⟨g.q, g.m, bl7⟩, r6, ⟨r.q, r.p, tab8⟩, _, _, hin, by simp, rfl, rfl, rfl, rfl, A8⟩
              case measure => exact hms
          by_cases hk5 : xk = 5
          · subst hk5
            as_aux_lemma =>
              go_wp2_with fail
              go_at_call 10
              refine (Lay_any _ _ _ A4.i.a _ xn xf (hby.out.still A4.st) (fun h0 b e' hg => ?_)).mono ?_
              · obtain ⟨rb, rfl, hrb, -⟩ := hbz.out h0
                cases e'
                have := A4.i.ma _ hg
                omega
              rintro e5 w5 ⟨rfl, bl5, h5, k5, o5⟩
              have A5 := A4.wrI h5 k5 o5
              have Q5 := A4.i.q bl5
              obtain ⟨y0, y1, y2, y3, y4⟩ := XAt.kept (x := ⟨5, xa, xs, xv, .slice z4 xn zc, xn, xf⟩) ⟨y0, y1, y2, y3, y4⟩ k5 fun e' => Nat.lt_irrefl _ (hlt.out _ (.inl (.inl e')))
              clear A4 h5 k5 o5
              go_wp2_with fail
              go_at_call 11
              refine (RLay_any _ _ _ A5.j.a _ xn xf (hby.out.still A5.st) (fun h0 b e' hg => ?_)).mono ?_
              · obtain ⟨rb, rfl, hrb, -⟩ := hbz.out h0
                cases e'
                have := A5.j.ma _ hg
                omega
              rintro e6 w6 ⟨rfl, tab6, h6, k6, o6⟩
              have A6 := A5.wrR h6 k6 o6
              have Q6 := A5.j.q tab6
              clear A5 h6 k6 o6 y0 y1 y2 y3 y4
              generalize decide (xn ≤ 1048576) = hb at *
              go_wp2_with fail
              go_roundw
              case rel => exact ⟨i + 1, e, ⟨g.q, g.m, bl5⟩, (bif e then ⟨g.q, g.m, bl5⟩ else o), ⟨r.q, r.p, tab6⟩, (bif e then ⟨r.q, r.p, tab6⟩ else s), _, _, hin, by simp, rfl, rfl, by rw [Q5], by rw [Q6], A6⟩
              case measure => exact hms
          have a0 : (xk == 0) = false := by simpa using hk0
          have b0 : decide (xk = 0) = false := decide_eq_false hk0
          have c0 : (xk != 0) = true := by simpa using hk0
          have d0 : (xk = 0) = False := eq_false hk0
          have a1 : (xk == 1) = false := by simpa using hk1
          have b1 : decide (xk = 1) = false := decide_eq_false hk1
          have c1 : (xk != 1) = true := by simpa using hk1
          have d1 : (xk = 1) = False := eq_false hk1
          have a2 : (xk == 2) = false := by simpa using hk2
          have b2 : decide (xk = 2) = false := decide_eq_false hk2
          have c2 : (xk != 2) = true := by simpa using hk2
          have d2 : (xk = 2) = False := eq_false hk2
          have a3 : (xk == 3) = false := by simpa using hk3
          have b3 : decide (xk = 3) = false := decide_eq_false hk3
          have c3 : (xk != 3) = true := by simpa using hk3
          have d3 : (xk = 3) = False := eq_false hk3
          have a4 : (xk == 4) = false := by simpa using hk4
          have b4 : decide (xk = 4) = false := decide_eq_false hk4
          have c4 : (xk != 4) = true := by simpa using hk4
          have d4 : (xk = 4) = False := eq_false hk4
          have a5 : (xk == 5) = false := by simpa using hk5
          have b5 : decide (xk = 5) = false := decide_eq_false hk5
          have c5 : (xk != 5) = true := by simpa using hk5
          have d5 : (xk = 5) = False := eq_false hk5
          clear hk0 hk1 hk2 hk3 hk4 hk5
          as_aux_lemma =>
            go_wp2_with fail
            go_at_call 23
            refine (RSame_any _ _ _ _ _ A4.j.a A4.j.b).mono ?_
            rintro e5 w5 ⟨rfl, k5⟩
            have A5 := A4.on k5
            clear A4 k5
            go_wp2_with fail
            go_at_call 24
            refine (Same_any _ _ _ _ _ A5.i.a A5.i.b).mono ?_
            rintro e6 w6 ⟨rfl, k6⟩
            have A6 := A5.on k6
            clear A5 k6
            have hcm := sameM_comm O M
            generalize sameM M O = sm at *
            cases sm
            all_goals
              go_wp2_with fail
              go_at_call 24
              refine (Same_any _ _ _ _ _ A6.i.b A6.i.a).mono ?_
              rintro e7 w7 ⟨rfl, k7⟩
              rw [hcm]
              have A7 := A6.on k7
              clear A6 k7
              go_wp2_with fail
              go_roundw
              case rel => exact ⟨i + 1, e, _, _, _, _, _, _, hin, by simp, rfl, rfl, rfl, rfl, A7⟩
              case measure => exact hms
        · obtain rfl : i = l.length := by omega
          have hirr : ¬ (l.length : Int) < (l.length : Int) := Int.lt_irrefl _
          as_aux_lemma =>
            go_wp2_with fail
            go_at_call 14
            refine (Read_any _ _ _ A3.i.a (2147483648#64) 8).mono ?_
            rintro e5 w5 ⟨rfl, rfl⟩
            go_wp2_with fail
            go_at_call 15
            refine (RRead_any _ _ _ A3.j.a (2147483648#64) 8).mono ?_
            rintro e6 w6 ⟨rfl, rfl⟩
            generalize rdN M (2147483648#64) 8 = rv at *
            have hs8 : hasS (2147483648#64) 8 = true := by decide
            rw [hs8]
            go_wp2_with fail
            go_at_call 18
            refine (Pages_any _ _ _ A3.i.a).mono ?_
            rintro e7 w7 ⟨v7, rfl, p7, k7⟩
            have A7 := A3.on k7
            clear A3
            go_wp2_with fail
            go_at_call 19
            refine (RPages_any _ _ _ A7.j.a).mono ?_
            rintro e8 w8 ⟨v8, rfl, p8, k8⟩
            have A8 := A7.on k8
            replace p7 := p7.still k8
            clear A7
            go_wp2_with fail
            go_at_call 20
            refine (sameList_any _ _ _ _ _ p7.nums p8.nums).mono ?_
            rintro e9 w9 ⟨rfl, k9⟩
            rw [decide_eq_true rfl]
            have A9 := A8.on k9
            clear A8 p7 p8
            go_wp2_with fail
            go_ret
            exact ⟨rfl, Still.low (Kept.refl _ _) A9.st⟩
end Go.Proofs.Ytnbifbllemcjfaa
