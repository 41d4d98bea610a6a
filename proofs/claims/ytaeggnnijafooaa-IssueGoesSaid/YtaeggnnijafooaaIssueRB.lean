/-
  The reference's Insert.
-/
import Derived.Test.YtaeggnnijafooaaIssueRA
namespace Go.Proofs.Ytaeggnnijafooaa
set_option linter.unusedVariables false
open Go.RowKit Go.Maps

theorem ins_end : ∀ {d : List En} {u : En}, (∀ e ∈ d, e.tag < u.tag) → insS u d = d ++ [u]
  | [], _, _ => rfl
  | x :: r, u, h => by
    rw [insS, if_neg (by have := h x (by simp); omega), ins_end fun e he => h e (by simp [he])]
    rfl
theorem ins_in : ∀ {d : List En} {u e : En}, (∃ y ∈ d, u.tag < y.tag) → insS u (d ++ [e]) = insS u d ++ [e]
  | [], u, e, h => by obtain ⟨y, hy, _⟩ := h; cases hy
  | x :: r, u, e, h => by
    rw [List.cons_append, insS, insS]
    by_cases hx : u.tag < x.tag
    · rw [if_pos hx, if_pos hx]; rfl
    · rw [if_neg hx, if_neg hx, ins_in]
      · rfl
      · obtain ⟨y, hy, hyu⟩ := h
        rcases List.mem_cons.1 hy with rfl | hy
        · exact absurd hyu hx
        · exact ⟨y, hy, hyu⟩
theorem ins_now : ∀ {d : List En} {u e : En}, (∀ y ∈ d, y.tag < u.tag) → u.tag < e.tag → insS u (d ++ [e]) = (d ++ [u]) ++ [e]
  | [], u, e, _, h => by
    show insS u [e] = [u, e]
    rw [insS, if_pos h]
  | x :: r, u, e, hd, h => by
    rw [List.cons_append, insS, if_neg (by have := hd x (by simp); omega), ins_now (fun y hy => hd y (by simp [hy])) h]
    rfl
theorem uc_one (e : En) : (enC e).toList = [.int .i64 e.tag, .int .i64 e.unit, .int .i64 e.a, .int .i64 e.b, .int .i64 e.c] := rfl
theorem uC_snoc (l : List En) (e : En) : uC (l ++ [e]) = uC l ++ [.int .i64 e.tag, .int .i64 e.unit, .int .i64 e.a, .int .i64 e.b, .int .i64 e.c] := by
  rw [uC_app]
  show uC l ++ ((enC e).toList ++ []) = _
  rw [List.append_nil, uc_one]
theorem infoU : (Try.prog.info? 30).map (fun i => (i.zero, i.size, i.bytes)) = some (some (.agg #[.int .i64 0, .int .i64 0, .int .i64 0, .int .i64 0, .int .i64 0]), 5, 40) := by kernel_rfl
theorem news_one {w : World} {cs : Array Value} {t : TypeId} {e : En} (hc : cs = enC e) : ∀ j u, ([.int .i64 e.tag, .int .i64 e.unit, .int .i64 e.a, .int .i64 e.b, .int .i64 e.c] : List Value)[j]? = some u → (w.alloc (.cells cs t)).cell? ((⟨w.heap.size, 0, none⟩ : Addr).add j) = some u := by
  intro j u hu
  have hadd : (⟨w.heap.size, 0, none⟩ : Addr).add j = ⟨w.heap.size, j, none⟩ := by unfold Addr.add; split <;> simp_all
  rw [hadd]
  unfold World.cell?
  rw [heap_alloc_new]
  subst hc
  have : (enC e)[j]? = some u := by
    rw [← Array.getElem?_toList, uc_one]
    exact hu
  simpa using this
theorem URow.app {w : World} {base : Nat} {v : Value} {o : List En} {e : En} (h : w.ownsRow base 30 5 v (o.length + 1) (uC o ++ [.int .i64 e.tag, .int .i64 e.unit, .int .i64 e.a, .int .i64 e.b, .int .i64 e.c])) : URow w base v (o ++ [e]) := by
  unfold URow
  rw [uC_snoc, List.length_append]
  exact h
/-- What a round of Insert has laid. -/
def Laid (u : En) (d o : List En) (b : Bool) : Prop := (b = false ∧ o = d ∧ ∀ e ∈ d, e.tag < u.tag) ∨ (b = true ∧ o = insS u d ∧ ∃ y ∈ d, u.tag < y.tag)
set_option maxRecDepth 100000 in
set_option maxHeartbeats 8000000 in
theorem RInsert_any (w : World) (b : Nat) (v : Value) (base : Nat) (size : Int) (s : List En) (u : En) (h : HeldR w b v base size s) (hs : Sorted s) (hl : (s.length : Int) ≤ size) (hsz : size ≤ 64) :
    Calls Try.prog 12 #[.pointer (some ⟨b, 0, none⟩), enV u] w fun e w' =>
      e = .returned (.bool (insOk size s u)) ∧ ROut w b v size (insL size s u) w' := by
  obtain ⟨i0, hi, hz0, hz1, hz2⟩ := info_parts infoU
  obtain ⟨z, cap, rfl, hz⟩ := h.row.form
  replace hz := hide hz
  unfold enV
  go_enter Try.func12, Try.ntmps12
  go_wp2_with fail
  have k1 : Still w (w.alloc (.cells #[.int .i64 u.tag, .int .i64 u.unit, .int .i64 u.a, .int .i64 u.b, .int .i64 u.c] 30)) := (Kept.refl _ w).alloc _
  have hub : (w.alloc (.cells #[.int .i64 u.tag, .int .i64 u.unit, .int .i64 u.a, .int .i64 u.b, .int .i64 u.c] 30)).heap[w.heap.size]? = some (.cells #[.int .i64 u.tag, .int .i64 u.unit, .int .i64 u.a, .int .i64 u.b, .int .i64 u.c] 30 (0, 0)) := heap_alloc_new _ _
  generalize w.alloc (.cells #[.int .i64 u.tag, .int .i64 u.unit, .int .i64 u.a, .int .i64 u.b, .int .i64 u.c] 30) = w1 at *
  have y0 : w1.cell? ⟨w.heap.size, 0, none⟩ = some (.int .i64 u.tag) := by simp [World.cell?, hub]
  have y1 : w1.cell? ⟨w.heap.size, 1, none⟩ = some (.int .i64 u.unit) := by simp [World.cell?, hub]
  have y2 : w1.cell? ⟨w.heap.size, 2, none⟩ = some (.int .i64 u.a) := by simp [World.cell?, hub]
  have y3 : w1.cell? ⟨w.heap.size, 3, none⟩ = some (.int .i64 u.b) := by simp [World.cell?, hub]
  have y4 : w1.cell? ⟨w.heap.size, 4, none⟩ = some (.int .i64 u.c) := by simp [World.cell?, hub]
  have h1 := h.still k1
  have c0 := h1.c0
  have c1 := h1.c1
  have hNo : insOk size s u = false → ∀ w', Still w1 w' → ROut w b (.slice z s.length cap) size (insL size s u) w' := fun e w' k => by
    rw [insL_no e]
    exact h.out (k1.trans k)
  replace hNo := hide hNo
  replace h1 := hide h1
  replace h := hide h
  replace k1 := hide k1
  clear hub
  by_cases hfull : (s.length : Int) = size
  · have hk : insOk size s u = false := by unfold insOk; simp; omega
    have hN := hide (hNo.out hk)
    have hkk := hide hk
    clear hk hNo
    go_quiet (fail)
    go_wp2
    go_ret
    rw [hkk.out]
    exact ⟨rfl, hN.out _ ((Kept.refl _ _).drewN _)⟩
  · have hless : (s.length : Int) < size := by omega
    by_cases hn1 : u.unit < 0
    · have hk : insOk size s u = false := by unfold insOk; simp; omega
      have hN := hide (hNo.out hk)
      have hkk := hide hk
      clear hk hNo
      go_quiet (fail)
      go_wp2
      go_ret
      rw [hkk.out]
      exact ⟨rfl, hN.out _ ((Kept.refl _ _).drewN _)⟩
    · by_cases hn2 : 4 < u.unit
      · have hk : insOk size s u = false := by unfold insOk; simp; omega
        have hN := hide (hNo.out hk)
        have hkk := hide hk
        clear hk hNo
        go_quiet (fail)
        go_wp2
        go_ret
        rw [hkk.out]
        exact ⟨rfl, hN.out _ ((Kept.refl _ _).drewN _)⟩
      · go_quiet (fail)
        have hok : insOk size s u = !hasT s u.tag := by
          unfold insOk
          rw [decide_eq_true hless, decide_eq_true (by omega : 0 ≤ u.unit), decide_eq_true (by omega : u.unit < 5)]
          simp
        replace hok := hide hok
        have hlen := hless
        clear hfull hless hn1 hn2
        generalize hw2 : w1.drewN nq = w2
        have k2 : Still w1 w2 := by rw [← hw2]; exact (Kept.refl _ _).drewN _
        clear hw2
        go_wp2_with fail
        have hw12 : w1.heap.size ≤ w2.heap.size := k2.size
        have r3 : URow (w2.alloc (.cells #[] 30)) w1.heap.size (.slice (some ⟨w2.heap.size, 0, none⟩) 0 0) [] := World.ownsRow_made w2 #[] 0 hw12 (Nat.zero_le _) rfl
        have k3 : Still w1 (w2.alloc (.cells #[] 30)) := k2.alloc _
        generalize w2.alloc (.cells #[] 30) = w3 at *
        clear k2 hw12
        go_loopw [5, 6, 7] (fun ov lv iv wr => ∃ (d r o : List En) (lb : Bool), s = d ++ r ∧ iv = .int .i64 d.length ∧ lv = .bool lb ∧ URow wr w1.heap.size ov o ∧ Laid u d o lb ∧ (∀ e ∈ d, e.tag ≠ u.tag) ∧ Still w1 wr) (fun _ _ iv _ => s.length - (intOf iv).toNat)
        case atStart => exact ⟨[], s, [], false, rfl, rfl, rfl, r3, .inl ⟨rfl, rfl, fun e he => absurd he (by simp)⟩, fun e he => absurd he (by simp), k3⟩
        case round =>
          clear r3 k3
          obtain ⟨d, r, o, lb, hs', rfl, rfl, hrow, hL, hne, k4⟩ := hrel
          have hsl : s.length = d.length + r.length := by rw [hs', List.length_append]
          have hdk : (d.length : Int) < 1000 := by omega
          have c0' := k4.cell c0
          have y0' := k4.cell y0
          have y1' := k4.cell y1
          have y2' := k4.cell y2
          have y3' := k4.cell y3
          have y4' := k4.cell y4
          cases r with
          | nil =>
            obtain rfl : s = d := by rw [hs', List.append_nil]
            have hnot : ¬ (s.length : Int) < (s.length : Int) := Int.lt_irrefl _
            have hT : hasT s u.tag = false := by
              cases hh : hasT s u.tag
              · rfl
              · obtain ⟨e, he, hee⟩ := hasT_iff.1 hh
                exact absurd hee (hne e he)
            have hko : insOk size s u = true := by rw [hok.out, hT]; rfl
            have hkk := hide hko
            have hfree := (h1.out.still k4).free 0
            have hbw : b < wr.heap.size := (h1.out.still k4).lt (.inl rfl)
            have hsz4 : w1.heap.size ≤ wr.heap.size := k4.size
            clear hs' hsl hne hT hko hok hNo hz
            cases lb
            · have hLs : insL size s u = s ++ [u] := by
                rw [insL_yes hkk.out]
                rcases hL with ⟨_, rfl, h3⟩ | ⟨h, _⟩
                · exact ins_end h3
                · cases h
              have ho : o = s := by
                rcases hL with ⟨_, rfl, h3⟩ | ⟨h, _⟩
                · rfl
                · cases h
              subst ho
              replace hLs := hide hLs
              clear hL
              go_wp2_with (first
                | (at_builtin; refine wpList_append_own_at _ rfl _ _ 45 rfl w1.heap.size 30 i0 _ 5 40 Try.underlying45 hi hz0 hz1 hz2 rfl (by decide) _ _ _ rfl (World.ownsRow.alloc hrow _) ⟨wr.heap.size, 0, none⟩ 1 1 [.int .i64 u.tag, .int .i64 u.unit, .int .i64 u.a, .int .i64 u.b, .int .i64 u.c] rfl rfl (news_one rfl) (by simp [Value.oneCell']) (by unfold maxLen; omega) (by omega) (by simp; omega) ?_; intro v8 w8 hown8 hg8 hnil8 hloc8; go_frame
                   have k8 : Still w1 w8 := (k4.alloc _).grown hg8 (fun p hp => .inr (URow.lt hrow p hp).1)
                   have hrow8 := URow.app hown8
                   have hfree8 := (h1.out.still k8).free 0
                   have c08 := k8.cell c0
                   obtain ⟨zo, co, hv8, -⟩ := hrow8.form
                   rw [List.length_append, List.length_singleton] at hv8
                   subst hv8))
              go_ret
              rw [hkk.out, hLs.out]
              exact ⟨rfl, h.out.outLay k1.out k8 hrow8⟩
            · have hLs : insL size s u = o := by
                rw [insL_yes hkk.out]
                rcases hL with ⟨h, _⟩ | ⟨_, rfl, _⟩
                · cases h
                · rfl
              replace hLs := hide hLs
              clear hL
              obtain ⟨zo, co, rfl, -⟩ := hrow.form
              go_wp2_with fail
              go_ret
              rw [hkk.out, hLs.out]
              exact ⟨rfl, h.out.outLay k1.out k4 hrow⟩
          | cons e r =>
            obtain ⟨rb, rfl, hrb, hrl, hra⟩ := hz.out (by simp at hsl; omega)
            have hse : s[d.length]? = some e := by rw [hs']; simp
            have hE1 : EnAt w1 rb d.length e := (hra _ _ hse).on k1.out (fun e => e)
            have hE : EnAt wr rb d.length e := hE1.on k4 (fun e => e)
            obtain ⟨d0, d1, d2, d3, d4⟩ := hE
            have hin : (d.length : Int) < (s.length : Int) := by simp at hsl; omega
            have hin0 : 0 ≤ (d.length : Int) := by omega
            have hms := meas_k (k := d.length) (n := s.length) (by simp at hsl; omega)
            have hs2 : s = (d ++ [e]) ++ r := by rw [hs']; simp
            replace hs' := hide hs'
            replace hs2 := hide hs2
            replace hsl := hide hsl
            replace hne := hide hne
            replace hL := hide hL
            clear hse hra
            by_cases het : e.tag = u.tag
            · have hk : hasT s u.tag = true := hasT_iff.2 ⟨e, by rw [hs'.out]; simp, het⟩
              have hko : insOk size s u = false := by rw [hok.out, hk]; rfl
              have hN := hide (hNo.out hko)
              have hkk := hide hko
              clear hko hk hNo
              rw [het] at d0
              go_wp2_with fail
              go_quiet (fail)
              go_wp2
              go_ret
              rw [hkk.out]
              exact ⟨rfl, hN.out _ (k4.drewN _)⟩
            · go_wp2_with fail
              go_quiet (fail)
              have k5 := k4.drewN nq
              have hrow5 := hrow.still ((Kept.refl (fun _ => False) wr).drewN nq)
              generalize wr.drewN nq = wq at *
              have c0' := k5.cell c0
              have y0' := k5.cell y0
              have y1' := k5.cell y1
              have y2' := k5.cell y2
              have y3' := k5.cell y3
              have y4' := k5.cell y4
              obtain ⟨d0, d1, d2, d3, d4⟩ := hE1.on k5 (fun e => e)
              clear hrow
              have hol : o.length ≤ 200 := by
                rcases hL.out with ⟨_, rfl, _⟩ | ⟨_, rfl, _⟩
                · omega
                · rw [length_insS]; omega
              have hne2 : ∀ y ∈ d ++ [e], y.tag ≠ u.tag := fun y hy => by
                rcases List.mem_append.1 hy with h | h
                · exact hne.out y h
                · rw [List.mem_singleton.1 h]; exact het
              replace hne2 := hide hne2
              have hso : ∀ y ∈ d, y.tag < e.tag := fun y hy => by
                have := hs'.out ▸ hs
                exact (List.pairwise_append.1 this).2.2 y hy e (by simp)
              replace hso := hide hso
              by_cases hgt : u.tag < e.tag
              · cases lb
                · have hLn : Laid u (d ++ [e]) (o ++ [u] ++ [e]) true := by
                    rcases hL.out with ⟨_, rfl, h3⟩ | ⟨h, _⟩
                    · exact .inr ⟨rfl, (ins_now h3 hgt).symm, e, by simp, hgt⟩
                    · cases h
                  replace hLn := hide hLn
                  go_wp2_with fail
                  go_quiet (fail)
                  have k6 := k5.drewN nq
                  have hrow6 := hrow5.still ((Kept.refl (fun _ => False) wq).drewN nq)
                  generalize wq.drewN nq = wp at *
                  have c0' := k6.cell c0
                  have y0' := k6.cell y0
                  have y1' := k6.cell y1
                  have y2' := k6.cell y2
                  have y3' := k6.cell y3
                  have y4' := k6.cell y4
                  obtain ⟨d0, d1, d2, d3, d4⟩ := hE1.on k6 (fun e => e)
                  have hsz6 : w1.heap.size ≤ wp.heap.size := k6.size
                  go_wp2_with (first
                    | (at_builtin; refine wpList_append_own_at _ rfl _ _ 45 rfl w1.heap.size 30 i0 _ 5 40 Try.underlying45 hi hz0 hz1 hz2 rfl (by decide) _ _ _ rfl (World.ownsRow.alloc hrow6 _) ⟨wp.heap.size, 0, none⟩ 1 1 [.int .i64 u.tag, .int .i64 u.unit, .int .i64 u.a, .int .i64 u.b, .int .i64 u.c] rfl rfl (news_one rfl) (by simp [Value.oneCell']) (by unfold maxLen; omega) (by omega) (by simp; omega) ?_; intro v7 w7 hown7 hg7 hnil7 hloc7; go_frame
                       have k7 : Still w1 w7 := (k6.alloc _).grown hg7 (fun p hp => .inr (URow.lt hrow6 p hp).1)
                       have hrow7 := URow.app hown7
                       have c0' := k7.cell c0
                       obtain ⟨d0, d1, d2, d3, d4⟩ := hE1.on k7 (fun e => e)
                       have hsz7 : w1.heap.size ≤ w7.heap.size := k7.size
                       have hol7 : (o ++ [u]).length ≤ 201 := by rw [List.length_append]; simp; omega
                       clear hown7)
                    | (at_builtin; refine wpList_append_own_at _ rfl _ _ 45 rfl w1.heap.size 30 i0 _ 5 40 Try.underlying45 hi hz0 hz1 hz2 rfl (by decide) _ _ _ rfl (World.ownsRow.alloc hrow7 _) ⟨w7.heap.size, 0, none⟩ 1 1 [.int .i64 e.tag, .int .i64 e.unit, .int .i64 e.a, .int .i64 e.b, .int .i64 e.c] rfl rfl (news_one rfl) (by simp [Value.oneCell']) (by unfold maxLen; omega) (by omega) (by simp; omega) ?_; intro v8 w8 hown8 hg8 hnil8 hloc8; go_frame))
                  have k8 : Still w1 w8 := (k7.alloc _).grown hg8 (fun p hp => .inr (URow.lt hrow7 p hp).1)
                  have hrow8 := URow.app hown8
                  go_roundw
                  case rel => exact ⟨d ++ [e], r, o ++ [u] ++ [e], true, hs2.out, by simp, rfl, hrow8, hLn.out, hne2.out, k8⟩
                  case measure => exact hms
                · have hLn : Laid u (d ++ [e]) (o ++ [e]) true := by
                    rcases hL.out with ⟨h, _⟩ | ⟨_, rfl, h3⟩
                    · cases h
                    · obtain ⟨y, hy, hyu⟩ := h3
                      exact .inr ⟨rfl, (ins_in ⟨y, hy, hyu⟩).symm, y, by simp [hy], hyu⟩
                  replace hLn := hide hLn
                  go_wp2_with fail
                  go_quiet (fail)
                  have k6 := k5.drewN nq
                  have hrow6 := hrow5.still ((Kept.refl (fun _ => False) wq).drewN nq)
                  generalize wq.drewN nq = wp at *
                  have c0' := k6.cell c0
                  have y0' := k6.cell y0
                  have y1' := k6.cell y1
                  have y2' := k6.cell y2
                  have y3' := k6.cell y3
                  have y4' := k6.cell y4
                  obtain ⟨d0, d1, d2, d3, d4⟩ := hE1.on k6 (fun e => e)
                  have hsz6 : w1.heap.size ≤ wp.heap.size := k6.size
                  go_wp2_with (first
                    | (at_builtin; refine wpList_append_own_at _ rfl _ _ 45 rfl w1.heap.size 30 i0 _ 5 40 Try.underlying45 hi hz0 hz1 hz2 rfl (by decide) _ _ _ rfl (World.ownsRow.alloc hrow6 _) ⟨wp.heap.size, 0, none⟩ 1 1 [.int .i64 e.tag, .int .i64 e.unit, .int .i64 e.a, .int .i64 e.b, .int .i64 e.c] rfl rfl (news_one rfl) (by simp [Value.oneCell']) (by unfold maxLen; omega) (by omega) (by simp; omega) ?_; intro v8 w8 hown8 hg8 hnil8 hloc8; go_frame))
                  have k8 : Still w1 w8 := (k6.alloc _).grown hg8 (fun p hp => .inr (URow.lt hrow6 p hp).1)
                  have hrow8 := URow.app hown8
                  go_roundw
                  case rel => exact ⟨d ++ [e], r, o ++ [e], true, hs2.out, by simp, rfl, hrow8, hLn.out, hne2.out, k8⟩
                  case measure => exact hms
              · have hgd : ¬ u.tag < e.tag := hgt
                have hgd2 : e.tag ≤ u.tag := by omega
                have hgd3 : decide (u.tag < e.tag) = false := decide_eq_false hgd
                clear hgt hgd hgd2
                have hLn : Laid u (d ++ [e]) (o ++ [e]) lb := by
                  rcases hL.out with ⟨rfl, rfl, h3⟩ | ⟨rfl, rfl, h3⟩
                  · refine .inl ⟨rfl, rfl, fun y hy => ?_⟩
                    have := of_decide_eq_false hgd3
                    rcases List.mem_append.1 hy with h | h
                    · exact h3 y h
                    · rw [List.mem_singleton.1 h]; omega
                  · obtain ⟨y, hy, hyu⟩ := h3
                    exact .inr ⟨rfl, (ins_in ⟨y, hy, hyu⟩).symm, y, by simp [hy], hyu⟩
                replace hLn := hide hLn
                go_wp2_with fail
                go_quiet (fail)
                have k6 := k5.drewN nq
                have hrow6 := hrow5.still ((Kept.refl (fun _ => False) wq).drewN nq)
                generalize wq.drewN nq = wp at *
                have c0' := k6.cell c0
                have y0' := k6.cell y0
                have y1' := k6.cell y1
                have y2' := k6.cell y2
                have y3' := k6.cell y3
                have y4' := k6.cell y4
                obtain ⟨d0, d1, d2, d3, d4⟩ := hE1.on k6 (fun e => e)
                have hsz6 : w1.heap.size ≤ wp.heap.size := k6.size
                go_wp2_with (first
                  | (at_builtin; refine wpList_append_own_at _ rfl _ _ 45 rfl w1.heap.size 30 i0 _ 5 40 Try.underlying45 hi hz0 hz1 hz2 rfl (by decide) _ _ _ rfl (World.ownsRow.alloc hrow6 _) ⟨wp.heap.size, 0, none⟩ 1 1 [.int .i64 e.tag, .int .i64 e.unit, .int .i64 e.a, .int .i64 e.b, .int .i64 e.c] rfl rfl (news_one rfl) (by simp [Value.oneCell']) (by unfold maxLen; omega) (by omega) (by simp; omega) ?_; intro v8 w8 hown8 hg8 hnil8 hloc8; go_frame))
                have k8 : Still w1 w8 := (k6.alloc _).grown hg8 (fun p hp => .inr (URow.lt hrow6 p hp).1)
                have hrow8 := URow.app hown8
                go_roundw
                case rel => exact ⟨d ++ [e], r, o ++ [e], lb, hs2.out, by simp, rfl, hrow8, hLn.out, hne2.out, k8⟩
                case measure => exact hms
end Go.Proofs.Ytaeggnnijafooaa
