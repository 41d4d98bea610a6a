/-
  Walk: Tick.
-/
import Derived.Test.YtpflodhnniochaaCacheE
import Derived.Maps.AppendAt
import Derived.OwnWalk
import Derived.Deep.AppendLies
import Derived.Deep.RegionLaw
namespace Go.Proofs.Ytpflodhnniochaa
set_option linter.unusedVariables false
open Go.RowKit Go.Maps

def dnCells : List Dn → List Value
  | [] => []
  | d :: r => (dnV d).toList ++ dnCells r
theorem dnCells_append : ∀ l k : List Dn, dnCells (l ++ k) = dnCells l ++ dnCells k
  | [], _ => rfl
  | d :: r, k => by rw [List.cons_append, dnCells, dnCells, dnCells_append r k, List.append_assoc]
noncomputable def tick1 (s : St) (i : Nat) : St × List Dn :=
  if (s.sl i).is then
    if (s.sl i).left = 1 then (setSl (layS (setSl s i { s.sl i with left := 0 }) (s.sl i).line (s.sl i).write).1 i ⟨0#64, false, false, 0⟩, [(layS (setSl s i { s.sl i with left := 0 }) (s.sl i).line (s.sl i).write).2])
    else (setSl s i { s.sl i with left := (s.sl i).left - 1 }, [])
  else (s, [])
noncomputable def tickS (s : St) : Nat → St × List Dn
  | 0 => (s, [])
  | k + 1 => ((tick1 (tickS s k).1 k).1, (tickS s k).2 ++ (tick1 (tickS s k).1 k).2)
/-- Whatever is under way has at least a cycle left. -/
def Fr (s : St) : Prop := ∀ i, i < s.ns → (s.sl i).is = true → 1 ≤ (s.sl i).left
theorem lay_sl (s : St) (L : BitVec 64) (wr : Bool) : (layS s L wr).1.sl = s.sl ∧ (layS s L wr).1.ns = s.ns := by
  unfold layS
  split <;> simp only [fillS, comes, setPl, freed, seeded, and_self]
theorem tick1_sl (s : St) (i j : Nat) (h : j ≠ i) : (tick1 s i).1.sl j = s.sl j := by
  unfold tick1
  split
  · split
    · show (if j = i then _ else (layS _ _ _).1.sl j) = _
      rw [if_neg h, (lay_sl _ _ _).1]
      show (if j = i then _ else s.sl j) = _
      rw [if_neg h]
    · show (if j = i then _ else s.sl j) = _
      rw [if_neg h]
  · rfl
theorem tick1_ns (s : St) (i : Nat) : (tick1 s i).1.ns = s.ns := by
  unfold tick1
  split
  · split
    · show (layS _ _ _).1.ns = _
      rw [(lay_sl _ _ _).2]; rfl
    · rfl
  · rfl
theorem tick_sl (s : St) : ∀ (k j : Nat), k ≤ j → (tickS s k).1.sl j = s.sl j
  | 0, _, _ => rfl
  | k + 1, j, h => by rw [tickS]; exact (tick1_sl _ k j (by omega)).trans (tick_sl s k j (by omega))
theorem tick_ns (s : St) : ∀ k, (tickS s k).1.ns = s.ns
  | 0 => rfl
  | k + 1 => by rw [tickS]; exact (tick1_ns _ k).trans (tick_ns s k)
theorem tick_length (s : St) : ∀ k, (tickS s k).2.length ≤ k
  | 0 => Nat.le_refl _
  | k + 1 => by
    have := tick_length s k
    rw [tickS, List.length_append]
    have h1 : (tick1 (tickS s k).1 k).2.length ≤ 1 := by
      unfold tick1
      split
      · split <;> simp
      · simp
    omega
theorem Owns.kept {w w' : World} {base n size : Nat} {e : TypeId} {v : Value} {xs : List Value} {S : Nat → Prop} (h : w.ownsRow base e size v n xs) (k : Kept S w w') (hs : ∀ b, base ≤ b → ¬ S b) : w'.ownsRow base e size v n xs := by
  obtain ⟨h1, h2⟩ := h
  refine ⟨h1, ?_⟩
  rcases h2 with h2 | ⟨g, cap, cur, r1, r2, r3, r4⟩
  · exact .inl h2
  · exact .inr ⟨g, cap, cur, r1, r2, (k.block g (Array.getElem?_eq_some_iff.1 r3).1 (hs g r2)).trans r3, r4⟩
theorem infoD : (Try.prog.info? 40).map (fun i => (i.zero, i.size, i.bytes)) = some (some (.agg #[.int .u64 0, .int .u64 0, .bool false]), 3, 24) := by kernel_rfl

theorem cell_new (w : World) (cs : Array Value) (t : TypeId) (j : Nat) : (w.alloc (.cells cs t)).cell? ⟨w.heap.size, j, none⟩ = cs[j]? := by
  unfold World.cell?
  rw [heap_alloc_new]
  rfl
theorem lay_lit (w : World) (g : G) (s : St) (L : BitVec 64) (wr' : Bool) (h : Held w g s) :
    Calls Try.prog 30 #[.pointer (some ⟨g.c, 0, none⟩), .int .u64 (U L), .bool wr'] w fun e w' =>
      e = .returned (.agg #[.int .u64 (U (layS s L wr').2.at_), .int .u64 (U (layS s L wr').2.out), .bool (layS s L wr').2.written]) ∧ Held w' g (layS s L wr').1 ∧ Kept g.own w w' := lay_any w g s L wr' h
theorem app_one {w4 : World} {base n : Nat} {v : Value} {xs : List Value} (ho : w4.ownsRow base 40 3 v n xs) (hb : base ≤ w4.heap.size) (hn : n < 8) (d : Dn) (ty : TypeId) :
    ∃ v' w', (Builtin.append_ #[34, 34] ty #[v, .slice (some ⟨w4.heap.size, 0, none⟩) 1 1]).run Try.prog (w4.alloc (.cells #[.int .u64 (U d.at_), .int .u64 (U d.out), .bool d.written] 40)) = .ok v' w' ∧
      w'.ownsRow base 40 3 v' (n + 1) (xs ++ (dnV d).toList) ∧ Kept (fun b => base ≤ b) w4 w' := by
  obtain ⟨i0, hi, hz0, hz1, hz2⟩ := info_parts infoD
  obtain ⟨v', w', hrun, ho', hg, -, -⟩ := run_append_own_at (P := Try.prog) (w4.alloc (.cells (dnV d) 40)) base 34 ty 40 i0 _ 3 24 Try.underlying34 hi hz0 hz1 hz2 rfl (by decide)
    v n xs (ho.alloc _) ⟨w4.heap.size, 0, none⟩ 1 1 (dnV d).toList rfl (fun j u hj => by
      rcases j with _ | _ | _ | j
      · simp [dnV] at hj; subst hj; simp only [Addr.add, Nat.zero_add]; exact cell_new _ _ _ _
      · simp [dnV] at hj; subst hj; simp only [Addr.add, Nat.zero_add]; exact cell_new _ _ _ _
      · simp [dnV] at hj; subst hj; simp only [Addr.add, Nat.zero_add]; exact cell_new _ _ _ _
      · simp [dnV] at hj) (fun u hu => by
      simp [dnV] at hu
      rcases hu with rfl | rfl | rfl <;> rfl) (by rw [maxLen_is]; omega) (by omega) (by simp; omega)
  exact ⟨v', w', hrun, ho', ((Kept.refl _ w4).alloc _).grown hg (fun p hp => .inl (World.ownsRow.lt ho p hp).1)⟩

theorem step_app {ops : Array Oper} {o : Oper} {a : Act} {w : World} {K : Act → World → Prop} {Q : Exit → Act → World → Prop} {E : Prop} (hgd : o.guard = none) (s x : Operand)
    (ho : o.op = .call { callee := .builtin .append, args := #[s, x], argTypes := #[34, 34] })
    {w4 : World} {base n : Nat} {v : Value} {xs : List Value} (how : w4.ownsRow base 40 3 v n xs) (hb : base ≤ w4.heap.size) (hn : n < 8) (d : Dn)
    (hw : w = w4.alloc (.cells #[.int .u64 (U d.at_), .int .u64 (U d.out), .bool d.written] 40)) (hs : a.eval s = v) (hx : a.eval x = .slice (some ⟨w4.heap.size, 0, none⟩) 1 1)
    (h : ∀ v' w', w'.ownsRow base 40 3 v' (n + 1) (xs ++ (dnV d).toList) → Kept (fun b => base ≤ b) w4 w' → K (a.put o.dst v') w') :
    if Region.wanted o (yielded ops a.tmps) = true then Oper.wp Try.prog o a w K Q else E := by
  have hwt : Region.wanted o (yielded ops a.tmps) = true := by simp [Region.wanted, hgd]
  rw [if_pos hwt]
  obtain ⟨v', w', hr, h2, h3⟩ := app_one how hb hn d o.type
  subst hw
  unfold Oper.wp execOp
  simp only [ho, resolve, invoke, builtin, Sem.run_bind, Sem.run_pure, Result.andThen_ok, List.map_toArray, List.map_cons, List.map_nil, hs, hx, hr]
  exact h v' w' h2 h3

set_option maxRecDepth 100000 in
set_option maxHeartbeats 4000000 in
theorem Tick_any (w : World) (g : G) (s : St) (h : Held w g s) (hf : Fr s) :
    Calls Try.prog 13 #[.pointer (some ⟨g.c, 0, none⟩)] w fun e w' =>
      ∃ v, e = .returned v ∧ w'.ownsRow w.heap.size 40 3 v (tickS s s.ns).2.length (dnCells (tickS s s.ns).2) ∧ Held w' g (tickS s s.ns).1 ∧ Kept g.own w w' := by
  obtain ⟨i0, hi, hz0, hz1, hz2⟩ := info_parts infoD
  have c6 := h.cf.c6
  go_enter Try.func13, Try.ntmps13
  go_wp2
  go_loopw [3, 11] (fun ov iv wr => ∃ k : Nat, k ≤ s.ns ∧ iv = .int .i64 k ∧ Held wr g (tickS s k).1 ∧ Kept g.own w wr ∧ wr.ownsRow w.heap.size 40 3 ov (tickS s k).2.length (dnCells (tickS s k).2)) (fun _ iv _ => s.ns - (intOf iv).toNat)
  case atStart => exact ⟨0, Nat.zero_le _, rfl, h, Kept.refl _ _, World.ownsRow_nil _ _ _ _⟩
  case round =>
    obtain ⟨k, hk, rfl, hh, hK, ho⟩ := hrel
    by_cases hlt : k < s.ns
    · have hn8 := h.ok.ns.2
      have hms := meas_succ2 hlt
      have hk1 : k + 1 ≤ s.ns := hlt
      have hb : 0 ≤ (k : Int) := by omega
      have hb2 : ((k : Nat) : Int) < (s.ns : Nat) := by omega
      have hst : tickS s (k + 1) = ((tick1 (tickS s k).1 k).1, (tickS s k).2 ++ (tick1 (tickS s k).1 k).2) := rfl
      have hsl := tick_sl s k k (Nat.le_refl _)
      have hns := tick_ns s k
      have hlen := tick_length s k
      generalize tickS s k = r at hh ho hst hsl hns hlen
      obtain ⟨st, ds⟩ := r
      simp only [] at hh ho hst hsl hns hlen
      have hkst : k < st.ns := by omega
      have c6 : wr.cell? ⟨g.c, 6, none⟩ = some (.slice (some ⟨g.s, 0, none⟩) s.ns g.ks) := by rw [← hns]; exact hh.cf.c6
      have e0 := hh.s.cell k 0 hkst (by decide)
      have e1 := hh.s.cell k 1 hkst (by decide)
      have e2 := hh.s.cell k 2 hkst (by decide)
      have e3 := hh.s.cell k 3 hkst (by decide)
      have e9 := hh.s.frozen
      simp only [slV, Nat.add_zero] at e0 e1 e2 e3
      cases i1 : (st.sl k).is with
      | false =>
        have ht : tick1 st k = (st, []) := by unfold tick1; rw [if_neg (by simp [i1])]
        rw [ht, List.append_nil] at hst
        have hst := hide hst
        rw [i1] at e1
        go_wp2
        go_roundw
        case rel => exact ⟨k + 1, hk1, by simp, by rw [hst.out]; exact hh, hK, by rw [hst.out]; exact ho⟩
        case measure => exact hms
      | true =>
        have hl1 : 1 ≤ (st.sl k).left := by rw [hsl]; exact hf k hlt (by rw [← hsl]; exact i1)
        have hl2 : (st.sl k).left ≤ 64 := Nat.le_trans (hh.ok.sl k hkst i1) hh.ok.delay.2
        obtain ⟨m, hm⟩ : ∃ m, (st.sl k).left = m + 1 := ⟨(st.sl k).left - 1, by omega⟩
        have hS := hh.setS (j := 3) (v := .int .i64 ((m : Nat) : Int)) hkst (by decide) { st.sl k with left := m } (fun j' hj => by
          rcases (by omega : j' = 0 ∨ j' = 1 ∨ j' = 2 ∨ j' = 3) with rfl | rfl | rfl | rfl <;> rfl) (ok_setSl hh.ok _ _ (fun e => by have := hh.ok.sl k hkst i1; show m ≤ st.delay; omega))
        have hKS : Kept g.own w (wr.setCell ⟨g.s, k * 4 + 3, none⟩ (.int .i64 ((m : Nat) : Int))) := hK.setCell _ _ (.inl (.inr (.inr (.inr rfl))))
        have hoS := Owns.kept ho (S := g.own) ((Kept.refl _ _).setCell ⟨g.s, k * 4 + 3, none⟩ (.int .i64 ((m : Nat) : Int)) (.inl (.inr (.inr (.inr rfl))))) (fun b hb hw => absurd (h.lt hw) (by omega))
        rw [hm, Int.natCast_add] at e3
        replace e3 : wr.cell? ⟨g.s, k * 4 + 3, none⟩ = some (.int .i64 ((m : Int) + 1)) := e3
        clear hsl
        rw [i1] at e1
        have hm64 : m < 64 := by omega
        have ht1 : tick1 st k = if m = 0 then (setSl (layS (setSl st k { st.sl k with left := m }) (st.sl k).line (st.sl k).write).1 k ⟨0#64, false, false, 0⟩, [(layS (setSl st k { st.sl k with left := m }) (st.sl k).line (st.sl k).write).2])
            else (setSl st k { st.sl k with left := m }, []) := by
          unfold tick1
          rw [if_pos i1, hm]
          by_cases e : m = 0
          · subst e; rfl
          · rw [if_neg (by omega), if_neg e]; rfl
        by_cases hm0 : m = 0
        · subst hm0
          rw [if_pos rfl] at ht1
          rw [ht1] at hst
          have hst := hide hst
          clear ht1 hm
          have hS : Held (wr.setCell ⟨g.s, k * 4 + 3, none⟩ (.int .i64 0)) g (setSl st k { st.sl k with left := 0 }) := hS
          have hKS : Kept g.own w (wr.setCell ⟨g.s, k * 4 + 3, none⟩ (.int .i64 0)) := hKS
          have hoS : (wr.setCell ⟨g.s, k * 4 + 3, none⟩ (.int .i64 0)).ownsRow w.heap.size 40 3 u3 ds.length (dnCells ds) := hoS
          have hst : Hid (tickS s (k + 1) = (setSl (layS (setSl st k { st.sl k with left := 0 }) (st.sl k).line (st.sl k).write).1 k ⟨0#64, false, false, 0⟩, ds ++ [(layS (setSl st k { st.sl k with left := 0 }) (st.sl k).line (st.sl k).write).2])) := hst
          replace e3 : wr.cell? ⟨g.s, k * 4 + 3, none⟩ = some (.int .i64 1) := e3
          have hk1s : k < (setSl st k { st.sl k with left := 0 }).ns := hkst
          have hq0 : Hid (((setSl st k { st.sl k with left := 0 }).sl k).line = (st.sl k).line ∧ ((setSl st k { st.sl k with left := 0 }).sl k).write = (st.sl k).write) := hide (by simp [setSl])
          go_wp2
          generalize wr.setCell ⟨g.s, k * 4 + 3, none⟩ (.int .i64 0) = w1 at hS hKS hoS ⊢
          generalize setSl st k { st.sl k with left := 0 } = st1 at hS hst hk1s hq0
          clear e0 e1 e2 e3 e9 c6 hh hK ho
          have e0 := hS.s.cell k 0 hk1s (by decide)
          have e2 := hS.s.cell k 2 hk1s (by decide)
          simp only [slV, Nat.add_zero] at e0 e2
          rw [hq0.out.1] at e0
          rw [hq0.out.2] at e2
          generalize (st.sl k).line = L at e0 hst ⊢
          generalize (st.sl k).write = wb at e2 hst ⊢
          have hbw : w.heap.size ≤ w1.heap.size := hKS.size
          have hlen8 : ds.length < 8 := by omega
          go_region_law (first
            | (refine step_app rfl _ _ rfl ho4 (Nat.le_trans hbw hK4.size) hlen8 _ rfl rfl rfl ?_; intro v5 w5 ho5 hK5)
            | (go_simp; go_at_call 30; refine (lay_lit _ g st1 L wb hS.drew).mono ?_; rintro e w4 ⟨rfl, hh4, hK4⟩; have ho4 := Owns.kept hoS (S := g.own) (Kept.trans (Kept.refl _ _).drew hK4) (fun b hb hw => absurd (h.lt hw) (Nat.not_lt.2 hb))))
          all_goals
            have hnl := lay_sl st1 L wb
            generalize layS st1 L wb = r4 at hh4 ho5 hst hnl
            obtain ⟨s4, d4⟩ := r4
            have hh5 : Held w5 g s4 := hh4.kept hK5 (fun b hb hw => absurd (h.lt hb) (Nat.not_lt.2 hw))
            have hk5 : k < s4.ns := by rw [hnl.2]; exact hk1s
            have hKw : Kept g.own w w5 := (hKS.drew.trans hK4).start (hK5.mono (fun k hk => .inr hk))
            clear e0 e2 hS hoS hK4 ho4 hK5 hh4 hq0
            have e0 := hh5.s.cell k 0 hk5 (by decide)
            have e1 := hh5.s.cell k 1 hk5 (by decide)
            have e2 := hh5.s.cell k 2 hk5 (by decide)
            have e3 := hh5.s.cell k 3 hk5 (by decide)
            have e9 := hh5.s.frozen
            simp only [slV, Nat.add_zero] at e0 e1 e2 e3
            have hfin := hh5.newS hk5 0#64 false false 0 (fun e => by cases e)
            have hKf := (((hKw.setCell ⟨g.s, k * 4, none⟩ (.int .u64 0) (.inl (.inr (.inr (.inr rfl))))).setCell ⟨g.s, k * 4 + 1, none⟩ (.bool false) (.inl (.inr (.inr (.inr rfl))))).setCell ⟨g.s, k * 4 + 2, none⟩ (.bool false) (.inl (.inr (.inr (.inr rfl))))).setCell ⟨g.s, k * 4 + 3, none⟩ (.int .i64 0) (.inl (.inr (.inr (.inr rfl))))
            have hof := Owns.kept ho5 (S := g.own) (((((Kept.refl _ w5).setCell ⟨g.s, k * 4, none⟩ (.int .u64 0) (.inl (.inr (.inr (.inr rfl))))).setCell ⟨g.s, k * 4 + 1, none⟩ (.bool false) (.inl (.inr (.inr (.inr rfl))))).setCell ⟨g.s, k * 4 + 2, none⟩ (.bool false) (.inl (.inr (.inr (.inr rfl))))).setCell ⟨g.s, k * 4 + 3, none⟩ (.int .i64 0) (.inl (.inr (.inr (.inr rfl))))) (fun b hb hw => absurd (h.lt hw) (Nat.not_lt.2 hb))
            have hfin : Held ((((w5.setCell ⟨g.s, k * 4, none⟩ (.int .u64 0)).setCell ⟨g.s, k * 4 + 1, none⟩ (.bool false)).setCell ⟨g.s, k * 4 + 2, none⟩ (.bool false)).setCell ⟨g.s, k * 4 + 3, none⟩ (.int .i64 0)) g (setSl s4 k ⟨0#64, false, false, 0⟩) := hfin
            have hlen1 : (ds ++ [d4]).length = ds.length + 1 := by simp
            have hdc : dnCells (ds ++ [d4]) = dnCells ds ++ (dnV d4).toList := by rw [dnCells_append]; simp [dnCells]
            have hlen1 := hide hlen1
            have hdc := hide hdc
            simp only [] at hst
            go_wp2
            go_roundw
            case rel => exact ⟨k + 1, hk1, by simp, by rw [hst.out]; exact hfin, hKf, by rw [hst.out, hlen1.out, hdc.out]; exact hof⟩
            case measure => exact hms
        · rw [if_neg hm0] at ht1
          rw [ht1, List.append_nil] at hst
          have hst := hide hst
          have hm1 : ¬ (m : Int) = 0 := by omega
          clear ht1 hm
          go_wp2
          go_roundw
          case rel => exact ⟨k + 1, hk1, by simp, by rw [hst.out]; exact hS, hKS, by rw [hst.out]; exact hoS⟩
          case measure => exact hms
    · obtain rfl : k = s.ns := by omega
      go_wp2
      go_ret
      exact ⟨_, rfl, ho, hh, hK⟩
end Go.Proofs.Ytpflodhnniochaa
