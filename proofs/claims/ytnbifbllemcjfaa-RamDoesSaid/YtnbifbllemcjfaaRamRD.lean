/-
  The document's memory in the heap: Copy.
-/
import Derived.Test.YtnbifbllemcjfaaRamRC
import Derived.Deep.RegionLaw
namespace Go.Proofs.Ytnbifbllemcjfaa
set_option linter.unusedVariables false
open Go.RowKit Go.Maps

theorem PgR.ext {w : World} {M N : Nat → BitVec 8} {k : Nat} {v : Value} (h : PgR w M k v) (e : ∀ i, i < 4096 → M ((524288 + k) * 4096 + i) = N ((524288 + k) * 4096 + i)) : PgR w N k v := by
  rcases h with ⟨z, c, hv, hz⟩ | ⟨b, c, hv, hr⟩
  · exact .inl ⟨z, c, hv, fun i hi => by rw [← e i hi]; exact hz i hi⟩
  · exact .inr ⟨b, c, hv, hr.ext fun i hi => by unfold pgV; rw [e i hi]⟩
theorem HeldR.ext {w : World} {g : GR} {M N : Nat → BitVec 8} (h : HeldR w g M) (e : ∀ k i, k < 256 → i < 4096 → M ((524288 + k) * 4096 + i) = N ((524288 + k) * 4096 + i)) : HeldR w g N :=
  ⟨h.q, h.p, fun k hk => (h.pg k hk).ext fun i hi => e k i hk hi, h.inj, h.qp, h.bq⟩
/-- A page is put in its place. -/
theorem HeldR.lay {w w2 : World} {g : GR} {M N : Nat → BitVec 8} (h : HeldR w g M) {k : Nat} (hk : k < 256) {v : Value} (hv : PgR w2 N k v) (e1 : ∀ b, g.own b → b ≠ g.p → w2.heap[b]? = w.heap[b]?)
    (e3 : RowAt w2 g.p 22 256 (updV g.tab k v)) (hN : ∀ j i, j < 256 → j ≠ k → i < 4096 → M ((524288 + j) * 4096 + i) = N ((524288 + j) * 4096 + i)) (hnew : ∀ b, blk v = some b → ¬ g.own b) : HeldR w2 { g with tab := updV g.tab k v } N := by
  refine ⟨(e1 _ (.inl rfl) h.qp).trans h.q, e3, fun j hj => ?_, fun j j' b hj hj' e e' => ?_, h.qp, fun j b hj e => ?_⟩
  · dsimp only
    by_cases e : j = k
    · subst e; rw [updV_same]; exact hv
    · rw [updV_other _ _ e]
      exact ((h.pg j hj).kept fun b hb => e1 b (.inr (.inr ⟨j, hj, hb⟩)) (h.bq j b hj hb).2).ext fun i hi => hN j i hj e hi
  · dsimp only at e e'
    by_cases h1 : j = k
    · by_cases h2 : j' = k
      · rw [h1, h2]
      · subst h1
        rw [updV_same] at e
        rw [updV_other _ _ h2] at e'
        exact absurd (.inr (.inr ⟨j', hj', e'⟩)) (hnew b e)
    · rw [updV_other _ _ h1] at e
      by_cases h2 : j' = k
      · subst h2
        rw [updV_same] at e'
        exact absurd (.inr (.inr ⟨j, hj, e⟩)) (hnew b e')
      · rw [updV_other _ _ h2] at e'
        exact h.inj _ _ _ hj hj' e e'
  · dsimp only at e ⊢
    by_cases h1 : j = k
    · subst h1
      rw [updV_same] at e
      exact ⟨fun e' => hnew b e (.inl e'), fun e' => hnew b e (.inr (.inl e'))⟩
    · rw [updV_other _ _ h1] at e
      exact h.bq j b hj e
/-- The first k pages. -/
def upM (M : Nat → BitVec 8) (k : Nat) : Nat → BitVec 8 := fun a => if a < (524288 + k) * 4096 then M a else 0#8
theorem upM_in (M : Nat → BitVec 8) {k j i : Nat} (hj : j < k) (hi : i < 4096) : upM M k ((524288 + j) * 4096 + i) = M ((524288 + j) * 4096 + i) := by
  unfold upM; rw [if_pos (by omega)]
theorem upM_out (M : Nat → BitVec 8) {k j i : Nat} (hj : k ≤ j) (hi : i < 4096) : upM M k ((524288 + j) * 4096 + i) = 0#8 := by
  unfold upM; rw [if_neg (by omega)]
/-- append of a page to an empty row. -/
theorem run_append_pg (w : World) (nb : Nat) (ty : TypeId) (v2 : Value) (M : Nat → BitVec 8) (k : Nat) (hnb : w.heap[nb]? = some (.cells #[] 5 (0, 0))) (h2 : PgR w M k v2) :
    ∃ v' w', (Builtin.append_ #[22, 22] ty #[.slice (some ⟨nb, 0, none⟩) 0 0, v2]).run Try.prog w = .ok v' w' ∧ PgR w' M k v' ∧ (∀ b, blk v' = some b → b = nb ∨ b = w.heap.size) ∧ Kept (fun b => b = nb) w w' ∧ ∃ z l c, v' = .slice z l c := by
  obtain ⟨i0, hi, hz0, hz1, hz2⟩ := info_parts infoB
  have hlt : nb < w.heap.size := (Array.getElem?_eq_some_iff.1 hnb).1
  have hown : w.ownsRow nb 5 1 (.slice (some ⟨nb, 0, none⟩) 0 0) 0 [] := ⟨rfl, .inr ⟨nb, 0, #[], rfl, Nat.le_refl _, hnb, Nat.le_refl _, Nat.zero_le _, rfl, rfl⟩⟩
  rcases h2 with ⟨z, c, rfl, hz⟩ | ⟨b, c, rfl, hr⟩
  · refine ⟨.slice (some ⟨nb, 0, none⟩) 0 0, w, ?_, .inl ⟨_, _, rfl, hz⟩, fun b e => (by cases e), Kept.refl _ _, _, _, _, rfl⟩
    cases z <;> simp [Builtin.append_, run_underlying Try.underlying22, sizeOf, typeInfo, hi, Builtin.lenOf, Builtin.firstCells, loadCells, loadCellsFrom, storeCells]
  · have hnews : ∀ j u, ((List.range 4096).map (pgV M k))[j]? = some u → w.cell? ((⟨b, 0, none⟩ : Addr).add j) = some u := fun j u hu => by
      rw [List.getElem?_map] at hu
      by_cases hj : j < 4096
      · rw [List.getElem?_range hj] at hu
        have hadd : (⟨b, 0, none⟩ : Addr).add j = ⟨b, j, none⟩ := by unfold Addr.add; split <;> simp_all
        rw [hadd, hr.cell hj]
        simpa using hu
      · rw [List.getElem?_eq_none (by simp; omega)] at hu; cases hu
    obtain ⟨v', w', hrun, ho, hg, -, hloc⟩ := run_append_own_at (P := Try.prog) w nb 22 ty 5 i0 (.int .u8 0) 1 1 Try.underlying22 hi hz0 hz1 hz2 rfl (by decide) _ 0 [] hown ⟨b, 0, none⟩ 4096 c ((List.range 4096).map (pgV M k)) (by simp) hnews (fun u hu => by obtain ⟨x, -, rfl⟩ := List.mem_map.1 hu; rfl) (by rw [maxLen_is]; omega) (by omega) (by omega)
    refine ⟨v', w', hrun, ?_, fun b' e => ?_, (Kept.refl _ w).grown hg (fun p hp => .inl (by cases hp; rfl)), ?_⟩
    · rcases ho.2 with ⟨-, h0⟩ | ⟨g', cap, cur, rfl, hb', hgg, h1, h2, h3, h4⟩
      · omega
      · refine .inr ⟨g', cap, rfl, cur, hgg, by omega, fun i hi => ?_⟩
        have h5 : (cur.toList.take (4096 * 1))[i]? = some (pgV M k i) := by
          rw [h4, List.nil_append, List.getElem?_map, List.getElem?_range hi]; rfl
        rw [List.getElem?_take_of_lt (by omega)] at h5
        rw [← Array.getElem?_toList]
        exact h5
    · rcases ho.2 with ⟨-, h0⟩ | ⟨g', cap, cur, rfl, r⟩
      · omega
      · have e1 : (Value.slice (some ⟨g', 0, none⟩) (0 + 4096) cap).ownBlock = some g' := rfl
        have e2 : b' = g' := by cases e; rfl
        rw [e1] at hloc
        rcases hloc with h | h
        · left; rw [e2]; exact Option.some.inj h
        · right; rw [e2]; exact Option.some.inj h
    · rcases ho.2 with ⟨rfl, -⟩ | ⟨g', cap, cur, rfl, r⟩
      · exact ⟨_, _, _, rfl⟩
      · exact ⟨_, _, _, rfl⟩
theorem step_pg {ops : Array Oper} {o : Oper} {a : Act} {w : World} {K : Act → World → Prop} {Q : Exit → Act → World → Prop} {E : Prop} (hgd : o.guard = none) (s x : Operand)
    (ho : o.op = .call { callee := .builtin .append, args := #[s, x], argTypes := #[22, 22] })
    {nb : Nat} {v2 : Value} {M : Nat → BitVec 8} {k : Nat} (hnb : w.heap[nb]? = some (.cells #[] 5 (0, 0))) (h2 : PgR w M k v2) (hs : a.eval s = .slice (some ⟨nb, 0, none⟩) 0 0) (hx : a.eval x = v2)
    (h : ∀ v' w', PgR w' M k v' → (∀ b, blk v' = some b → b = nb ∨ b = w.heap.size) → Kept (fun b => b = nb) w w' → (∃ z l c, v' = .slice z l c) → K (a.put o.dst v') w') :
    if Region.wanted o (yielded ops a.tmps) = true then Oper.wp Try.prog o a w K Q else E := by
  have hwt : Region.wanted o (yielded ops a.tmps) = true := by simp [Region.wanted, hgd]
  rw [if_pos hwt]
  obtain ⟨v', w', hr, r1, r2, r3, r4⟩ := run_append_pg w nb o.type v2 M k hnb h2
  unfold Oper.wp execOp
  simp only [ho, resolve, invoke, builtin, Sem.run_bind, Sem.run_pure, Result.andThen_ok, List.map_toArray, List.map_cons, List.map_nil, hs, hx, hr]
  exact h v' w' r1 r2 r3 r4
theorem RCopy_step {w wr w5 : World} {q p k : Nat} {tab : Nat → Value} {M : Nat → BitVec 8} {v5 : Value} (h3 : HeldR wr ⟨q, p, tab⟩ (upM M k)) (hlt : k < 256) (hst : Still w wr) (ho : ∀ b, (GR.mk q p tab).own b → w.heap.size ≤ b)
    (P5 : PgR w5 M k v5) (B5 : ∀ b, blk v5 = some b → b = wr.heap.size ∨ b = (wr.alloc (.cells #[] 5)).drew.heap.size) (K5 : Kept (fun b => b = wr.heap.size) (wr.alloc (.cells #[] 5)).drew w5) (y2 : RowAt w5 p 22 256 tab) :
    HeldR (w5.setCell ⟨p, k, none⟩ v5) ⟨q, p, updV tab k v5⟩ (upM M (k + 1)) ∧ Still w (w5.setCell ⟨p, k, none⟩ v5) ∧ ∀ b, (GR.mk q p (updV tab k v5)).own b → w.heap.size ≤ b := by
  have hp : p < wr.heap.size := h3.lt (.inr (.inl rfl))
  have hnew : ∀ b, blk v5 = some b → wr.heap.size ≤ b := fun b e => by
    rcases B5 b e with h | h
    · omega
    · have e2 : (wr.alloc (.cells #[] 5)).drew.heap.size = wr.heap.size + 1 := World.size_alloc _ _
      omega
  have Ka : Still wr (wr.alloc (.cells #[] 5)).drew := ((Kept.refl _ wr).alloc _).drew
  have K : Still wr w5 := Ka.start (K5.mono fun b e => .inr (by omega))
  have hwr : w.heap.size ≤ wr.heap.size := hst.size
  refine ⟨HeldR.lay h3 hlt ?_ (fun b hb hne => ?_) (y2.set k v5) (fun j i hj hne hi => ?_) (fun b e hb => ?_), ?_, ?_⟩
  · exact (P5.kept fun b e => Below.heap_setCell _ _ _ _ (by have := hnew b e; show b ≠ p; omega)).ext fun i hi => (upM_in M (Nat.lt_succ_self k) hi).symm
  · exact (Below.heap_setCell _ _ _ _ hne).trans (K.block b (h3.lt hb) fun e => e)
  · by_cases e : j < k
    · rw [upM_in M e hi, upM_in M (by omega) hi]
    · rw [upM_out M (by omega) hi, upM_out M (by omega) hi]
  · have := hnew b e
    have := h3.lt hb
    omega
  · exact (hst.trans K).setCell _ _ (.inr (ho p (.inr (.inl rfl))))
  · rintro b (rfl | rfl | ⟨j, hj, e⟩)
    · exact ho _ (.inl rfl)
    · exact ho _ (.inr (.inl rfl))
    · dsimp only at e
      by_cases h1 : j = k
      · subst h1
        rw [updV_same] at e
        have := hnew b e
        omega
      · rw [updV_other _ _ h1] at e
        exact ho b (.inr (.inr ⟨j, hj, e⟩))
set_option maxRecDepth 20000 in
set_option maxHeartbeats 4000000 in
theorem RCopy_any (w : World) (g : GR) (M : Nat → BitVec 8) (h : HeldR w g M) :
    Calls Try.prog 22 #[.pointer (some ⟨g.q, 0, none⟩)] w fun e w' => ∃ g' : GR, e = .returned (.pointer (some ⟨g'.q, 0, none⟩)) ∧ HeldR w' g' M ∧ Still w w' ∧ ∀ b, g'.own b → w.heap.size ≤ b := by
  go_enter Try.func22, Try.ntmps22
  go_wp2_with fail
  go_at_call 9
  refine (RNew_any w).mono ?_
  rintro e w1 ⟨⟨q, p, tab⟩, rfl, h1, k1, o1⟩
  go_wp2_with fail
  go_loopw [4] (fun iv wr => ∃ (k : Nat) (tab : Nat → Value), k ≤ 256 ∧ iv = .int .i64 k ∧ HeldR wr ⟨q, p, tab⟩ (upM M k) ∧ Still w wr ∧ ∀ b, (GR.mk q p tab).own b → w.heap.size ≤ b) (fun iv _ => 256 - (intOf iv).toNat)
  case atStart => exact ⟨0, tab, Nat.zero_le _, rfl, h1.ext fun k i hk hi => (upM_out M (Nat.zero_le _) hi).symm, k1, o1⟩
  case round =>
    clear h1 k1 o1 tab
    obtain ⟨k, tab, hk, rfl, h3, hst, ho⟩ := hrel
    by_cases hlt : k < 256
    · have hg := h.still hst
      have q0 := hg.p0
      have pk := hg.p.cell hlt
      have hpg := hg.pg k hlt
      have q3 := h3.p0
      have hk0 : 0 ≤ (k : Int) := by omega
      have hk1 : (k : Int) < 256 := by omega
      have hms := meas_k hlt
      have l1 : g.q < wr.heap.size := hg.lt (.inl rfl)
      have l2 : g.p < wr.heap.size := hg.lt (.inr (.inl rfl))
      have l3 : q < wr.heap.size := h3.lt (.inl rfl)
      have l4 : p < wr.heap.size := h3.lt (.inr (.inl rfl))
      dsimp only at q3
      have X1 : PgR (wr.alloc (.cells #[] 5)).drew M k (g.tab k) := hpg.kept fun b hb => Below.heap_alloc _ _ _ (hg.lt (.inr (.inr ⟨k, hlt, hb⟩)))
      have X2 : (wr.alloc (.cells #[] 5)).drew.heap[wr.heap.size]? = some (.cells #[] 5 (0, 0)) := heap_alloc_new _ _
      have X3 : ∀ w5, Kept (fun b => b = wr.heap.size) (wr.alloc (.cells #[] 5)).drew w5 → w5.cell? ⟨q, 0, none⟩ = some (.slice (some ⟨p, 0, none⟩) 256 256) ∧ RowAt w5 p 22 256 tab ∧ w5.cell? ⟨p, k, none⟩ = some (tab k) ∧ w5.frozen? ⟨p, k, none⟩ = false := fun w5 K5 => by
        have hr : RowAt w5 p 22 256 tab := h3.p.kept ((K5.block p (by show p < (wr.alloc _).heap.size; simp; omega) (by omega)).trans (Below.heap_alloc _ _ _ l4))
        refine ⟨K5.cell (cellsB ((Below.heap_alloc _ _ _ l3).trans h3.q)) (by omega), hr, hr.cell hlt, hr.frozen k⟩
      generalize g.tab k = tv at *
      replace X3 := hide X3
      replace h3 := hide h3
      replace hg := hide hg
      replace h := hide h
      replace ho := hide ho
      clear hpg
      go_wp2_with fail
      go_region_law (refine step_pg rfl _ _ rfl X2 X1 rfl rfl ?_; intro v5 w5 P5 B5 K5 hv5; obtain ⟨z5, n5, c5, rfl⟩ := hv5; obtain ⟨y1, y2, y3, y4⟩ := X3.out w5 K5)
      all_goals
        obtain ⟨H1, H2, H3⟩ := RCopy_step h3.out hlt hst ho.out P5 B5 K5 y2
        clear y1 y2 y3 y4 P5 B5 K5 X1 X2
        generalize w5.setCell ⟨p, k, none⟩ (.slice z5 n5 c5) = w6 at *
        go_wp2_with fail
        go_roundw
        case rel => exact ⟨k + 1, _, hlt, by simp, H1, H2, H3⟩
        case measure => exact hms
    · obtain rfl : k = 256 := by omega
      have q0 := (h.still hst).p0
      have hirr : ¬ ((256 : Nat) : Int) < 256 := by omega
      go_wp2_with fail
      go_ret
      exact ⟨⟨q, p, tab⟩, rfl, h3.ext fun j i hj hi => upM_in M hj hi, hst, ho⟩
end Go.Proofs.Ytnbifbllemcjfaa
