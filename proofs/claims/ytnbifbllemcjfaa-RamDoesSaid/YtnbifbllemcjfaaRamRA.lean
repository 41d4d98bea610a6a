/-
  The document's memory in the heap: New, put, Byte.
-/
import Derived.Test.YtnbifbllemcjfaaRamK
import Derived.BigRegion
namespace Go.Proofs.Ytnbifbllemcjfaa
set_option linter.unusedVariables false
open Go.RowKit Go.Maps

/-- A row of cells. -/
def RowAt (w : World) (b : Nat) (t : TypeId) (n : Nat) (V : Nat → Value) : Prop := ∃ cs, w.heap[b]? = some (.cells cs t (0, 0)) ∧ n ≤ cs.size ∧ ∀ i, i < n → cs[i]? = some (V i)
theorem RowAt.lt {w : World} {b : Nat} {t : TypeId} {n : Nat} {V : Nat → Value} (h : RowAt w b t n V) : b < w.heap.size := by
  obtain ⟨cs, h1, -⟩ := h
  exact (Array.getElem?_eq_some_iff.1 h1).1
theorem RowAt.cell {w : World} {b : Nat} {t : TypeId} {n : Nat} {V : Nat → Value} (h : RowAt w b t n V) {i : Nat} (hi : i < n) : w.cell? ⟨b, i, none⟩ = some (V i) := by
  obtain ⟨cs, h1, -, h2⟩ := h
  simp [World.cell?, h1, h2 i hi]
theorem RowAt.frozen {w : World} {b : Nat} {t : TypeId} {n : Nat} {V : Nat → Value} (h : RowAt w b t n V) (i : Nat) : w.frozen? ⟨b, i, none⟩ = false := by
  obtain ⟨cs, h1, -⟩ := h
  simp [World.frozen?, h1]
theorem RowAt.kept {w w' : World} {b : Nat} {t : TypeId} {n : Nat} {V : Nat → Value} (h : RowAt w b t n V) (e : w'.heap[b]? = w.heap[b]?) : RowAt w' b t n V := by
  obtain ⟨cs, h1, h2⟩ := h
  exact ⟨cs, e.trans h1, h2⟩
def updV (V : Nat → Value) (i : Nat) (v : Value) : Nat → Value := fun j => if j = i then v else V j
theorem updV_same (V : Nat → Value) (i : Nat) (v : Value) : updV V i v i = v := by simp [updV]
theorem updV_other (V : Nat → Value) {i j : Nat} (v : Value) (h : j ≠ i) : updV V i v j = V j := by simp [updV, h]
theorem RowAt.set {w : World} {b : Nat} {t : TypeId} {n : Nat} {V : Nat → Value} (h : RowAt w b t n V) (i : Nat) (v : Value) : RowAt (w.setCell ⟨b, i, none⟩ v) b t n (updV V i v) := by
  obtain ⟨cs, h1, h2, h3⟩ := h
  refine ⟨cs.setIfInBounds i v, heap_setCell_same w b i _ _ _ h1, by simpa using h2, fun j hj => ?_⟩
  rw [Array.getElem?_setIfInBounds]
  by_cases e : i = j
  · subst e
    rw [if_pos rfl, if_pos (by omega), updV_same]
  · rw [if_neg e, updV_other _ _ (fun e' => e e'.symm)]
    exact h3 j hj
theorem RowAt.ext {w : World} {b : Nat} {t : TypeId} {n : Nat} {V V' : Nat → Value} (h : RowAt w b t n V) (e : ∀ i, i < n → V i = V' i) : RowAt w b t n V' := by
  obtain ⟨cs, h1, h2, h3⟩ := h
  exact ⟨cs, h1, h2, fun i hi => by rw [← e i hi]; exact h3 i hi⟩
/-! Rows that are made, as one step. -/
theorem infoL : (Try.prog.info? 22).map (fun i => (i.zero, i.size, i.bytes)) = some (some (.slice none 0 0), 1, 24) := by kernel_rfl
theorem infoB : (Try.prog.info? 5).map (fun i => (i.zero, i.size, i.bytes)) = some (some (.int .u8 0), 1, 1) := by kernel_rfl
def mkL (v v' : Value) : Sem Value := Instr.makeSlice 50 v v'
def mkB (v v' : Value) : Sem Value := Instr.makeSlice 22 v v'
theorem mkL_eq (v v' : Value) : Instr.makeSlice 50 v v' = mkL v v' := rfl
theorem mkB_eq (v v' : Value) : Instr.makeSlice 22 v v' = mkB v v' := rfl
def zL : Array Value := madeCells #[.slice none 0 0] 256
def zB : Array Value := madeCells #[.int .u8 0] 4096
theorem run_mkL (w : World) : (mkL (.int .i64 256) (.int .i64 256)).run Try.prog w = .ok (.slice (some ⟨w.heap.size, 0, none⟩) 256 256) (w.alloc (.cells zL 22)) := by
  obtain ⟨i0, hi, hz0, hz1, hz2⟩ := info_parts infoL
  have h := run_make (P := Try.prog) w 50 22 i0 _ Try.underlying50 hi hz0 .i64 .i64 256 256 (by omega) (Int.le_refl _) (by rw [hz2]; omega) (by omega)
  rw [hz1] at h
  exact h
theorem run_mkB (w : World) : (mkB (.int .i64 4096) (.int .i64 4096)).run Try.prog w = .ok (.slice (some ⟨w.heap.size, 0, none⟩) 4096 4096) (w.alloc (.cells zB 5)) := by
  obtain ⟨i0, hi, hz0, hz1, hz2⟩ := info_parts infoB
  have h := run_make (P := Try.prog) w 22 5 i0 _ Try.underlying22 hi hz0 .i64 .i64 4096 4096 (by omega) (Int.le_refl _) (by rw [hz2]; omega) (by omega)
  rw [hz1] at h
  exact h
theorem made_one (z : Value) (n i : Nat) (hi : i < n) : (madeCells #[z] n)[i]? = some z := by
  rw [← Array.getElem?_toList, toList_madeCells_one, List.getElem?_replicate, if_pos hi]
theorem row_zL {w : World} {b : Nat} (h : w.heap[b]? = some (.cells zL 22 (0, 0))) : RowAt w b 22 256 fun _ => .slice none 0 0 :=
  ⟨_, h, by unfold zL; rw [size_madeCells]; exact Nat.le_refl _, fun i hi => made_one _ _ _ hi⟩
theorem row_zB {w : World} {b : Nat} (h : w.heap[b]? = some (.cells zB 5 (0, 0))) : RowAt w b 5 4096 fun _ => .int .u8 (U1 0#8) :=
  ⟨_, h, by unfold zB; rw [size_madeCells]; exact Nat.le_refl _, fun i hi => made_one _ _ _ hi⟩

/-- Where the document's memory lies; tab: what its pages' row holds. -/
structure GR where
  q : Nat
  p : Nat
  tab : Nat → Value
/-- A page's block. -/
def blk : Value → Option Nat
  | .slice (some a) (_ + 1) _ => some a.block
  | _ => none
def GR.own (g : GR) (b : Nat) : Prop := b = g.q ∨ b = g.p ∨ ∃ k, k < 256 ∧ blk (g.tab k) = some b
/-- The bytes of page k of the RAM. -/
def pgV (M : Nat → BitVec 8) (k : Nat) : Nat → Value := fun i => .int .u8 (U1 (M ((524288 + k) * 4096 + i)))
/-- What a page's slice is. -/
def PgR (w : World) (M : Nat → BitVec 8) (k : Nat) (v : Value) : Prop :=
  (∃ z c, v = .slice z 0 c ∧ ∀ i, i < 4096 → M ((524288 + k) * 4096 + i) = 0#8) ∨ ∃ b c, v = .slice (some ⟨b, 0, none⟩) 4096 c ∧ RowAt w b 5 4096 (pgV M k)
structure HeldR (w : World) (g : GR) (M : Nat → BitVec 8) : Prop where
  q : w.heap[g.q]? = some (.cells #[.slice (some ⟨g.p, 0, none⟩) 256 256] 52 (0, 0))
  p : RowAt w g.p 22 256 g.tab
  pg : ∀ k, k < 256 → PgR w M k (g.tab k)
  inj : ∀ k k' b, k < 256 → k' < 256 → blk (g.tab k) = some b → blk (g.tab k') = some b → k = k'
  qp : g.q ≠ g.p
  bq : ∀ k b, k < 256 → blk (g.tab k) = some b → b ≠ g.q ∧ b ≠ g.p
theorem PgR.block {w : World} {M : Nat → BitVec 8} {k : Nat} {v : Value} (h : PgR w M k v) {b : Nat} (hb : blk v = some b) : RowAt w b 5 4096 (pgV M k) := by
  rcases h with ⟨z, c, rfl, -⟩ | ⟨b', c, rfl, hr⟩
  · cases z <;> cases hb
  · cases hb; exact hr
theorem HeldR.lt {w : World} {g : GR} {M : Nat → BitVec 8} (h : HeldR w g M) {b : Nat} (hb : g.own b) : b < w.heap.size := by
  rcases hb with rfl | rfl | ⟨k, hk, e⟩
  · exact (Array.getElem?_eq_some_iff.1 h.q).1
  · exact h.p.lt
  · exact ((h.pg k hk).block e).lt
theorem PgR.kept {w w' : World} {M : Nat → BitVec 8} {k : Nat} {v : Value} (h : PgR w M k v) (e : ∀ b, blk v = some b → w'.heap[b]? = w.heap[b]?) : PgR w' M k v := by
  rcases h with h | ⟨b, c, rfl, hr⟩
  · exact .inl h
  · exact .inr ⟨b, c, rfl, hr.kept (e b rfl)⟩
theorem HeldR.kept {w w' : World} {g : GR} {M : Nat → BitVec 8} (h : HeldR w g M) {S : Nat → Prop} (k : Kept S w w') (hs : ∀ b, g.own b → ¬ S b) : HeldR w' g M := by
  have e : ∀ b, g.own b → w'.heap[b]? = w.heap[b]? := fun b hb => k.block b (h.lt hb) (hs b hb)
  exact ⟨(e _ (.inl rfl)).trans h.q, h.p.kept (e _ (.inr (.inl rfl))), fun j hj => (h.pg j hj).kept fun b hb => e b (.inr (.inr ⟨j, hj, hb⟩)), h.inj, h.qp, h.bq⟩
theorem HeldR.still {w w' : World} {g : GR} {M : Nat → BitVec 8} (h : HeldR w g M) (k : Still w w') : HeldR w' g M := h.kept k fun _ _ e => e
theorem HeldR.p0 {w : World} {g : GR} {M : Nat → BitVec 8} (h : HeldR w g M) : w.cell? ⟨g.q, 0, none⟩ = some (.slice (some ⟨g.p, 0, none⟩) 256 256) := cellsB h.q
/-! Addresses. -/
theorem toNat_U' (y : BitVec 64) : Int.toNat (U y) = y.toNat := by unfold U; exact Int.toNat_natCast _
theorem ref_addr {a : BitVec 64} (h : InP (a.toNat / 4096)) : ∃ k i : Nat, k < 256 ∧ i < 4096 ∧ a.toNat = (524288 + k) * 4096 + i ∧ Int.toNat (U ((a - 2147483648#64) / 4096#64)) = k ∧ Int.toNat (U ((a - 2147483648#64) % 4096#64)) = i ∧ U ((a - 2147483648#64) / 4096#64) < 256 ∧ U ((a - 2147483648#64) % 4096#64) < 4096 := by
  unfold InP at h
  have e1 : (2147483648#64).toNat = 2147483648 := by decide
  have e2 : (4096#64).toNat = 4096 := by decide
  have e : (a - 2147483648#64).toNat = a.toNat - 2147483648 := by
    rw [BitVec.toNat_sub, e1]
    have := a.isLt
    omega
  have f1 : ((a - 2147483648#64) / 4096#64).toNat = (a.toNat - 2147483648) / 4096 := by rw [BitVec.toNat_udiv, e, e2]
  have f2 : ((a - 2147483648#64) % 4096#64).toNat = (a.toNat - 2147483648) % 4096 := by rw [BitVec.toNat_umod, e, e2]
  refine ⟨(a.toNat - 2147483648) / 4096, (a.toNat - 2147483648) % 4096, by omega, by omega, by omega, by rw [toNat_U', f1], by rw [toNat_U', f2], ?_, ?_⟩
  · unfold U; omega
  · unfold U; omega
attribute [local go_sem ↓] mkL_eq mkB_eq run_mkL run_mkB
theorem RNew_any (w : World) : Calls Try.prog 9 #[] w fun e w' => ∃ g : GR, e = .returned (.pointer (some ⟨g.q, 0, none⟩)) ∧ HeldR w' g (fun _ => 0#8) ∧ Still w w' ∧ ∀ b, g.own b → w.heap.size ≤ b := by
  go_enter Try.func9, Try.ntmps9
  go_wp2_with fail
  go_ret
  refine ⟨⟨w.heap.size + 1, w.heap.size, fun _ => .slice none 0 0⟩, rfl, ⟨?_, row_zL ?_, fun k hk => .inl ⟨none, 0, rfl, fun _ _ => rfl⟩, fun k k' b hk hk' e => (by cases e), Nat.succ_ne_self _, fun k b hk e => (by cases e)⟩, ((Kept.refl _ w).alloc _).alloc _, ?_⟩
  · have := heap_alloc_new (w.alloc (.cells zL 22)) (.cells #[.slice (some ⟨w.heap.size, 0, none⟩) 256 256] 52)
    rw [World.size_alloc] at this
    exact this
  · rw [Below.heap_alloc _ _ _ (by simp)]
    exact heap_alloc_new _ _
  · rintro b (rfl | rfl | ⟨k, hk, e⟩)
    · exact Nat.le_succ _
    · exact Nat.le_refl _
    · cases e
set_option maxRecDepth 20000 in
theorem Byte_any (w : World) (g : GR) (M : Nat → BitVec 8) (h : HeldR w g M) (a : BitVec 64) (ha : InP (a.toNat / 4096)) :
    Calls Try.prog 28 #[.pointer (some ⟨g.q, 0, none⟩), .int .u64 (U a)] w fun e w' => e = .returned (.int .u8 (U1 (M a.toNat))) ∧ w' = w := by
  obtain ⟨k, i, hk, hi, haa, hU, hR, hU1, hR1⟩ := ref_addr ha
  have p0 := h.p0
  have pk := h.p.cell hk
  have hg := h.pg k hk
  rw [haa]
  rw [← hU] at pk
  have hU0 := U_lo ((a - 2147483648#64) / 4096#64)
  have hR0 := U_lo ((a - 2147483648#64) % 4096#64)
  replace h := hide h
  replace haa := hide haa
  replace hU := hide hU
  rcases hg with ⟨z, c, hv, hz⟩ | ⟨b, c, hv, hr⟩
  · rw [hU.out, hv] at pk
    rw [← hU.out] at pk
    rw [hz i hi]
    clear hz hR hv
    go_enter Try.func28, Try.ntmps28
    go_wp2_with fail
    go_ret
    exact ⟨rfl, rfl⟩
  · rw [hU.out, hv] at pk
    rw [← hU.out] at pk
    have hc := hr.cell hi
    unfold pgV at hc
    rw [← hR] at hc
    rw [← hR]
    clear hR hv hr
    go_enter Try.func28, Try.ntmps28
    go_wp2_with fail
    go_ret
    exact ⟨rfl, rfl⟩
theorem pgV_upd (M : Nat → BitVec 8) (k i : Nat) (hi : i < 4096) (x : BitVec 8) : updV (pgV M k) i (.int .u8 (U1 x)) = pgV (updB M ((524288 + k) * 4096 + i) x) k := by
  funext j
  unfold updV pgV updB
  by_cases e : j = i
  · rw [if_pos e, if_pos (by omega)]
  · rw [if_neg e, if_neg (by omega)]
theorem pgV_other (M : Nat → BitVec 8) (k k' i j : Nat) (hi : i < 4096) (hj : j < 4096) (x : BitVec 8) (h : k' ≠ k) : pgV M k' j = pgV (updB M ((524288 + k) * 4096 + i) x) k' j := by
  unfold pgV updB
  rw [if_neg (by omega)]
theorem PgR.other {w : World} {M : Nat → BitVec 8} {k k' i : Nat} {v : Value} (hi : i < 4096) (x : BitVec 8) (hk : k' ≠ k) (h : PgR w M k' v) : PgR w (updB M ((524288 + k) * 4096 + i) x) k' v := by
  rcases h with ⟨z, c, hv, hz⟩ | ⟨b, c, hv, hr⟩
  · refine .inl ⟨z, c, hv, fun j hj => ?_⟩
    unfold updB
    rw [if_neg (by omega)]
    exact hz j hj
  · exact .inr ⟨b, c, hv, hr.ext fun j hj => pgV_other M k k' i j hi hj x hk⟩
theorem HeldR.set {w : World} {g : GR} {M : Nat → BitVec 8} (h : HeldR w g M) {k b c : Nat} (hk : k < 256) (hb : g.tab k = .slice (some ⟨b, 0, none⟩) 4096 c) {i : Nat} (hi : i < 4096) (x : BitVec 8) : HeldR (w.setCell ⟨b, i, none⟩ (.int .u8 (U1 x))) g (updB M ((524288 + k) * 4096 + i) x) := by
  have hbk : blk (g.tab k) = some b := by rw [hb]; rfl
  have hne := h.bq k b hk hbk
  refine ⟨(Below.heap_setCell _ _ _ _ hne.1.symm).trans h.q, h.p.kept (Below.heap_setCell _ _ _ _ hne.2.symm), fun j hj => ?_, h.inj, h.qp, h.bq⟩
  by_cases e : j = k
  · subst e
    rcases h.pg j hj with ⟨z, c', hv, -⟩ | ⟨b', c', hv, hr⟩
    · rw [hb] at hv; cases hv
    · rw [hb] at hv
      cases hv
      refine .inr ⟨b, c, hb, ?_⟩
      rw [← pgV_upd M j i hi x]
      exact hr.set i _
  · refine PgR.other hi x e ((h.pg j hj).kept fun b' hb' => Below.heap_setCell _ _ _ _ fun e' => e ?_)
    subst e'
    exact h.inj _ _ _ hj hk hb' hbk
theorem HeldR.grow {w w2 : World} {g : GR} {M : Nat → BitVec 8} (h : HeldR w g M) {k : Nat} (hk : k < 256) (hz : ∀ i, i < 4096 → M ((524288 + k) * 4096 + i) = 0#8)
    (e1 : ∀ b, b < w.heap.size → b ≠ g.p → w2.heap[b]? = w.heap[b]?) (e2 : w2.heap[w.heap.size]? = some (.cells zB 5 (0, 0))) (e3 : RowAt w2 g.p 22 256 (updV g.tab k (.slice (some ⟨w.heap.size, 0, none⟩) 4096 4096))) :
    HeldR w2 { g with tab := updV g.tab k (.slice (some ⟨w.heap.size, 0, none⟩) 4096 4096) } M := by
  have hp := h.p.lt
  have hqs : g.q < w.heap.size := h.lt (.inl rfl)
  have hold : ∀ j b, j < 256 → blk (g.tab j) = some b → b < w.heap.size := fun j b hj e => h.lt (.inr (.inr ⟨j, hj, e⟩))
  refine ⟨(e1 _ hqs h.qp).trans h.q, e3, fun j hj => ?_, fun j j' b hj hj' e e' => ?_, h.qp, fun j b hj e => ?_⟩
  · dsimp only
    by_cases e : j = k
    · subst e
      rw [updV_same]
      refine .inr ⟨_, _, rfl, (row_zB e2).ext fun i hi => ?_⟩
      unfold pgV
      rw [hz i hi]
    · rw [updV_other _ _ e]
      exact (h.pg j hj).kept fun b hb' => e1 b (hold j b hj hb') (h.bq j b hj hb').2
  · dsimp only at e e'
    by_cases h1 : j = k
    · by_cases h2 : j' = k
      · rw [h1, h2]
      · subst h1
        rw [updV_same] at e
        cases e
        rw [updV_other _ _ h2] at e'
        exact absurd (hold _ _ hj' e') (Nat.lt_irrefl _)
    · rw [updV_other _ _ h1] at e
      by_cases h2 : j' = k
      · subst h2
        rw [updV_same] at e'
        cases e'
        exact absurd (hold _ _ hj e) (Nat.lt_irrefl _)
      · rw [updV_other _ _ h2] at e'
        exact h.inj _ _ _ hj hj' e e'
  · dsimp only at e
    by_cases h1 : j = k
    · subst h1
      rw [updV_same] at e
      cases e
      exact ⟨fun e' => by have e2 : w.heap.size = g.q := e'; omega, fun e' => by have e2 : w.heap.size = g.p := e'; omega⟩
    · rw [updV_other _ _ h1] at e
      exact h.bq j b hj e
set_option maxRecDepth 20000 in
theorem RPut_any (w : World) (g : GR) (M : Nat → BitVec 8) (h : HeldR w g M) (a : BitVec 64) (ha : InP (a.toNat / 4096)) (x : BitVec 8) :
    Calls Try.prog 26 #[.pointer (some ⟨g.q, 0, none⟩), .int .u64 (U a), .int .u8 (U1 x)] w fun e w' => e = .returned (.tuple #[]) ∧ ∃ tab', HeldR w' ⟨g.q, g.p, tab'⟩ (updB M a.toNat x) ∧ Kept g.own w w' ∧ ∀ b, (GR.mk g.q g.p tab').own b → g.own b ∨ w.heap.size ≤ b := by
  obtain ⟨k, i, hk, hi, haa, hU, hR, hU1, hR1⟩ := ref_addr ha
  have p0 := h.p0
  have pk := h.p.cell hk
  have hg := h.pg k hk
  rw [haa]
  rw [← hU] at pk
  have hU0 := U_lo ((a - 2147483648#64) / 4096#64)
  have hR0 := U_lo ((a - 2147483648#64) % 4096#64)
  have hqs : g.q < w.heap.size := h.lt (.inl rfl)
  have hps : g.p < w.heap.size := h.p.lt
  have fp := h.p.frozen
  replace haa := hide haa
  replace hU := hide hU
  rcases hg with ⟨z, c, hv, hz⟩ | ⟨b, c, hv, hr⟩
  · have hk' : Int.toNat (U ((a - 2147483648#64) / 4096#64)) < 256 := by rw [hU.out]; exact hk
    have X1 := (h.p.set (Int.toNat (U ((a - 2147483648#64) / 4096#64))) (.slice (some ⟨w.heap.size, 0, none⟩) 4096 4096)).kept (w' := ((w.setCell ⟨g.p, Int.toNat (U ((a - 2147483648#64) / 4096#64)), none⟩ (.slice (some ⟨w.heap.size, 0, none⟩) 4096 4096)).alloc (.cells zB 5)).drew) (by
      show ((w.setCell ⟨g.p, Int.toNat (U ((a - 2147483648#64) / 4096#64)), none⟩ (.slice (some ⟨w.heap.size, 0, none⟩) 4096 4096)).alloc (.cells zB 5)).heap[g.p]? = _
      exact Below.heap_alloc _ _ _ (by simp [World.setCell]; exact hps))
    have X2 : ((w.setCell ⟨g.p, Int.toNat (U ((a - 2147483648#64) / 4096#64)), none⟩ (.slice (some ⟨w.heap.size, 0, none⟩) 4096 4096)).alloc (.cells zB 5)).drew.heap[w.heap.size]? = some (.cells zB 5 (0, 0)) := by
      have := heap_alloc_new (w.setCell ⟨g.p, Int.toNat (U ((a - 2147483648#64) / 4096#64)), none⟩ (.slice (some ⟨w.heap.size, 0, none⟩) 4096 4096)) (.cells zB 5)
      have e : (w.setCell ⟨g.p, Int.toNat (U ((a - 2147483648#64) / 4096#64)), none⟩ (.slice (some ⟨w.heap.size, 0, none⟩) 4096 4096)).heap.size = w.heap.size := by simp [World.setCell]
      rw [e] at this
      exact this
    have X3 : ∀ b, b < w.heap.size → b ≠ g.p → ((w.setCell ⟨g.p, Int.toNat (U ((a - 2147483648#64) / 4096#64)), none⟩ (.slice (some ⟨w.heap.size, 0, none⟩) 4096 4096)).alloc (.cells zB 5)).drew.heap[b]? = w.heap[b]? := fun b hb hne => by
      show ((w.setCell ⟨g.p, Int.toNat (U ((a - 2147483648#64) / 4096#64)), none⟩ (.slice (some ⟨w.heap.size, 0, none⟩) 4096 4096)).alloc (.cells zB 5)).heap[b]? = _
      rw [Below.heap_alloc _ _ _ (by simp [World.setCell]; exact hb)]
      exact Below.heap_setCell _ _ _ _ hne
    have K1 : Kept g.own w ((w.setCell ⟨g.p, Int.toNat (U ((a - 2147483648#64) / 4096#64)), none⟩ (.slice (some ⟨w.heap.size, 0, none⟩) 4096 4096)).alloc (.cells zB 5)).drew := (((Kept.refl _ w).setCell _ _ (.inl (.inr (.inl rfl)))).alloc _).drew
    have H := h.grow (k := Int.toNat (U ((a - 2147483648#64) / 4096#64))) hk' (by rw [hU.out]; exact hz) X3 X2 X1
    have H2 := H.set (c := 4096) hk' (by dsimp only; rw [updV_same]) hi x
    have P1 := H.p.cell hk'
    have P2 := H.p0
    have P3 := (row_zB X2).cell hi
    have P4 := (row_zB X2).frozen i
    dsimp only at P1 P2
    rw [updV_same] at P1
    rw [hU.out, hv] at pk
    rw [← hU.out] at pk
    rw [← hR] at H2 P3 P4
    have hR' := hide hR
    rw [← hR]
    clear hR
    replace H := hide H
    replace H2 := hide H2
    replace h := hide h
    clear hz hv X1 X2 X3
    go_enter Try.func26, Try.ntmps26
    go_wp2_with fail
    go_region
    generalize ((w.setCell ⟨g.p, Int.toNat (U ((a - 2147483648#64) / 4096#64)), none⟩ (.slice (some ⟨w.heap.size, 0, none⟩) 4096 4096)).alloc (.cells zB 5)).drew = w2 at *
    go_wp2_with fail
    have H3 := H2.out
    rw [hU.out] at H3
    refine bodyPost_end (results_none rfl _ _ _) rfl ⟨rfl, _, H3, K1.setCell _ _ (.inr (Nat.le_refl _)), ?_⟩
    rintro b (rfl | rfl | ⟨j, hj, e⟩)
    · exact .inl (.inl rfl)
    · exact .inl (.inr (.inl rfl))
    · dsimp only at e
      by_cases hjk : j = k
      · subst hjk
        rw [updV_same] at e
        cases e
        exact .inr (Nat.le_refl _)
      · rw [updV_other _ _ hjk] at e
        exact .inl (.inr (.inr ⟨j, hj, e⟩))
  · have H := h.set hk hv hi x
    rw [hU.out, hv] at pk
    rw [← hU.out] at pk
    have hc := hr.cell hi
    have hf := hr.frozen i
    have hbk : blk (g.tab k) = some b := by rw [hv]; rfl
    unfold pgV at hc
    rw [← hR] at hc hf H
    rw [← hR]
    replace hR := hide hR
    replace H := hide H
    replace h := hide h
    clear hv hr
    go_enter Try.func26, Try.ntmps26
    go_wp2_with fail
    exact bodyPost_end (results_none rfl _ _ _) rfl ⟨rfl, g.tab, H.out, (Kept.refl _ _).setCell _ _ (.inl (.inr (.inr ⟨k, hk, hbk⟩))), fun b hb => .inl hb⟩
end Go.Proofs.Ytnbifbllemcjfaa
