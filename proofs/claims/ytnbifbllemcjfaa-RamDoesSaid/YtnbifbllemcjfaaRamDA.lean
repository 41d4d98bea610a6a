/-
  Two memories of the program and two of the document, side by side.
-/
import Derived.Test.YtnbifbllemcjfaaRamRE
namespace Go.Proofs.Ytnbifbllemcjfaa
set_option linter.unusedVariables false
open Go.RowKit Go.Maps Go.WideShapes

structure MineR (w0 : World) (g : GR) (w : World) : Prop where
  still : Still w0 w
  mine : ∀ b, g.own b → w0.heap.size ≤ b
theorem MineR.step {w0 w w' : World} {g g' : GR} (h : MineR w0 g w) (k : Kept g.own w w') (ho : ∀ b, g'.own b → g.own b ∨ w.heap.size ≤ b) : MineR w0 g' w' :=
  ⟨h.still.start (k.mono fun b hb => .inr (h.mine b hb)), fun b hb => by
    rcases ho b hb with h1 | h1
    · exact h.mine b h1
    · exact Nat.le_trans h.still.size h1⟩
def ApartR (g g' : GR) : Prop := ∀ b, g.own b → ¬ g'.own b
/-- m and old; e: they are one. -/
structure PI (e : Bool) (W w : World) (g o : G) (M O : Nat → BitVec 8) : Prop where
  a : Held w g M
  b : Held w o O
  ma : ∀ b, g.own b → W.heap.size ≤ b
  mb : ∀ b, o.own b → W.heap.size ≤ b
  eq : e = true → g = o ∧ M = O
  ap : e = false → Apart g o
/-- r and was. -/
structure PR (e : Bool) (W w : World) (g o : GR) (M O : Nat → BitVec 8) : Prop where
  a : HeldR w g M
  b : HeldR w o O
  ma : ∀ b, g.own b → W.heap.size ≤ b
  mb : ∀ b, o.own b → W.heap.size ≤ b
  eq : e = true → g = o ∧ M = O
  ap : e = false → ApartR g o
theorem PI.kept {e : Bool} {W w w' : World} {g o : G} {M O : Nat → BitVec 8} (h : PI e W w g o M O) {S : Nat → Prop} (k : Kept S w w') (hs : ∀ b, g.own b ∨ o.own b → ¬ S b) : PI e W w' g o M O :=
  ⟨h.a.kept k fun b hb => hs b (.inl hb), h.b.kept k fun b hb => hs b (.inr hb), h.ma, h.mb, h.eq, h.ap⟩
theorem PR.kept {e : Bool} {W w w' : World} {g o : GR} {M O : Nat → BitVec 8} (h : PR e W w g o M O) {S : Nat → Prop} (k : Kept S w w') (hs : ∀ b, g.own b ∨ o.own b → ¬ S b) : PR e W w' g o M O :=
  ⟨h.a.kept k fun b hb => hs b (.inl hb), h.b.kept k fun b hb => hs b (.inr hb), h.ma, h.mb, h.eq, h.ap⟩
theorem PI.lt {e : Bool} {W w : World} {g o : G} {M O : Nat → BitVec 8} (h : PI e W w g o M O) {b : Nat} (hb : g.own b ∨ o.own b) : b < w.heap.size := hb.elim h.a.lt h.b.lt
theorem PR.lt {e : Bool} {W w : World} {g o : GR} {M O : Nat → BitVec 8} (h : PR e W w g o M O) {b : Nat} (hb : g.own b ∨ o.own b) : b < w.heap.size := hb.elim h.a.lt h.b.lt
theorem PI.wr {e : Bool} {W w w' : World} {g o : G} {M O M' : Nat → BitVec 8} {bl' : Nat → Option Nat} (h : PI e W w g o M O) (hW : W.heap.size ≤ w.heap.size) (h' : Held w' ⟨g.q, g.m, bl'⟩ M') (k : Kept g.own w w') (ho : ∀ b, (G.mk g.q g.m bl').own b → g.own b ∨ w.heap.size ≤ b) :
    PI e W w' ⟨g.q, g.m, bl'⟩ (bif e then ⟨g.q, g.m, bl'⟩ else o) M' (bif e then M' else O) := by
  have hm : ∀ b, (G.mk g.q g.m bl').own b → W.heap.size ≤ b := fun b hb => (ho b hb).elim (h.ma b) (Nat.le_trans hW)
  cases e
  · exact ⟨h', h.b.kept k fun b hb hg => h.ap rfl b hg hb, hm, h.mb, fun e => (by cases e), fun _ => Apart.grow (h.ap rfl) h.b ho⟩
  · exact ⟨h', h', hm, hm, fun _ => ⟨rfl, rfl⟩, fun e => (by cases e)⟩
theorem PI.q {e : Bool} {W w : World} {g o : G} {M O : Nat → BitVec 8} (h : PI e W w g o M O) (bl' : Nat → Option Nat) : (bif e then G.mk g.q g.m bl' else o).q = o.q := by
  cases e
  · rfl
  · obtain ⟨rfl, -⟩ := h.eq rfl; rfl
theorem PR.wr {e : Bool} {W w w' : World} {g o : GR} {M O M' : Nat → BitVec 8} {bl' : Nat → Value} (h : PR e W w g o M O) (hW : W.heap.size ≤ w.heap.size) (h' : HeldR w' ⟨g.q, g.p, bl'⟩ M') (k : Kept g.own w w') (ho : ∀ b, (GR.mk g.q g.p bl').own b → g.own b ∨ w.heap.size ≤ b) :
    PR e W w' ⟨g.q, g.p, bl'⟩ (bif e then ⟨g.q, g.p, bl'⟩ else o) M' (bif e then M' else O) := by
  have hm : ∀ b, (GR.mk g.q g.p bl').own b → W.heap.size ≤ b := fun b hb => (ho b hb).elim (h.ma b) (Nat.le_trans hW)
  cases e
  · exact ⟨h', h.b.kept k fun b hb hg => h.ap rfl b hg hb, hm, h.mb, fun e => (by cases e), fun _ b h1 h2 => by
      rcases ho b h1 with h3 | h3
      · exact h.ap rfl b h3 h2
      · have := h.b.lt h2; omega⟩
  · exact ⟨h', h', hm, hm, fun _ => ⟨rfl, rfl⟩, fun e => (by cases e)⟩
theorem PR.q {e : Bool} {W w : World} {g o : GR} {M O : Nat → BitVec 8} (h : PR e W w g o M O) (bl' : Nat → Value) : (bif e then GR.mk g.q g.p bl' else o).q = o.q := by
  cases e
  · rfl
  · obtain ⟨rfl, -⟩ := h.eq rfl; rfl
/-- All four. -/
structure Al (e f : Bool) (W w : World) (g o : G) (r s : GR) (M O N P : Nat → BitVec 8) : Prop where
  st : Still W w
  i : PI e W w g o M O
  j : PR f W w r s N P
  x : ∀ b, g.own b ∨ o.own b → ¬ (r.own b ∨ s.own b)
section
variable {e f : Bool} {W w w' : World} {g o : G} {r s : GR} {M O N P M' : Nat → BitVec 8}
theorem Al.kept (h : Al e f W w g o r s M O N P) {S : Nat → Prop} (k : Kept S w w') (hm : ∀ b, S b → W.heap.size ≤ b) (h1 : ∀ b, g.own b ∨ o.own b → ¬ S b) (h2 : ∀ b, r.own b ∨ s.own b → ¬ S b) : Al e f W w' g o r s M O N P :=
  ⟨h.st.start (k.mono fun b hb => .inr (hm b hb)), h.i.kept k h1, h.j.kept k h2, h.x⟩
theorem Al.on (h : Al e f W w g o r s M O N P) (k : Still w w') : Al e f W w' g o r s M O N P := h.kept k (fun _ e => e.elim) (fun _ _ e => e) fun _ _ e => e
theorem Al.wrI {bl' : Nat → Option Nat} (h : Al e f W w g o r s M O N P) (h' : Held w' ⟨g.q, g.m, bl'⟩ M') (k : Kept g.own w w') (ho : ∀ b, (G.mk g.q g.m bl').own b → g.own b ∨ w.heap.size ≤ b) :
    Al e f W w' ⟨g.q, g.m, bl'⟩ (bif e then ⟨g.q, g.m, bl'⟩ else o) r s M' (bif e then M' else O) N P := by
  refine ⟨h.st.start (k.mono fun b hb => .inr (h.i.ma b hb)), h.i.wr h.st.size h' k ho, h.j.kept k fun b hb hg => h.x b (.inl hg) hb, fun b hb hr => ?_⟩
  have hb' : (g.own b ∨ w.heap.size ≤ b) ∨ o.own b := by
    rcases hb with hb | hb
    · exact .inl (ho b hb)
    · cases e
      · exact .inr hb
      · exact .inl (ho b hb)
  rcases hb' with (hb' | hb') | hb'
  · exact h.x b (.inl hb') hr
  · have := h.j.lt hr; omega
  · exact h.x b (.inr hb') hr
theorem Al.wrR {bl' : Nat → Value} (h : Al e f W w g o r s M O N P) (h' : HeldR w' ⟨r.q, r.p, bl'⟩ M') (k : Kept r.own w w') (ho : ∀ b, (GR.mk r.q r.p bl').own b → r.own b ∨ w.heap.size ≤ b) :
    Al e f W w' g o ⟨r.q, r.p, bl'⟩ (bif f then ⟨r.q, r.p, bl'⟩ else s) M O M' (bif f then M' else P) := by
  refine ⟨h.st.start (k.mono fun b hb => .inr (h.j.ma b hb)), h.i.kept k fun b hb hg => h.x b hb (.inl hg), h.j.wr h.st.size h' k ho, fun b hb hr => ?_⟩
  have hr' : (r.own b ∨ w.heap.size ≤ b) ∨ s.own b := by
    rcases hr with hr | hr
    · exact .inl (ho b hr)
    · cases f
      · exact .inr hr
      · exact .inl (ho b hr)
  rcases hr' with (hr' | hr') | hr'
  · exact h.x b hb (.inl hr')
  · have := h.i.lt hb; omega
  · exact h.x b hb (.inr hr')
theorem Al.cpI {g2 : G} (h : Al e f W w g o r s M O N P) (h' : Held w' g2 M) (k : Still w w') (ho : ∀ b, g2.own b → w.heap.size ≤ b) : Al false f W w' g2 g r s M M N P := by
  refine ⟨h.st.trans k, ⟨h', h.i.a.still k, fun b hb => Nat.le_trans h.st.size (ho b hb), h.i.ma, fun e => (by cases e), fun _ b h1 h2 => ?_⟩, h.j.kept k fun _ _ e => e, fun b hb hr => ?_⟩
  · have := h.i.a.lt h2
    have := ho b h1
    omega
  · rcases hb with hb | hb
    · have := h.j.lt hr
      have := ho b hb
      omega
    · exact h.x b (.inl hb) hr
theorem Al.cpR {r2 : GR} (h : Al e f W w g o r s M O N P) (h' : HeldR w' r2 N) (k : Still w w') (ho : ∀ b, r2.own b → w.heap.size ≤ b) : Al e false W w' g o r2 r M O N N := by
  refine ⟨h.st.trans k, h.i.kept k fun _ _ e => e, ⟨h', h.j.a.still k, fun b hb => Nat.le_trans h.st.size (ho b hb), h.j.ma, fun e => (by cases e), fun _ b h1 h2 => ?_⟩, fun b hb hr => ?_⟩
  · have := h.j.a.lt h2
    have := ho b h1
    omega
  · rcases hr with hr | hr
    · have := h.i.lt hb
      have := ho b hr
      omega
    · exact h.x b hb (.inl hr)
theorem Al.swI (h : Al false f W w g o r s M O N P) : Al false f W w o g r s O M N P :=
  ⟨h.st, ⟨h.i.b, h.i.a, h.i.mb, h.i.ma, fun e => (by cases e), fun _ => (h.i.ap rfl).symm⟩, h.j, fun b hb => h.x b hb.symm⟩
theorem Al.swR (h : Al e false W w g o r s M O N P) : Al e false W w g o s r M O P N :=
  ⟨h.st, h.i, ⟨h.j.b, h.j.a, h.j.mb, h.j.ma, fun e => (by cases e), fun _ b h1 h2 => h.j.ap rfl b h2 h1⟩, fun b hb hr => h.x b hb hr.symm⟩
theorem Al.wrO {bl' : Nat → Option Nat} (h : Al false f W w g o r s M O N P) (h' : Held w' ⟨o.q, o.m, bl'⟩ M') (k : Kept o.own w w') (ho : ∀ b, (G.mk o.q o.m bl').own b → o.own b ∨ w.heap.size ≤ b) :
    Al false f W w' g ⟨o.q, o.m, bl'⟩ r s M M' N P := (h.swI.wrI h' k ho).swI
theorem Al.wrS {bl' : Nat → Value} (h : Al e false W w g o r s M O N P) (h' : HeldR w' ⟨s.q, s.p, bl'⟩ M') (k : Kept s.own w w') (ho : ∀ b, (GR.mk s.q s.p bl').own b → s.own b ∨ w.heap.size ≤ b) :
    Al e false W w' g o r ⟨s.q, s.p, bl'⟩ M O N M' := (h.swR.wrR h' k ho).swR
end
theorem Al.make {W w w1 w2 : World} {g : G} {r : GR} (st : Still W w) (h1 : Held w1 g (fun _ => 0#8)) (k1 : Still w w1) (o1 : ∀ b, g.own b → w.heap.size ≤ b) (h2 : HeldR w2 r (fun _ => 0#8)) (k2 : Still w1 w2) (o2 : ∀ b, r.own b → w1.heap.size ≤ b) :
    Al true true W w2 g g r r (fun _ => 0#8) (fun _ => 0#8) (fun _ => 0#8) (fun _ => 0#8) := by
  have mg : ∀ b, g.own b → W.heap.size ≤ b := fun b hb => Nat.le_trans st.size (o1 b hb)
  have mr : ∀ b, r.own b → W.heap.size ≤ b := fun b hb => Nat.le_trans (Nat.le_trans st.size k1.size) (o2 b hb)
  refine ⟨(st.trans k1).trans k2, ⟨h1.still k2, h1.still k2, mg, mg, fun _ => ⟨rfl, rfl⟩, fun e => (by cases e)⟩, ⟨h2, h2, mr, mr, fun _ => ⟨rfl, rfl⟩, fun e => (by cases e)⟩, fun b hb hr => ?_⟩
  have hb' : g.own b := hb.elim id id
  have hr' : r.own b := hr.elim id id
  have := h1.lt hb'
  have := o2 b hr'
  omega
/-! The law's own copy of the image. -/
def OwnB (w : World) (v : Value) (n : Nat) (f : Nat → BitVec 8) (S : Nat → Prop) : Prop :=
  ∃ z c, v = .slice z n c ∧ n ≤ c ∧ c ≤ maxLen ∧ (0 < n → ∃ b, z = some ⟨b, 0, none⟩ ∧ S b ∧ RowAt w b 5 n (fun i => .int .u8 (U1 (f i))))
theorem OwnB.bys {w : World} {v : Value} {n : Nat} {f : Nat → BitVec 8} {S : Nat → Prop} (h : OwnB w v n f S) : Bys w v n f := by
  obtain ⟨z, c, hv, hn, hc, hr⟩ := h
  refine ⟨z, c, hv, hn, hc, fun h0 => ?_⟩
  obtain ⟨b, hz, -, hrow⟩ := hr h0
  refine ⟨⟨b, 0, none⟩, hz, hrow.lt, fun i hi => ?_⟩
  have hadd : (⟨b, 0, none⟩ : Addr).add i = ⟨b, i, none⟩ := by unfold Addr.add; split <;> simp_all
  rw [hadd]
  exact hrow.cell hi
theorem OwnB.kept {w w' : World} {v : Value} {n : Nat} {f : Nat → BitVec 8} {S T : Nat → Prop} (h : OwnB w v n f S) (k : Kept T w w') (hs : ∀ b, S b → ¬ T b) : OwnB w' v n f S := by
  obtain ⟨z, c, hv, hn, hc, hr⟩ := h
  refine ⟨z, c, hv, hn, hc, fun h0 => ?_⟩
  obtain ⟨b, hz, hS, hrow⟩ := hr h0
  exact ⟨b, hz, hS, hrow.kept (k.block b hrow.lt (hs b hS))⟩
theorem run_append_bytes (w : World) (nb : Nat) (ty : TypeId) (v2 : Value) (n : Nat) (f : Nat → BitVec 8) (hnb : w.heap[nb]? = some (.cells #[] 5 (0, 0))) (h2 : Bys w v2 n f) (hn : n ≤ 140737488351232) :
    ∃ v' w', (Builtin.append_ #[22, 22] ty #[.slice (some ⟨nb, 0, none⟩) 0 0, v2]).run Try.prog w = .ok v' w' ∧ OwnB w' v' n f (fun b => nb ≤ b) ∧ Kept (fun b => b = nb) w w' := by
  obtain ⟨i0, hi, hz0, hz1, hz2⟩ := info_parts infoB
  have hlt : nb < w.heap.size := (Array.getElem?_eq_some_iff.1 hnb).1
  have hown : w.ownsRow nb 5 1 (.slice (some ⟨nb, 0, none⟩) 0 0) 0 [] := ⟨rfl, .inr ⟨nb, 0, #[], rfl, Nat.le_refl _, hnb, Nat.le_refl _, Nat.zero_le _, rfl, rfl⟩⟩
  obtain ⟨z, c, rfl, hnc, hcm, hr⟩ := h2
  by_cases h0 : 0 < n
  · obtain ⟨rb, rfl, hb, hcl⟩ := hr h0
    have hnews : ∀ j u, ((List.range n).map fun i => Value.int .u8 (U1 (f i)))[j]? = some u → w.cell? (rb.add j) = some u := fun j u hu => by
      rw [List.getElem?_map] at hu
      by_cases hj : j < n
      · rw [List.getElem?_range hj] at hu
        rw [hcl j hj]
        simpa using hu
      · rw [List.getElem?_eq_none (by simp; omega)] at hu; cases hu
    obtain ⟨v', w', hrun, ho, hg, -, -⟩ := run_append_own_at (P := Try.prog) w nb 22 ty 5 i0 (.int .u8 0) 1 1 Try.underlying22 hi hz0 hz1 hz2 rfl (by decide) _ 0 [] hown rb n c ((List.range n).map fun i => Value.int .u8 (U1 (f i))) (by simp) hnews (fun u hu => by obtain ⟨x, -, rfl⟩ := List.mem_map.1 hu; rfl) (by rw [maxLen_is]; omega) (by omega) (by omega)
    refine ⟨v', w', hrun, ?_, (Kept.refl _ w).grown hg (fun p hp => .inl (by cases hp; rfl))⟩
    rw [Nat.zero_add, List.nil_append] at ho
    rcases ho.2 with ⟨-, h0'⟩ | ⟨g', cap, cur, rfl, hb', hgg, h1, h2, h3, h4⟩
    · omega
    · refine ⟨_, cap, rfl, h1, h2, fun _ => ⟨g', rfl, hb', cur, hgg, by omega, fun i hi => ?_⟩⟩
      have h5 : (cur.toList.take (n * 1))[i]? = some (Value.int .u8 (U1 (f i))) := by
        rw [h4, List.getElem?_map, List.getElem?_range hi]; rfl
      rw [List.getElem?_take_of_lt (by omega)] at h5
      rw [← Array.getElem?_toList]
      exact h5
  · obtain rfl : n = 0 := by omega
    refine ⟨.slice (some ⟨nb, 0, none⟩) 0 0, w, ?_, ⟨_, 0, rfl, Nat.le_refl _, Nat.zero_le _, fun h => absurd h (Nat.lt_irrefl _)⟩, Kept.refl _ _⟩
    cases z <;> simp [Builtin.append_, run_underlying Try.underlying22, sizeOf, typeInfo, hi, Builtin.lenOf, Builtin.firstCells, loadCells, loadCellsFrom, storeCells]
theorem wpList_append_bytes {ops : Array Oper} {rest : List Oper} {o : Oper} {a : Act} {w : World} {Q : Exit → Act → World → Prop} (hgd : o.guard = none) (s x : Operand)
    (ho : o.op = .call { callee := .builtin .append, args := #[s, x], argTypes := #[22, 22] })
    (nb : Nat) (v2 : Value) (n : Nat) (f : Nat → BitVec 8) (hs : a.eval s = .slice (some ⟨nb, 0, none⟩) 0 0) (hx : a.eval x = v2) (hnb : w.heap[nb]? = some (.cells #[] 5 (0, 0))) (h2 : Bys w v2 n f) (hn : n ≤ 140737488351232)
    (h : ∀ v' w', OwnB w' v' n f (fun b => nb ≤ b) → Kept (fun b => b = nb) w w' → wpList Try.prog ops Q rest (a.put o.dst v') w') :
    wpList Try.prog ops Q (o :: rest) a w := by
  refine wpList_plain hgd fun K hK => ?_
  obtain ⟨v', w', hr, r1, r2⟩ := run_append_bytes w nb o.type v2 n f hnb h2 hn
  unfold Oper.wp execOp
  simp only [ho, resolve, invoke, builtin, Sem.run_bind, Sem.run_pure, Result.andThen_ok, List.map_toArray, List.map_cons, List.map_nil, hs, hx, hr]
  exact hK _ _ (h v' w' r1 r2)
theorem conv_bys {w : World} {v : Value} {n : Nat} {f : Nat → BitVec 8} (h : Bys w v n f) : (convert 22 9 v).run Try.prog w = .ok (.string (str n f)) w := by
  obtain ⟨z, c, rfl, hnc, hcm, hr⟩ := h
  by_cases h0 : 0 < n
  · obtain ⟨rb, rfl, hb, hcl⟩ := hr h0
    exact conv_str w rb n c f hcl
  · obtain rfl : n = 0 := by omega
    have e : str 0 f = ByteArray.empty := by rw [str_def]; rfl
    rw [e]
    cases z with
    | none => exact run_convert_bytes_nil w 22 5 Try.underlying22 Try.underlying5 0 c 9 Try.underlying9
    | some a =>
      have := conv_str w a 0 c f (fun i hi => absurd hi (Nat.not_lt_zero _))
      rw [e] at this
      exact this
end Go.Proofs.Ytnbifbllemcjfaa
