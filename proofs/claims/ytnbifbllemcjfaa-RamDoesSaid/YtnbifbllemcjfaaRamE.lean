/-
  The memory in the heap: Lay; lists of numbers that are compared.
-/
import Derived.Test.YtnbifbllemcjfaaRamD
import Derived.Deep.AppendLies
import Derived.BigQuiet
namespace Go.Proofs.Ytnbifbllemcjfaa
set_option linter.unusedVariables false
open Go.RowKit Go.Maps

theorem addr_block (a : Addr) (i : Nat) : (a.add i).block = a.block := by unfold Addr.add; split <;> rfl
/-- A slice of n bytes. -/
def Bys (w : World) (v : Value) (n : Nat) (f : Nat → BitVec 8) : Prop :=
  ∃ z c, v = .slice z n c ∧ n ≤ c ∧ c ≤ maxLen ∧ (0 < n → ∃ rb : Addr, z = some rb ∧ rb.block < w.heap.size ∧ ∀ i, i < n → w.cell? (rb.add i) = some (.int .u8 (U1 (f i))))
theorem Bys.kept {w w' : World} {v : Value} {n : Nat} {f : Nat → BitVec 8} (h : Bys w v n f) {S : Nat → Prop} (k : Kept S w w') (hs : ∀ b, v.ownBlock = some b → ¬ S b) : Bys w' v n f := by
  obtain ⟨z, c, rfl, hn, hc, hr⟩ := h
  refine ⟨z, c, rfl, hn, hc, fun h0 => ?_⟩
  obtain ⟨rb, rfl, hb, hcl⟩ := hr h0
  have e := k.block rb.block hb (hs _ rfl)
  refine ⟨rb, rfl, Nat.lt_of_lt_of_le hb k.size, fun i hi => ?_⟩
  rw [← hcl i hi]
  unfold World.cell?
  rw [addr_block, e]
theorem Bys.still {w w' : World} {v : Value} {n : Nat} {f : Nat → BitVec 8} (h : Bys w v n f) (k : Still w w') : Bys w' v n f := h.kept k fun _ _ e => e
/-- The first k bytes of an image laid. -/
def layF (M : Nat → BitVec 8) (f : Nat → BitVec 8) : Nat → Nat → BitVec 8
  | 0 => M
  | k + 1 => updB (layF M f k) (2147483648 + k) (f k)
theorem layF_succ (M : Nat → BitVec 8) (f : Nat → BitVec 8) (k : Nat) : layF M f (k + 1) = updB (layF M f k) (2147483648 + k) (f k) := rfl
def layN (M : Nat → BitVec 8) (f : Nat → BitVec 8) (n : Nat) : Nat → BitVec 8 := if n ≤ 1048576 then layF M f n else M
theorem Lay_any (w : World) (g : G) (M : Nat → BitVec 8) (h : Held w g M) (v : Value) (n : Nat) (f : Nat → BitVec 8) (hv : Bys w v n f) (hap : 0 < n → ∀ b, v.ownBlock = some b → ¬ g.own b) :
    Calls Try.prog 10 #[.pointer (some ⟨g.q, 0, none⟩), v] w fun e w' => e = .returned (.bool (decide (n ≤ 1048576))) ∧ ∃ bl', Held w' ⟨g.q, g.m, bl'⟩ (layN M f n) ∧ Kept g.own w w' ∧ ∀ b, (G.mk g.q g.m bl').own b → g.own b ∨ w.heap.size ≤ b := by
  obtain ⟨z, c, rfl, hnc, hcm, hr⟩ := hv
  by_cases hn : n ≤ 1048576
  · have hl : layN M f n = layF M f n := by unfold layN; rw [if_pos hn]
    rw [hl, decide_eq_true hn]
    clear hl
    have hn1 : (n : Int) ≤ 1048576 := by omega
    go_enter Try.func10, Try.ntmps10
    go_wp2_with fail
    go_loopw [12] (fun iv wr => ∃ (j : Nat) (bl' : Nat → Option Nat), j ≤ n ∧ iv = .int .i64 j ∧ Held wr ⟨g.q, g.m, bl'⟩ (layF M f j) ∧ Kept g.own w wr ∧ ∀ b, (G.mk g.q g.m bl').own b → g.own b ∨ w.heap.size ≤ b) (fun iv _ => n - (intOf iv).toNat)
    case atStart => exact ⟨0, g.bl, Nat.zero_le _, rfl, h, Kept.refl _ _, fun b hb => .inl hb⟩
    case round =>
      obtain ⟨j, bl', hjN, rfl, hj, hk, ho⟩ := hrel
      by_cases hlt : j < n
      · obtain ⟨rb, rfl, hb, hcl⟩ := hr (by omega)
        have hc1 : wr.cell? (rb.add j) = some (.int .u8 (U1 (f j))) := by
          rw [← hcl j hlt]
          unfold World.cell?
          rw [addr_block, hk.block rb.block hb (hap (by omega) _ rfl)]
        have hadd : (2147483648#64 + BitVec.ofNat 64 j).toNat = 2147483648 + j := by
          rw [add_nat (by simp; omega)]; rfl
        have hP := put_any wr ⟨g.q, g.m, bl'⟩ _ hj (2147483648#64 + BitVec.ofNat 64 j) (by unfold InP; omega) (f j)
        rw [hadd, ← layF_succ] at hP
        have hj0 : (j : Int) < n := by omega
        have hjp : 0 ≤ (j : Int) := by omega
        replace h := hide h
        replace hj := hide hj
        replace hap := hide hap
        clear hadd hcl hr
        go_wp2_with fail
        go_at_call 25
        refine hP.mono ?_
        rintro e w2 ⟨rfl, bl2, h2, k2, o2⟩
        have hk2 : Kept g.own w w2 := hk.own ho k2
        have ho2 := own_trans ho o2 hk.size
        clear hk ho hP k2 o2 h
        have hms : n - (j + 1) < n - j := by omega
        go_wp2_with fail
        go_roundw
        case rel => exact ⟨j + 1, bl2, hlt, by simp, h2, hk2, ho2⟩
        case measure => 
          show n - ((j : Int) + 1).toNat < n - (j : Int).toNat
          exact hms
      · obtain rfl : j = n := by omega
        go_wp2_with fail
        go_ret
        exact ⟨rfl, bl', hj, hk, ho⟩
  · have hl : layN M f n = M := by unfold layN; rw [if_neg hn]
    rw [hl, decide_eq_false hn]
    have hn1 : (1048576 : Int) < n := by omega
    replace h := hide h
    go_enter Try.func10, Try.ntmps10
    go_wp2_with fail
    go_ret
    exact ⟨rfl, g.bl, h.out, Kept.refl _ _, fun b hb => .inl hb⟩

/-! Lists of numbers. -/
/-- A slice of numbers. -/
def Nums (w : World) (v : Value) (l : List Int) : Prop :=
  ∃ z c, v = .slice z l.length c ∧ l.length ≤ c ∧ c ≤ maxLen ∧ (0 < l.length → ∃ rb : Addr, z = some rb ∧ rb.block < w.heap.size ∧ ∀ i x, l[i]? = some x → w.cell? (rb.add i) = some (.int .u64 x))
theorem Nums.kept {w w' : World} {v : Value} {l : List Int} (h : Nums w v l) {S : Nat → Prop} (k : Kept S w w') (hs : ∀ b, v.ownBlock = some b → ¬ S b) : Nums w' v l := by
  obtain ⟨z, c, rfl, hn, hc, hr⟩ := h
  refine ⟨z, c, rfl, hn, hc, fun h0 => ?_⟩
  obtain ⟨rb, rfl, hb, hcl⟩ := hr h0
  have e := k.block rb.block hb (hs _ rfl)
  refine ⟨rb, rfl, Nat.lt_of_lt_of_le hb k.size, fun i x hi => ?_⟩
  rw [← hcl i x hi]
  unfold World.cell?
  rw [addr_block, e]
theorem Nums.still {w w' : World} {v : Value} {l : List Int} (h : Nums w v l) (k : Still w w') : Nums w' v l := h.kept k fun _ _ e => e
theorem owns_cells {w : World} {base n k : Nat} {T : TypeId} {v : Value} {xs : List Value} (h : w.ownsRow base T k v n xs) (hn : 0 < n) :
    ∃ b cap, v = .slice (some ⟨b, 0, none⟩) n cap ∧ base ≤ b ∧ b < w.heap.size ∧ n ≤ cap ∧ cap ≤ maxLen ∧ ∀ j u, xs[j]? = some u → w.cell? ⟨b, j, none⟩ = some u := by
  rcases h.2 with ⟨rfl, h0⟩ | ⟨g, cap, cur, rfl, hb, hgg, h1, h2, r⟩
  · omega
  · refine ⟨g, cap, rfl, hb, (Array.getElem?_eq_some_iff.1 hgg).1, h1, h2, fun j u hu => ?_⟩
    have := h.cells (g := g) rfl j u hu
    have hadd : (⟨g, 0, none⟩ : Addr).add j = ⟨g, j, none⟩ := by unfold Addr.add; split <;> simp_all
    rwa [hadd] at this
/-- A row of numbers of the call's own. -/
def NRow (w : World) (base : Nat) (v : Value) (l : List Int) : Prop := w.ownsRow base 30 1 v l.length (l.map (Value.int .u64))
theorem NRow.nums {w : World} {base : Nat} {v : Value} {l : List Int} (h : NRow w base v l) : Nums w v l := by
  by_cases hn : 0 < l.length
  · obtain ⟨b, cap, rfl, hb, hlt, h1, h2, hc⟩ := owns_cells h hn
    refine ⟨_, _, rfl, h1, h2, fun _ => ⟨⟨b, 0, none⟩, rfl, hlt, fun j x hj => ?_⟩⟩
    have hadd : (⟨b, 0, none⟩ : Addr).add j = ⟨b, j, none⟩ := by unfold Addr.add; split <;> simp_all
    rw [hadd]
    exact hc j _ (by rw [List.getElem?_map, hj]; rfl)
  · have h0 : l.length = 0 := by omega
    have h' := h
    unfold NRow at h'
    rcases h'.2 with ⟨rfl, _⟩ | ⟨g, cap, cur, rfl, hb, hgg, h1, h2, r⟩
    · exact ⟨none, 0, by rw [h0], by omega, Nat.zero_le _, fun e => absurd e hn⟩
    · exact ⟨_, cap, rfl, h1, h2, fun e => absurd e hn⟩
theorem NRow.lt {w : World} {base : Nat} {v : Value} {l : List Int} (h : NRow w base v l) : ∀ b, v.ownBlock = some b → base ≤ b ∧ b < w.heap.size := fun b e => by
  unfold NRow at h
  rcases h.2 with ⟨rfl, _⟩ | ⟨g, cap, cur, rfl, hb, hgg, h1, h2, r⟩
  · cases e
  · cases e; exact ⟨hb, (Array.getElem?_eq_some_iff.1 hgg).1⟩
theorem NRow.kept {w w' : World} {base : Nat} {v : Value} {l : List Int} (h : NRow w base v l) {S : Nat → Prop} (k : Kept S w w') (hs : ∀ b, v.ownBlock = some b → ¬ S b) : NRow w' base v l := by
  unfold NRow at h ⊢
  refine ⟨h.1, ?_⟩
  rcases h.2 with h1 | ⟨g, cap, cur, rfl, hb, hgg, r⟩
  · exact .inl h1
  · exact .inr ⟨g, cap, cur, rfl, hb, (k.block g (Array.getElem?_eq_some_iff.1 hgg).1 (hs g rfl)).trans hgg, r⟩
theorem NRow.still {w w' : World} {base : Nat} {v : Value} {l : List Int} (h : NRow w base v l) (k : Still w w') : NRow w' base v l := h.kept k fun _ _ e => e
theorem NRow.low {w : World} {base base' : Nat} {v : Value} {l : List Int} (h : NRow w base v l) (hb : base' ≤ base) : NRow w base' v l := by
  unfold NRow at h ⊢
  refine ⟨h.1, ?_⟩
  rcases h.2 with h1 | ⟨g, cap, cur, rfl, hb', r⟩
  · exact .inl h1
  · exact .inr ⟨g, cap, cur, rfl, Nat.le_trans hb hb', r⟩
theorem list_not_eq {α : Type} [DecidableEq α] {l l' : List α} {k : Nat} {x x' : α} (h : l[k]? = some x) (h' : l'[k]? = some x') (hx : x ≠ x') : decide (l = l') = false := decide_eq_false fun e => by
  rw [e, h'] at h
  exact hx (Option.some.inj h).symm
theorem meas_k {k n : Nat} (h : k < n) : n - (intOf (.int .i64 ((k : Int) + 1))).toNat < n - (intOf (.int .i64 (k : Int))).toNat := by
  simp [intOf]
  omega
set_option maxHeartbeats 1000000 in
theorem sameList_any (w : World) (v u : Value) (l l' : List Int) (hv : Nums w v l) (hu : Nums w u l') :
    Calls Try.prog 20 #[v, u] w fun e w' => e = .returned (.bool (decide (l = l'))) ∧ Still w w' := by
  obtain ⟨z, c, rfl, hnc, hcm, hz⟩ := hv
  obtain ⟨z', c', rfl, hnc', hcm', hz'⟩ := hu
  rw [maxLen_is] at hcm hcm'
  have hz := hide hz
  have hz' := hide hz'
  go_enter Try.func20, Try.ntmps20
  by_cases hl : l.length = l'.length
  · have hl' : (l.length : Int) = (l'.length : Int) := by omega
    go_wp2_with fail
    go_loopw [5] (fun iv wr => ∃ k : Nat, k ≤ l.length ∧ iv = .int .i64 k ∧ (∀ j, j < k → l[j]? = l'[j]?) ∧ Still w wr) (fun iv _ => l.length - (intOf iv).toNat)
    case atStart => exact ⟨0, Nat.zero_le _, rfl, fun j hj => absurd hj (Nat.not_lt_zero _), Kept.refl _ _⟩
    case round =>
      obtain ⟨k, hk, rfl, heq, hst⟩ := hrel
      have heq := hide heq
      have hst := hide hst
      by_cases hkn : k < l.length
      · obtain ⟨b, rfl, hb, hc⟩ := hz.out (by omega)
        obtain ⟨b', rfl, hb', hc'⟩ := hz'.out (by omega)
        have hx := List.getElem?_eq_getElem hkn
        have hx' := List.getElem?_eq_getElem (l := l') (i := k) (by omega)
        generalize l[k] = x at hx
        generalize l'[k]'(by omega) = x' at hx'
        have x0 : wr.cell? (b.add k) = some (.int .u64 x) := by
          rw [← hc _ _ hx]; unfold World.cell?; rw [addr_block, hst.out.block _ hb (fun e => e)]
        have x1 : wr.cell? (b'.add k) = some (.int .u64 x') := by
          rw [← hc' _ _ hx']; unfold World.cell?; rw [addr_block, hst.out.block _ hb' (fun e => e)]
        have y0 : ∀ n, (wr.drewN n).cell? (b.add k) = some (.int .u64 x) := fun n => x0
        have y1 : ∀ n, (wr.drewN n).cell? (b'.add k) = some (.int .u64 x') := fun n => x1
        have hx := hide hx
        have hx' := hide hx'
        have hkl : (k : Int) < (l.length : Int) := by omega
        have hkl' : (k : Int) < (l'.length : Int) := by omega
        have hk0 : 0 ≤ (k : Int) := by omega
        have hms := meas_k hkn
        clear hc hc' hz hz' hb hb'
        by_cases hxx : x = x'
        · subst hxx
          go_wp2_with fail
          go_quiet (fail)
          go_wp2
          go_roundw
          case rel =>
            refine ⟨k + 1, by omega, by simp, fun j hj => ?_, hst.out.drewN _⟩
            rcases Nat.lt_succ_iff_lt_or_eq.1 hj with h | rfl
            · exact heq.out j h
            · rw [hx.out, hx'.out]
          case measure => exact hms
        · go_wp2_with fail
          go_quiet (fail)
          go_wp2
          go_ret
          exact ⟨by rw [list_not_eq hx.out hx'.out hxx]; rfl, hst.out.drewN _⟩
      · obtain rfl : k = l.length := by omega
        have hfin : decide (l = l') = true := decide_eq_true (List.ext_getElem? fun j => by
          by_cases hj : j < l.length
          · exact heq.out j hj
          · rw [List.getElem?_eq_none (by omega), List.getElem?_eq_none (by omega)])
        go_wp2
        go_ret
        exact ⟨by rw [hfin]; rfl, hst.out⟩
  · have hl' : ¬ (l.length : Int) = (l'.length : Int) := by omega
    have hne : decide (l = l') = false := decide_eq_false fun e => hl (by rw [e])
    go_wp2
    go_ret
    exact ⟨by rw [hne]; rfl, Kept.refl _ _⟩
end Go.Proofs.Ytnbifbllemcjfaa
