/-
  The memory in the heap: Same.
-/
import Derived.Test.YtnbifbllemcjfaaRamG
namespace Go.Proofs.Ytnbifbllemcjfaa
set_option linter.unusedVariables false
open Go.RowKit Go.Maps

/-- Are two memories the same on page n, and on all pages? -/
def eqPg (M M' : Nat → BitVec 8) (n : Nat) : Bool := samePg (fun i => M (n * 4096 + i)) fun i => M' (n * 4096 + i)
def sameM (M M' : Nat → BitVec 8) : Bool := ((List.range 256).map (· + 524288)).all fun n => eqPg M M' n
theorem eqPg_iff {M M' : Nat → BitVec 8} {n : Nat} : eqPg M M' n = true ↔ ∀ i, i < 4096 → M (n * 4096 + i) = M' (n * 4096 + i) := samePg_iff
theorem inP_range {n : Nat} : n ∈ (List.range 256).map (· + 524288) ↔ InP n := by
  rw [List.mem_map]
  unfold InP
  constructor
  · rintro ⟨a, ha, rfl⟩
    have := List.mem_range.1 ha
    omega
  · intro h
    exact ⟨n - 524288, List.mem_range.2 (by omega), by omega⟩
theorem sameM_iff {M M' : Nat → BitVec 8} : sameM M M' = true ↔ ∀ n, InP n → eqPg M M' n = true := by
  unfold sameM
  rw [List.all_eq_true]
  exact forall_congr' fun n => by rw [inP_range]
theorem sameM_bytes {M M' : Nat → BitVec 8} : sameM M M' = true ↔ ∀ a, 2147483648 ≤ a → a < 2148532224 → M a = M' a := by
  rw [sameM_iff]
  constructor
  · intro h a h1 h2
    have := eqPg_iff.1 (h (a / 4096) (by unfold InP; omega)) (a % 4096) (by omega)
    rw [at_split] at this
    exact this
  · intro h n hn
    unfold InP at hn
    exact eqPg_iff.2 fun i hi => h _ (by omega) (by omega)
theorem eqPg_zero {M M' : Nat → BitVec 8} {n : Nat} (h : pageZ M n = true) (h' : pageZ M' n = true) : eqPg M M' n = true :=
  eqPg_iff.2 fun i hi => by rw [pageZ_iff.1 h i hi, pageZ_iff.1 h' i hi]
theorem eqPg_left {M M' : Nat → BitVec 8} {n : Nat} (h : pageZ M n = true) (h' : pageZ M' n = false) : eqPg M M' n = false := by
  cases e : eqPg M M' n
  · rfl
  · have : pageZ M' n = true := pageZ_iff.2 fun i hi => by rw [← eqPg_iff.1 e i hi, pageZ_iff.1 h i hi]
    rw [this] at h'
    cases h'
theorem eqPg_right {M M' : Nat → BitVec 8} {n : Nat} (h : pageZ M n = false) (h' : pageZ M' n = true) : eqPg M M' n = false := by
  cases e : eqPg M M' n
  · rfl
  · have : pageZ M n = true := pageZ_iff.2 fun i hi => by rw [eqPg_iff.1 e i hi, pageZ_iff.1 h' i hi]
    rw [this] at h
    cases h
/-- What Same goes over. -/
def bothI (M M' : Nat → BitVec 8) : List Int := pagesI M ++ pagesI M'
theorem mem_both {M M' : Nat → BitVec 8} {k : Nat} {x : Int} (h : (bothI M M')[k]? = some x) : ∃ y : BitVec 64, x = U y ∧ InP (y.toNat / 4096) ∧ (pageZ M (y.toNat / 4096) = false ∨ pageZ M' (y.toNat / 4096) = false) := by
  have hx : x ∈ bothI M M' := List.mem_of_getElem? h
  have key : ∃ n, x = ((n * 4096 : Nat) : Int) ∧ InP n ∧ (pageZ M n = false ∨ pageZ M' n = false) := by
    rcases List.mem_append.1 hx with e | e
    · obtain ⟨n, r1, r2, r3⟩ := mem_pagesI.1 e; exact ⟨n, r1, r2, .inl r3⟩
    · obtain ⟨n, r1, r2, r3⟩ := mem_pagesI.1 e; exact ⟨n, r1, r2, .inr r3⟩
  obtain ⟨n, rfl, r2, r3⟩ := key
  have hn : (BitVec.ofNat 64 (n * 4096)).toNat = n * 4096 := by unfold InP at r2; rw [BitVec.toNat_ofNat]; omega
  refine ⟨BitVec.ofNat 64 (n * 4096), ?_, ?_⟩
  · unfold U; rw [hn]
  · rw [hn, Nat.mul_div_cancel _ (by omega)]
    exact ⟨r2, r3⟩
theorem both_all {M M' : Nat → BitVec 8} (h : ∀ (k : Nat) (x : Int), (bothI M M')[k]? = some x → eqPg M M' (Int.toNat x / 4096) = true) : sameM M M' = true := by
  rw [sameM_iff]
  intro n hn
  have go : ((n * 4096 : Nat) : Int) ∈ bothI M M' → eqPg M M' n = true := fun e => by
    obtain ⟨k, hk⟩ := List.mem_iff_getElem?.1 e
    have := h k _ hk
    rw [Int.toNat_natCast, Nat.mul_div_cancel _ (by omega)] at this
    exact this
  cases hz : pageZ M n
  · exact go (List.mem_append.2 (.inl (mem_pagesI.2 ⟨n, rfl, hn, hz⟩)))
  · cases hz' : pageZ M' n
    · exact go (List.mem_append.2 (.inr (mem_pagesI.2 ⟨n, rfl, hn, hz'⟩)))
    · exact eqPg_zero hz hz'
theorem sameM_no {M M' : Nat → BitVec 8} {n : Nat} (hn : InP n) (h : eqPg M M' n = false) : sameM M M' = false := by
  cases e : sameM M M'
  · rfl
  · rw [sameM_iff.1 e n hn] at h; cases h
theorem toNat_U (y : BitVec 64) : Int.toNat (U y) = y.toNat := by unfold U; exact Int.toNat_natCast _
theorem nrow_news {w : World} {base : Nat} {v : Value} {l : List Int} (h : NRow w base v l) : v = .slice none 0 0 ∧ l = [] ∨ ∃ b cap, v = .slice (some ⟨b, 0, none⟩) l.length cap ∧ b < w.heap.size ∧ base ≤ b ∧ ∀ j u, (l.map (Value.int .u64))[j]? = some u → w.cell? ((⟨b, 0, none⟩ : Addr).add j) = some u := by
  have h' := h
  unfold NRow at h'
  rcases h'.2 with ⟨rfl, h0⟩ | ⟨b, cap, cur, rfl, hb, hgg, h1, h2, r⟩
  · exact .inl ⟨rfl, by simpa using h0⟩
  · exact .inr ⟨b, cap, rfl, (Array.getElem?_eq_some_iff.1 hgg).1, hb, fun j u hu => World.ownsRow.cells (g := b) h' rfl j u hu⟩

theorem run_append_nums (w : World) (base : Nat) (ty : TypeId) (v1 v2 : Value) (l1 l2 : List Int) (h1 : NRow w base v1 l1) (h2 : NRow w base v2 l2) (hb : base ≤ w.heap.size) (hl : l1.length + l2.length ≤ 100000) :
    ∃ v' w', (Builtin.append_ #[37, 37] ty #[v1, v2]).run Try.prog w = .ok v' w' ∧ NRow w' base v' (l1 ++ l2) ∧ w.grownBy w' v1.ownBlock := by
  obtain ⟨i0, hi, hz0, hz1, hz2⟩ := info_parts infoW
  rcases nrow_news h2 with ⟨rfl, rfl⟩ | ⟨b, cap, rfl, hbl, hbb, hnews⟩
  · obtain ⟨z, c, rfl, hc, hm, -⟩ := h1.nums
    refine ⟨.slice z l1.length c, w, ?_, by rw [List.append_nil]; exact h1, ⟨rfl, rfl, rfl, Nat.le_refl _, fun _ _ _ => rfl⟩⟩
    cases z <;> simp [Builtin.append_, run_underlying Try.underlying37, sizeOf, typeInfo, hi, Builtin.lenOf, Builtin.firstCells, loadCells, hc, storeCells]
  · have q1 : l1.length + l2.length ≤ maxLen := by rw [maxLen_is]; omega
    obtain ⟨v', w', hr, ho, hg, -, -⟩ := run_append_own_at (P := Try.prog) w base 37 ty 30 i0 (.int .u64 0) 1 8 Try.underlying37 hi hz0 hz1 hz2 rfl (by decide) v1 l1.length _ h1 ⟨b, 0, none⟩ l2.length cap (l2.map (Value.int .u64)) (by simp) hnews (fun u hu => by obtain ⟨x, -, rfl⟩ := List.mem_map.1 hu; rfl) q1 (by omega) hb
    refine ⟨v', w', hr, ?_, hg⟩
    unfold NRow
    rw [List.length_append, List.map_append]
    exact ho
theorem wpList_append_nums {ops : Array Oper} {rest : List Oper} {o : Oper} {a : Act} {w : World} {Q : Exit → Act → World → Prop} (hgd : o.guard = none) (s x : Operand)
    (ho : o.op = .call { callee := .builtin .append, args := #[s, x], argTypes := #[37, 37] })
    (base : Nat) (v1 v2 : Value) (l1 l2 : List Int) (hs : a.eval s = v1) (hx : a.eval x = v2) (h1 : NRow w base v1 l1) (h2 : NRow w base v2 l2) (hb : base ≤ w.heap.size) (hl : l1.length + l2.length ≤ 100000)
    (h : ∀ v' w', NRow w' base v' (l1 ++ l2) → w.grownBy w' v1.ownBlock → wpList Try.prog ops Q rest (a.put o.dst v') w') :
    wpList Try.prog ops Q (o :: rest) a w := by
  refine wpList_plain hgd fun K hK => ?_
  obtain ⟨v', w', hr, h2, h3⟩ := run_append_nums w base o.type v1 v2 l1 l2 h1 h2 hb hl
  unfold Oper.wp execOp
  simp only [ho, resolve, invoke, builtin, Sem.run_bind, Sem.run_pure, Result.andThen_ok, List.map_toArray, List.map_cons, List.map_nil, hs, hx, hr]
  exact hK _ _ (h v' w' h2 h3)

set_option maxRecDepth 20000 in
set_option maxHeartbeats 4000000 in
attribute [local go_sem ↓] loadAt_58 eq58 in
theorem Same_any (w : World) (g g' : G) (M M' : Nat → BitVec 8) (h : Held w g M) (h' : Held w g' M') :
    Calls Try.prog 24 #[.pointer (some ⟨g.q, 0, none⟩), .pointer (some ⟨g'.q, 0, none⟩)] w fun e w' => e = .returned (.bool (sameM M M')) ∧ Still w w' := by
  go_enter Try.func24, Try.ntmps24
  go_wp2_with fail
  go_at_call 18
  refine (Pages_any w g M h).mono ?_
  rintro e w1 ⟨v1, rfl, o1, k1⟩
  have h1 := h'.still k1
  go_wp2_with fail
  go_at_call 18
  refine (Pages_any w1 g' M' h1).mono ?_
  rintro e w2 ⟨v2, rfl, o2, k2⟩
  have H := (h.still k1).still k2
  have H' := h1.still k2
  have o1' := o1.still k2
  have o2' := o2.low k1.size
  have K2 : Still w w2 := k1.trans k2
  have l12 : (pagesI M).length + (pagesI M').length ≤ 100000 := by
    have := length_pagesI M
    have := length_pagesI M'
    omega
  have hlt : ∀ b, g.own b → b < w.heap.size := fun b hb => h.lt hb
  have hlt' : ∀ b, g'.own b → b < w.heap.size := fun b hb => h'.lt hb
  replace hlt := hide hlt
  replace hlt' := hide hlt'
  clear h h' h1 o1 o2 k1 k2
  go_wp2_with (at_builtin; refine wpList_append_nums rfl _ _ rfl w.heap.size v1 v2 _ _ rfl rfl o1' o2' K2.size l12 ?_; intro v3 w3 o3 hg3; go_frame
               have k23 : Kept (fun b => w.heap.size ≤ b) w2 w3 := (Kept.refl _ w2).grown hg3 (fun p hp => .inl (o1'.lt p hp).1)
               have H3 := H.kept k23 (fun b hb e => by have := hlt.out b hb; omega)
               have H3' := H'.kept k23 (fun b hb e => by have := hlt'.out b hb; omega)
               have K3 : Still w w3 := K2.start (k23.mono fun b e => .inr e)
               change NRow w3 w.heap.size v3 (bothI M M') at o3
               have hbl : (bothI M M').length ≤ 100000 := by unfold bothI; rw [List.length_append]; exact l12
               obtain ⟨z, c, rfl, hnc, hcm, hzz⟩ := o3.nums
               clear H H' o1' o2' K2 k23 hg3)
  replace hzz := hide hzz
  clear hlt hlt' o3
  generalize hL : bothI M M' = L at *
  replace hL := hide hL
  go_loopw [15] (fun iv wr => ∃ k : Nat, k ≤ L.length ∧ iv = .int .i64 k ∧ (∀ (j : Nat) (x : Int), j < k → L[j]? = some x → eqPg M M' (Int.toNat x / 4096) = true) ∧ Still w3 wr) (fun iv _ => L.length - (intOf iv).toNat)
  case atStart => exact ⟨0, Nat.zero_le _, rfl, fun j x hj => absurd hj (Nat.not_lt_zero _), Kept.refl _ _⟩
  case round =>
    obtain ⟨k, hk, rfl, heq, hst⟩ := hrel
    replace hst := hide hst
    by_cases hkn : k < L.length
    · have hms := meas_k hkn
      have hLk := List.getElem?_eq_getElem hkn
      generalize L[k] = x at hLk
      obtain ⟨y, rfl, hyP, hyz⟩ := mem_both (k := k) (x := x) (by rw [hL.out]; exact hLk)
      obtain ⟨b, rfl, hb, hc⟩ := hzz.out (by omega)
      have x0 : wr.cell? (b.add k) = some (.int .u64 (U y)) := by
        rw [← hc _ _ hLk]; unfold World.cell?; rw [addr_block, hst.out.block _ hb (fun e => e)]
      clear hc hzz hb
      have Hw := H3.still hst.out
      have Hw' := H3'.still hst.out
      have p0 : ∀ n, (wr.drewN n).cell? ⟨g.q, 0, none⟩ = some (.map (some g.m)) := fun n => (Hw.still ((Kept.refl _ wr).drewN n)).p0
      have p1 : ∀ n, (wr.drewN n).cell? ⟨g'.q, 0, none⟩ = some (.map (some g'.m)) := fun n => (Hw'.still ((Kept.refl _ wr).drewN n)).p0
      have hl0 := fun n => (Hw.still ((Kept.refl _ wr).drewN n)).m.look (y / 4096#64)
      have hl1 := fun n => (Hw'.still ((Kept.refl _ wr).drewN n)).m.look (y / 4096#64)
      simp only [page_nat] at hl0 hl1
      unfold kv at hl0 hl1
      have hk0 : 0 ≤ (k : Int) := by omega
      have hkl : (k : Int) < (L.length : Int) := by omega
      have hkm : (k : Int) < 9223372036854775807 := by omega
      have hyn := toNat_U y
      replace hyn := hide hyn
      replace heq := hide heq
      replace hLk := hide hLk
      have hz0 := Hw.zero (y.toNat / 4096)
      have hz1 := Hw'.zero (y.toNat / 4096)
      rw [← pageZ_iff] at hz0 hz1
      have hpg0 := fun b e n => (Hw.pages (y.toNat / 4096) b e).kept (w' := wr.drewN n) rfl
      have hpg1 := fun b e n => (Hw'.pages (y.toNat / 4096) b e).kept (w' := wr.drewN n) rfl
      clear H3 H3' Hw Hw'
      generalize hn : y.toNat / 4096 = n at *
      replace hn := hide hn
      cases hb0 : g.bl n with
      | none =>
        have hno : sameM M M' = false := by
          have h1 := hz0 hb0
          rcases hyz with e | e
          · rw [h1] at e; cases e
          · exact sameM_no hyP (eqPg_left h1 e)
        simp only [hb0, ptrV] at hl0
        clear hz0 hz1 hpg0 hpg1 hyz hyP
        go_wp2_with fail
        go_quiet (fail)
        go_wp2_with fail
        go_quiet (fail)
        go_wp2_with fail
        go_ret
        exact ⟨by rw [hno]; rfl, (K3.trans hst.out).trans (((Kept.refl _ wr).drewN _).drewN _)⟩
      | some b0 =>
        cases hb1 : g'.bl n with
        | none =>
          have hno : sameM M M' = false := by
            have h1 := hz1 hb1
            rcases hyz with e | e
            · exact sameM_no hyP (eqPg_right e h1)
            · rw [h1] at e; cases e
          simp only [hb0, ptrV] at hl0
          simp only [hb1, ptrV] at hl1
          clear hz0 hz1 hpg0 hpg1 hyz hyP
          go_wp2_with fail
          go_quiet (fail)
          go_wp2_with fail
          go_quiet (fail)
          go_wp2_with fail
          go_ret
          exact ⟨by rw [hno]; rfl, (K3.trans hst.out).trans (((Kept.refl _ wr).drewN _).drewN _)⟩
        | some b1 =>
          have hld0 := fun n => (hpg0 b0 hb0 n).ld
          have hld1 := fun n => (hpg1 b1 hb1 n).ld
          simp only [hb0, ptrV] at hl0
          simp only [hb1, ptrV] at hl1
          clear hz0 hz1 hpg0 hpg1 hyz
          cases he : eqPg M M' n
          · have hno := sameM_no hyP he
            change samePg _ _ = false at he
            go_wp2_with fail
            go_quiet (fail)
            go_wp2_with fail
            go_quiet (fail)
            go_wp2_with fail
            go_ret
            exact ⟨by rw [hno]; rfl, (K3.trans hst.out).trans (((Kept.refl _ wr).drewN _).drewN _)⟩
          · replace heq : ∀ (j : Nat) (x : Int), j < k + 1 → L[j]? = some x → eqPg M M' (Int.toNat x / 4096) = true := fun j x hj hx => by
              rcases Nat.lt_succ_iff_lt_or_eq.1 hj with h | rfl
              · exact heq.out j x h hx
              · rw [hLk.out] at hx
                rw [← Option.some.inj hx, hyn.out, hn.out]
                exact he
            replace heq := hide heq
            change samePg _ _ = true at he
            go_wp2_with fail
            go_quiet (fail)
            go_wp2_with fail
            go_quiet (fail)
            go_wp2_with fail
            go_roundw
            case rel => exact ⟨k + 1, hkn, by simp, heq.out, hst.out.drewN _⟩
            case measure => exact hms
    · obtain rfl : k = L.length := by omega
      have hyes : sameM M M' = true := both_all fun j x hx => heq j x (by
        rw [hL.out] at hx
        exact (List.getElem?_eq_some_iff.1 hx).1) (by rw [← hL.out]; exact hx)
      have hirr : ¬ (L.length : Int) < (L.length : Int) := Int.lt_irrefl _
      go_wp2_with fail
      go_ret
      exact ⟨rfl, K3.trans hst.out⟩
end Go.Proofs.Ytnbifbllemcjfaa
