/-
  The reference's cache: Tick.
-/
import Derived.Test.YtpflodhnniochaaDoesD
namespace Go.Proofs.Ytpflodhnniochaa
set_option linter.unusedVariables false
open Go.RowKit Go.Maps

theorem infoCame : (Try.prog.info? 79).map (fun i => (i.zero, i.size, i.bytes)) = some (some (.agg #[.int .u64 0, .int .u64 0, .bool false]), 3, 24) := by kernel_rfl
theorem empty_setSl (s : St) (i : Nat) (p : Sl) (f k : Nat) : emptyS (setSl s i p) f k = emptyS s f k := empty_flags (s := setSl s i p) (d := s) (fun _ => rfl) k f
theorem lay_sets (s : St) (L : BitVec 64) (wr : Bool) : (layS s L wr).1.sets = s.sets := by
  unfold layS
  split <;> rfl
theorem tick1_sets (s : St) (i : Nat) : (tick1 s i).1.sets = s.sets := by
  unfold tick1
  split
  · split
    · exact (lay_sets _ _ _)
    · rfl
  · rfl
theorem tick_sets (s : St) : ∀ k, (tickS s k).1.sets = s.sets
  | 0 => rfl
  | k + 1 => by rw [tickS]; exact (tick1_sets _ _).trans (tick_sets s k)
theorem Kept.mine {S : Nat → Prop} {B : Nat} {w w' w2 : World} (h : Kept S w w') (k : Kept (fun x => B ≤ x) w' w2) (hB : w.heap.size ≤ B) : Kept S w w2 := h.start (k.mono fun x e => .inr (Nat.le_trans hB e))
theorem mul64 (L : BitVec 64) : 64#64 * L = L <<< 6 := by
  apply BitVec.eq_of_toNat_eq
  rw [BitVec.toNat_mul, BitVec.toNat_shiftLeft, Nat.shiftLeft_eq]
  show 64 * L.toNat % 2 ^ 64 = L.toNat * 2 ^ 6 % 2 ^ 64
  rw [Nat.mul_comm]
theorem app_kept {S : Nat → Prop} {w wR w8 : World} {T : TypeId} {k n : Nat} {v : Value} {xs : List Value} {X : Obj} (K : Kept S w wR) (o : wR.ownsRow w.heap.size T k v n xs) (hg : (wR.alloc X).grownBy w8 v.ownBlock) :
    Kept S w w8 ∧ Kept (fun x => w.heap.size ≤ x) wR w8 :=
  ⟨(K.alloc X).grown hg (fun p hp => .inr (World.ownsRow.lt o p hp).1), ((Kept.refl _ wR).alloc X).grown hg (fun p hp => .inl (World.ownsRow.lt o p hp).1)⟩
theorem came_new (w : World) (d : Dn) (T : TypeId) : ∀ j u, ([.int .u64 (U d.at_), .int .u64 (U d.out), .bool d.written] : List Value)[j]? = some u → (w.alloc (.cells #[.int .u64 (U d.at_), .int .u64 (U d.out), .bool d.written] T)).cell? ((⟨w.heap.size, 0, none⟩ : Addr).add j) = some u := by
  intro j u hj
  rcases j with _ | _ | _ | j
  · simp at hj; subst hj; simp only [Addr.add, Nat.zero_add]; exact cell_new _ _ _ _
  · simp at hj; subst hj; simp only [Addr.add, Nat.zero_add]; exact cell_new _ _ _ _
  · simp at hj; subst hj; simp only [Addr.add, Nat.zero_add]; exact cell_new _ _ _ _
  · simp at hj
theorem rowQ {w : World} {g : R} {s : St} {i j : Nat} {M : BitVec 64} {wm : Bool} (h : HeldR w g s) (hi : i < s.sets) (hj : j < s.ways) (hM : (s.pl (i * s.ways + j)).line = M) (hwm : (s.pl (i * s.ways + j)).written = wm) :
    w.cell? ⟨g.row i, j * 4, none⟩ = some (.int .u64 (U M)) ∧ w.cell? ⟨g.row i, j * 4 + 2, none⟩ = some (.bool wm) := by
  have p0 := (h.r i hi).cell j 0 hj (by decide)
  have p2 := (h.r i hi).cell j 2 hj (by decide)
  rw [← hM, ← hwm]
  exact ⟨p0, p2⟩
theorem rowAll {w : World} {g : R} {s : St} {i j : Nat} (h : HeldR w g s) (hi : i < s.sets) (hj : j < s.ways) :
    ∃ a b c d, w.cell? ⟨g.row i, j * 4, none⟩ = some a ∧ w.cell? ⟨g.row i, j * 4 + 1, none⟩ = some b ∧ w.cell? ⟨g.row i, j * 4 + 2, none⟩ = some c ∧ w.cell? ⟨g.row i, j * 4 + 3, none⟩ = some d ∧ ∀ o, w.frozen? ⟨g.row i, o, none⟩ = false :=
  ⟨_, _, _, _, (h.r i hi).cell j 0 hj (by decide), (h.r i hi).cell j 1 hj (by decide), (h.r i hi).cell j 2 hj (by decide), (h.r i hi).cell j 3 hj (by decide), (h.r i hi).frozen⟩
theorem div32 (x : BitVec 64) : x / 4294967296#64 = x >>> 32 := by
  apply BitVec.eq_of_toNat_eq
  rw [BitVec.toNat_udiv, BitVec.toNat_ushiftRight, Nat.shiftRight_eq_div_pow]
  rfl
theorem lay_free {s : St} {L : BitVec 64} {i j : Nat} (wr : Bool) (hi : (L % s.m).toNat = i) (hj : j < s.ways) (he : emptyS s (i * s.ways + 0) s.ways = i * s.ways + j) : layS s L wr = (fillS s (i * s.ways + j) L wr, ⟨L <<< 6, 0#64, false⟩) := by
  unfold layS
  have hf : firstS s L = i * s.ways := by unfold firstS; rw [hi]
  rw [Nat.add_zero] at he
  rw [hf, he, if_neg (by omega)]
theorem lay_full {s : St} {L : BitVec 64} {i j : Nat} {x : BitVec 64} (wr : Bool) (hi : (L % s.m).toNat = i) (hx : stepSeed s.seed = x) (hj : ((x >>> 32) % BitVec.ofNat 64 s.ways).toNat = j) (he : emptyS s (i * s.ways + 0) s.ways = i * s.ways + 0 + s.ways) :
    layS s L wr = (fillS (freed (seeded s x) (s.pl (i * s.ways + j)).line) (i * s.ways + j) L wr, ⟨L <<< 6, (s.pl (i * s.ways + j)).line <<< 6, (s.pl (i * s.ways + j)).written⟩) := by
  unfold layS
  have hf : firstS s L = i * s.ways := by unfold firstS; rw [hi]
  have hg : goneS s L = i * s.ways + j := by unfold goneS; rw [hf, hx, hj]
  rw [Nat.add_zero] at he
  rw [hg, hf, he, if_pos rfl, hx]
set_option maxRecDepth 100000 in
set_option maxHeartbeats 4000000 in
theorem TickR_any (w : World) (g : R) (s : St) (h : HeldR w g s) (hc : Co s) (hf : Fr s) :
    Calls Try.prog 14 #[.pointer (some ⟨g.c, 0, none⟩)] w fun e w' =>
      ∃ v, e = .returned v ∧ w'.ownsRow w.heap.size 79 3 v (tickS s s.ns).2.length (dnCells (tickS s s.ns).2) ∧ HeldR w' g (tickS s s.ns).1 ∧ Kept (g.own s.sets) w w' := by
  obtain ⟨i0, hi, hz0, hz1, hz2⟩ := info_parts infoCame
  have hn8 := hc.ok.ns.2
  have hlt0 : ∀ b, g.own s.sets b → b < w.heap.size := fun b hb => h.lt hb
  replace hlt0 := hide hlt0
  go_enter Try.func14, Try.ntmps14
  go_wp2_with fail
  go_loopw [3, 4] (fun ov iv wr => ∃ k : Nat, k ≤ s.ns ∧ iv = .int .i64 k ∧ HeldR wr g (tickS s k).1 ∧ Kept (g.own s.sets) w wr ∧ wr.ownsRow w.heap.size 79 3 ov (tickS s k).2.length (dnCells (tickS s k).2)) (fun _ iv _ => s.ns - (intOf iv).toNat)
  case atStart => exact ⟨0, Nat.zero_le _, rfl, h.alloc _, (Kept.refl _ _).alloc _, World.ownsRow_made w #[] 0 (Nat.le_refl _) (Nat.zero_le _) rfl⟩
  case round =>
    obtain ⟨k, hk, rfl, hh, hK, ho⟩ := hrel
    by_cases hlt : k < s.ns
    · have hms := meas_succ2 hlt
      have hk1 : k + 1 ≤ s.ns := hlt
      have hb : 0 ≤ (k : Int) := by omega
      have hb2 : ((k : Nat) : Int) < (s.ns : Nat) := by omega
      have hst : tickS s (k + 1) = ((tick1 (tickS s k).1 k).1, (tickS s k).2 ++ (tick1 (tickS s k).1 k).2) := rfl
      have hsl := tick_sl s k k (Nat.le_refl _)
      have hns := tick_ns s k
      have hlen := tick_length s k
      have hco := co_tick hc k hk
      have hsets : (tickS s k).1.sets = s.sets := tick_sets s k
      generalize tickS s k = r at hh ho hst hsl hns hlen hco hsets
      obtain ⟨st, ds⟩ := r
      simp only [] at hh ho hst hsl hns hlen hco hsets
      have hkst : k < st.ns := by omega
      have c1 : wr.cell? ⟨g.c, 1, none⟩ = some (.slice (some ⟨g.s, 0, none⟩) s.ns g.ks) := by rw [← hns]; exact hh.cf.c1
      have e0 := hh.s.cell k 0 hkst (by decide)
      have e1 := hh.s.cell k 1 hkst (by decide)
      have e2 := hh.s.cell k 2 hkst (by decide)
      have e3 := hh.s.cell k 3 hkst (by decide)
      have e9 := hh.s.frozen
      simp only [slV, Nat.add_zero] at e0 e1 e2 e3
      have hgs : g.s ≠ wr.heap.size := fun e => Nat.lt_irrefl _ (e ▸ hh.s.lt)
      have hgc : g.c ≠ wr.heap.size := fun e => Nat.lt_irrefl _ (e ▸ hh.lt (.inl rfl))
      have hgs2 : g.s < wr.heap.size := hh.s.lt
      have hgc2 : g.c < wr.heap.size := hh.lt (.inl rfl)
      cases i1 : (st.sl k).is with
      | false =>
        have ht : tick1 st k = (st, []) := by unfold tick1; rw [if_neg (by simp [i1])]
        rw [ht, List.append_nil] at hst
        replace hst := hide hst
        rw [i1] at e1
        go_wp2
        go_roundw
        case rel => exact ⟨k + 1, hk1, by simp, by rw [hst.out]; exact hh.alloc _, hK.alloc _, by rw [hst.out]; exact ho.alloc _⟩
        case measure => exact hms
      | true =>
        have hl1 : 1 ≤ (st.sl k).left := by rw [hsl]; exact hf k hlt (by rw [← hsl]; exact i1)
        have hl2 : (st.sl k).left ≤ 64 := Nat.le_trans (hco.ok.sl k hkst i1) hco.ok.delay.2
        obtain ⟨m, hm⟩ : ∃ m, (st.sl k).left = m + 1 := ⟨(st.sl k).left - 1, by omega⟩
        rw [hm, Int.natCast_add] at e3
        replace e3 : wr.cell? ⟨g.s, k * 4 + 3, none⟩ = some (.int .i64 ((m : Int) + 1)) := e3
        clear hsl
        rw [i1] at e1
        have hm64 : (m : Int) < 64 := by omega
        have hm0 : 0 ≤ (m : Int) := by omega
        by_cases hmz : m = 0
        · subst hmz
          replace hms := hide hms
          have hx1 : Hid (∀ L wr', (st.sl k).line = L → (st.sl k).write = wr' → tick1 st k = (setSl (layS (setSl st k { st.sl k with left := 0 }) L wr').1 k ⟨0#64, false, false, 0⟩, [(layS (setSl st k { st.sl k with left := 0 }) L wr').2])) := hide (fun L wr' e1 e2 => by
            unfold tick1
            rw [if_pos i1, hm, if_pos rfl, ← e1, ← e2])
          replace e3 : wr.cell? ⟨g.s, k * 4 + 3, none⟩ = some (.int .i64 1) := e3
          have hS := (hh.left hkst 0).newS (n := k) hkst 0#64 false false 0
          have hKS : Kept (g.own s.sets) wr (((((wr.setCell ⟨g.s, k * 4 + 3, none⟩ (.int .i64 0)).setCell ⟨g.s, k * 4, none⟩ (.int .u64 0)).setCell ⟨g.s, k * 4 + 1, none⟩ (.bool false)).setCell ⟨g.s, k * 4 + 2, none⟩ (.bool false)).setCell ⟨g.s, k * 4 + 3, none⟩ (.int .i64 0)) :=
            (((((Kept.refl _ _).setCell _ _ (.inl (.inr (.inr (.inl rfl))))).setCell _ _ (.inl (.inr (.inr (.inl rfl))))).setCell _ _ (.inl (.inr (.inr (.inl rfl))))).setCell _ _ (.inl (.inr (.inr (.inl rfl))))).setCell _ _ (.inl (.inr (.inr (.inl rfl))))
          have hSz : (((((wr.setCell ⟨g.s, k * 4 + 3, none⟩ (.int .i64 0)).setCell ⟨g.s, k * 4, none⟩ (.int .u64 0)).setCell ⟨g.s, k * 4 + 1, none⟩ (.bool false)).setCell ⟨g.s, k * 4 + 2, none⟩ (.bool false)).setCell ⟨g.s, k * 4 + 3, none⟩ (.int .i64 0)).heap.size = wr.heap.size := by simp [World.setCell]
          have hoS := Owns.kept ho hKS (fun b hb hw => absurd (hlt0.out b hw) (Nat.not_lt.2 hb))
          have hK5 := hK.trans hKS
          generalize hL : (st.sl k).line = L at e0
          generalize hwb : (st.sl k).write = wb at e2
          have hx2 := hide (hx1.out L wb hL hwb)
          have hok2 := hide (co_left hco hkst 0 (Nat.zero_le _)).ok
          replace hst := hide hst
          replace hSz := hide hSz
          go_wp2_with fail
          replace hS : HeldR (((((wr.setCell ⟨g.s, k * 4 + 3, none⟩ (.int .i64 0)).setCell ⟨g.s, k * 4, none⟩ (.int .u64 0)).setCell ⟨g.s, k * 4 + 1, none⟩ (.bool false)).setCell ⟨g.s, k * 4 + 2, none⟩ (.bool false)).setCell ⟨g.s, k * 4 + 3, none⟩ (.int .i64 0)) g (setSl (setSl st k { st.sl k with left := 0 }) k ⟨0#64, false, false, 0⟩) := hS
          generalize (((((wr.setCell ⟨g.s, k * 4 + 3, none⟩ (.int .i64 0)).setCell ⟨g.s, k * 4, none⟩ (.int .u64 0)).setCell ⟨g.s, k * 4 + 1, none⟩ (.bool false)).setCell ⟨g.s, k * 4 + 2, none⟩ (.bool false)).setCell ⟨g.s, k * 4 + 3, none⟩ (.int .i64 0)) = w5 at hS hKS hSz hoS hK5 ⊢
          rw [mul64]
          rw [← hSz.out]
          clear e0 e1 e2 e3 e9 c1 hgs hgc hgs2 hgc2 hh hK ho hKS hL hwb hm hm64 hm0 hl1 hl2 hx1
          have hXb : ((w5.alloc (Obj.cells #[.int .u64 (U L), .bool true, .bool wb, .int .i64 1] 76)).alloc (Obj.cells #[.int .u64 (U (L <<< 6)), .int .u64 0, .bool false] 79)).heap[w5.heap.size]? = some (Obj.cells #[.int .u64 (U L), .bool true, .bool wb, .int .i64 1] 76) := (Below.heap_alloc _ _ _ (by simp)).trans (heap_alloc_new _ _)
          have hDb : ((w5.alloc (Obj.cells #[.int .u64 (U L), .bool true, .bool wb, .int .i64 1] 76)).alloc (Obj.cells #[.int .u64 (U (L <<< 6)), .int .u64 0, .bool false] 79)).heap[w5.heap.size + 1]? = some (Obj.cells #[.int .u64 (U (L <<< 6)), .int .u64 0, .bool false] 79) := by
            have := heap_alloc_new (w5.alloc (Obj.cells #[.int .u64 (U L), .bool true, .bool wb, .int .i64 1] 76)) (Obj.cells #[.int .u64 (U (L <<< 6)), .int .u64 0, .bool false] 79)
            rwa [World.size_alloc] at this
          have hnX : ∀ b, g.own s.sets b → b < w5.heap.size := fun b hb => Nat.lt_of_lt_of_le (hlt0.out b hb) hK5.size
          have hwb5 : w.heap.size ≤ w5.heap.size := hK5.size
          have H6 := (hS.alloc (Obj.cells #[.int .u64 (U L), .bool true, .bool wb, .int .i64 1] 76)).alloc (Obj.cells #[.int .u64 (U (L <<< 6)), .int .u64 0, .bool false] 79)
          have K6 := (hK5.alloc (Obj.cells #[.int .u64 (U L), .bool true, .bool wb, .int .i64 1] 76)).alloc (Obj.cells #[.int .u64 (U (L <<< 6)), .int .u64 0, .bool false] 79)
          have o6 := (hoS.alloc (Obj.cells #[.int .u64 (U L), .bool true, .bool wb, .int .i64 1] 76)).alloc (Obj.cells #[.int .u64 (U (L <<< 6)), .int .u64 0, .bool false] 79)
          have hu3 : ∀ p, u3.ownBlock = some p → p < w5.heap.size := fun p hp => (World.ownsRow.lt hoS p hp).2
          clear hS hoS hK5
          generalize (w5.alloc (Obj.cells #[.int .u64 (U L), .bool true, .bool wb, .int .i64 1] 76)).alloc (Obj.cells #[.int .u64 (U (L <<< 6)), .int .u64 0, .bool false] 79) = w6 at H6 K6 o6 hXb hDb ⊢
          clear hSz
          generalize w5.heap.size = xb at *
          replace hu3 := hide hu3
          generalize hst1 : setSl st k { st.sl k with left := 0 } = st1 at hx2 hok2 H6
          have hks1 : k < st1.ns := by rw [← hst1]; exact hkst
          have hset1 : st1.sets = s.sets := by rw [← hst1]; exact hsets
          have hokz : Ok (setSl st1 k ⟨0#64, false, false, 0⟩) := ok_setSl hok2.out k _ (fun e => by cases e)
          have hw8 : st1.ways ≤ 8 := hok2.out.ways.2
          clear hst1
          replace hset1 := hide hset1
          go_at_call 27
          refine (Set_any w6 g _ L H6 hokz).mono ?_
          rintro e w7 ⟨rfl, k7⟩
          have H7 := H6.still k7
          have K7 := K6.still k7
          have o7 := Owns.kept o6 k7 (fun _ _ e => e)
          have hX7 := (k7.block xb (Array.getElem?_eq_some_iff.1 hXb).1 (fun e => e)).trans hXb
          have hD7 := (k7.block (xb + 1) (Array.getElem?_eq_some_iff.1 hDb).1 (fun e => e)).trans hDb
          have hi1 : (L % (setSl st1 k ⟨0#64, false, false, 0⟩).m).toNat < st1.sets := set_lt hokz L
          have hi2 : (L % (setSl st1 k ⟨0#64, false, false, 0⟩).m).toNat = (L % st1.m).toNat := rfl
          clear hokz H6 K6 o6 k7 hXb hDb
          generalize (L % (setSl st1 k ⟨0#64, false, false, 0⟩).m).toNat = i at hi1 hi2 ⊢
          replace hi2 := hide hi2
          have hrow := H7.r i hi1
          have haR : aR g (setSl st1 k ⟨0#64, false, false, 0⟩) i 0 = .slice (some ⟨g.row i, 0, none⟩) st1.ways (g.kr i) := rfl
          rw [haR]
          clear haR
          go_wp2_with fail
          go_at_call 29
          refine (Empty_any w7 _ _ _ _ _ hrow hw8).mono ?_
          rintro e w' ⟨rfl, rfl⟩
          rcases free_empty st1 i st1.ways 0 with ⟨f1, f2⟩ | ⟨j, -, hj, f1, f2, f3⟩
          · have f1' : freeQ (setQ (setSl st1 k ⟨0#64, false, false, 0⟩) i) 0 (setSl st1 k ⟨0#64, false, false, 0⟩).ways = none := f1
            rw [f1']
            unfold optV
            have c3 : w7.cell? ⟨g.c, 3, none⟩ = some (.int .u64 (U st1.seed)) := H7.cf.c3
            have cz := H7.fz
            have hS := fun x => H7.setSeed x
            have hKS : ∀ x, Kept (g.own s.sets) w7 (w7.setCell ⟨g.c, 3, none⟩ (.int .u64 (U x))) := fun x => (Kept.refl _ _).setCell _ _ (.inl (.inl rfl))
            replace hS := hide hS
            replace hKS := hide hKS
            clear hrow f1 f1'
            go_upto_region 15 with (fail)
            generalize hy : 6364136223846793005#64 * st1.seed = y
            generalize hx : y + 1442695040888963407#64 = x
            have hxx : stepSeed st1.seed = x := by rw [← hx, ← hy, stepSeed_eq]
            clear hx hy
            replace hS := hS.out x
            replace hKS := hKS.out x
            have K8 := K7.trans hKS
            have o8 := Owns.kept o7 hKS (fun b hb hw => absurd (hlt0.out b hw) (Nat.not_lt.2 hb))
            have hX8 := (hKS.block xb (Array.getElem?_eq_some_iff.1 hX7).1 (fun e => absurd (hnX _ e) (Nat.lt_irrefl _))).trans hX7
            have hD8 := (hKS.block (xb + 1) (Array.getElem?_eq_some_iff.1 hD7).1 (fun e => absurd (hnX _ e) (by omega))).trans hD7
            generalize w7.setCell ⟨g.c, 3, none⟩ (.int .u64 (U x)) = w8 at hS K8 o8 hX8 hD8 ⊢
            clear c3 cz hKS H7 K7 o7 hX7 hD7
            have hj : ((x >>> 32) % BitVec.ofNat 64 st1.ways).toNat < st1.ways := gone_lt hok2.out (x >>> 32)
            have hjS : S ((x / 4294967296#64) % BitVec.ofNat 64 st1.ways) = ((((x >>> 32) % BitVec.ofNat 64 st1.ways).toNat : Nat) : Int) := by
              rw [div32]
              unfold S
              exact BitVec.toInt_eq_toNat_of_lt (by omega)
            have hjx : ((x >>> 32) % BitVec.ofNat 64 st1.ways).toNat = ((x >>> 32) % BitVec.ofNat 64 st1.ways).toNat := rfl
            generalize hje : ((x >>> 32) % BitVec.ofNat 64 st1.ways).toNat = j at hj hjS
            have hlay := hide (lay_full wb hi2.out.symm hxx hje f2)
            have hz2 := ways_ne hok2.out
            have c3 : w8.cell? ⟨g.c, 3, none⟩ = some (.int .u64 (U x)) := hS.cf.c3
            have hj0 : 0 ≤ (j : Int) := by omega
            have hj2 : (j : Int) < (st1.ways : Int) := by omega
            clear hjx hje f2 hxx hi2
            obtain ⟨M, hM⟩ : ∃ M, (st1.pl (i * st1.ways + j)).line = M := ⟨_, rfl⟩
            obtain ⟨wm, hwm⟩ : ∃ wm, (st1.pl (i * st1.ways + j)).written = wm := ⟨_, rfl⟩
            rw [hM, hwm] at hlay
            obtain ⟨p0, p2⟩ := rowQ hS hi1 hj hM hwm
            have q1 : w8.cell? ⟨xb + 1, 1, none⟩ = some (.int .u64 0) := by simp [World.cell?, hD8]
            have q2 : w8.cell? ⟨xb + 1, 2, none⟩ = some (.bool false) := by simp [World.cell?, hD8]
            have qz : ∀ o, w8.frozen? ⟨xb + 1, o, none⟩ = false := fun o => by simp [World.frozen?, hD8]
            have hri8 : g.row i < xb := hnX _ (.inr (.inr (.inr ⟨i, by rw [← hset1.out]; exact hi1, rfl⟩)))
            have hn1 : xb + 1 ≠ g.row i := by omega
            have hn2 : g.row i ≠ xb + 1 := by omega
            have hown : (∀ p, u3.ownBlock = some p → p < xb) → ((w8.setCell ⟨xb + 1, 1, none⟩ (.int .u64 (U (M <<< 6)))).setCell ⟨xb + 1, 2, none⟩ (.bool wm)).ownsRow w.heap.size 79 3 u3 ds.length (dnCells ds) := fun hlt => by
              obtain ⟨r1, r2⟩ := o8
              refine ⟨r1, ?_⟩
              rcases r2 with r2 | ⟨gb, cap, cur, s1, s2, s3, s4⟩
              · exact .inl r2
              · have hgb : gb < xb := hlt gb (by rw [s1]; rfl)
                exact .inr ⟨gb, cap, cur, s1, s2, ((heap_setCell_ne _ _ (by show gb ≠ xb + 1; omega)).trans (heap_setCell_ne _ _ (by show gb ≠ xb + 1; omega))).trans s3, s4⟩
            have o9 := hown hu3.out
            have hX9 := ((heap_setCell_ne (w := w8.setCell ⟨xb + 1, 1, none⟩ (.int .u64 (U (M <<< 6)))) ⟨xb + 1, 2, none⟩ (.bool wm) (by show xb ≠ xb + 1; omega)).trans (heap_setCell_ne (w := w8) ⟨xb + 1, 1, none⟩ (.int .u64 (U (M <<< 6))) (by show xb ≠ xb + 1; omega))).trans hX8
            have hD9 : ((w8.setCell ⟨xb + 1, 1, none⟩ (.int .u64 (U (M <<< 6)))).setCell ⟨xb + 1, 2, none⟩ (.bool wm)).heap[xb + 1]? = some (Obj.cells #[.int .u64 (U (L <<< 6)), .int .u64 (U (M <<< 6)), .bool wm] 79) :=
              heap_setCell_same _ (xb + 1) 2 _ _ _ (heap_setCell_same _ (xb + 1) 1 _ _ _ hD8)
            have hK9 : Kept (fun x => xb ≤ x) w8 ((w8.setCell ⟨xb + 1, 1, none⟩ (.int .u64 (U (M <<< 6)))).setCell ⟨xb + 1, 2, none⟩ (.bool wm)) := ((Kept.refl _ w8).setCell _ _ (.inl (Nat.le_succ _))).setCell _ _ (.inl (Nat.le_succ _))
            have H9 := hS.kept hK9 (fun b hb hw => absurd (hnX b (by rw [← hset1.out]; exact hb)) (Nat.not_lt.2 hw))
            have K9 : Kept (g.own s.sets) w ((w8.setCell ⟨xb + 1, 1, none⟩ (.int .u64 (U (M <<< 6)))).setCell ⟨xb + 1, 2, none⟩ (.bool wm)) := (K8.setCell _ _ (.inr (by show w.heap.size ≤ xb + 1; omega))).setCell _ _ (.inr (by show w.heap.size ≤ xb + 1; omega))
            clear hown o8 hX8 hD8 hS hK9 hM hwm K8 hok2
            replace hnX := hide hnX
            clear hwb5 hn1
            replace H9 := hide H9
            replace K9 := hide K9
            replace o9 := hide o9
            replace hX9 := hide hX9
            replace hD9 := hide hD9
            as_aux_lemma =>
              go_upto_region 16 with (fail)
              clear hjS hz2 c3
              generalize x / 4294967296#64 = xq
              as_aux_lemma =>
                go_upto_region 18 with (fail)
                rw [mul64]
                clear p0 p2 q1 q2 qz
                replace H9 := H9.out
                replace hnX := hnX.out
                replace K9 := K9.out
                replace o9 := o9.out
                replace hX9 := hX9.out
                replace hD9 := hD9.out
                generalize (w8.setCell ⟨xb + 1, 1, none⟩ (.int .u64 (U (M <<< 6)))).setCell ⟨xb + 1, 2, none⟩ (.bool wm) = w9 at H9 K9 o9 hX9 hD9 ⊢
                have hrow := H9.r i hi1
                clear hn2 hri8
                as_aux_lemma =>
                  obtain ⟨v0, v1, v2, v3, e0, e1, e2, e3, e9⟩ := rowAll H9 hi1 hj
                  clear hrow
                  have x0 : w9.cell? ⟨xb, 0, none⟩ = some (.int .u64 (U L)) := by simp [World.cell?, hX9]
                  have x2 : w9.cell? ⟨xb, 2, none⟩ = some (.bool wb) := by simp [World.cell?, hX9]
                  have y0 : w9.cell? ⟨xb + 1, 0, none⟩ = some (.int .u64 (U (L <<< 6))) := by simp [World.cell?, hD9]
                  have y1 : w9.cell? ⟨xb + 1, 1, none⟩ = some (.int .u64 (U (M <<< 6))) := by simp [World.cell?, hD9]
                  have y2 : w9.cell? ⟨xb + 1, 2, none⟩ = some (.bool wm) := by simp [World.cell?, hD9]
                  have hrs := H9.newP hi1 hj L true wb
                  have hKR : Kept (g.own s.sets) w9 ((((w9.setCell ⟨g.row i, j * 4, none⟩ (.int .u64 (U L))).setCell ⟨g.row i, j * 4 + 1, none⟩ (.bool true)).setCell ⟨g.row i, j * 4 + 2, none⟩ (.bool wb)).setCell ⟨g.row i, j * 4 + 3, none⟩ (.int .i64 0)) := by
                    have ho : g.own s.sets (g.row i) := .inr (.inr (.inr ⟨i, by rw [← hset1.out]; exact hi1, rfl⟩))
                    exact ((((Kept.refl _ w9).setCell _ _ (.inl ho)).setCell _ _ (.inl ho)).setCell _ _ (.inl ho)).setCell _ _ (.inl ho)
                  have oR := Owns.kept o9 hKR (fun b hb hw => absurd (hlt0.out b hw) (Nat.not_lt.2 hb))
                  have KR := K9.trans hKR
                  have hno : ¬ g.own s.sets (xb + 1) := fun e => absurd (hnX _ e) (by omega)
                  have z0 := hKR.cell y0 hno
                  have z1 := hKR.cell y1 hno
                  have z2 := hKR.cell y2 hno
                  have hri : g.row i < xb := hnX _ (.inr (.inr (.inr ⟨i, by rw [← hset1.out]; exact hi1, rfl⟩)))
                  have hne1 : xb ≠ g.row i := by omega
                  have hne2 : xb + 1 ≠ g.row i := by omega
                  have hne3 : g.row i ≠ xb := by omega
                  have hne4 : g.row i ≠ xb + 1 := by omega
                  replace hrs : HeldR _ g (setPl (seeded (setSl st1 k ⟨0#64, false, false, 0⟩) x) (i * st1.ways + j) ⟨L, true, wb⟩) := hrs
                  have hset8 : (setPl (seeded (setSl st1 k ⟨0#64, false, false, 0⟩) x) (i * st1.ways + j) ⟨L, true, wb⟩).sets = s.sets := hset1.out
                  have hlast : Hid (tickS s (k + 1) = (setSl (fillS (freed (seeded st1 x) M) (i * st1.ways + j) L wb) k ⟨0#64, false, false, 0⟩, ds ++ [⟨L <<< 6, (M <<< 6), wm⟩])) := hide (by rw [hst.out, hx2.out, hlay.out])
                  replace hrs := hide hrs
                  replace KR := hide KR
                  replace oR := hide oR
                  replace z0 := hide z0
                  replace z1 := hide z1
                  replace z2 := hide z2
                  replace hset8 := hide hset8
                  clear hX9 hD9 H9 K9 o9 hKR hset1 hri hnX hst hx2 hlay hno
                  as_aux_lemma =>
                    go_upto_region 19 with (fail)
                    clear x0 x2 y0 y1 y2 e0 e1 e2 e3 e9
                    replace hrs := hrs.out
                    replace KR := KR.out
                    replace oR := oR.out
                    replace z0 := z0.out
                    replace z1 := z1.out
                    replace z2 := z2.out
                    generalize ((((w9.setCell ⟨g.row i, j * 4, none⟩ (.int .u64 (U L))).setCell ⟨g.row i, j * 4 + 1, none⟩ (.bool true)).setCell ⟨g.row i, j * 4 + 2, none⟩ (.bool wb)).setCell ⟨g.row i, j * 4 + 3, none⟩ (.int .i64 0)) = wR at hrs KR oR z0 z1 z2 ⊢
                    have hwR : w.heap.size ≤ wR.heap.size := KR.size
                    have hbase : w.heap.size ≤ (wR.alloc (.cells #[.int .u64 (U (L <<< 6)), .int .u64 (U (M <<< 6)), .bool wm] 79)).heap.size := by rw [World.size_alloc]; omega
                    go_wp2_with (first
                      | (at_builtin; refine wpList_append_own_at _ rfl _ _ 36 rfl w.heap.size 79 i0 _ 3 24 Try.underlying36 hi hz0 hz1 hz2 rfl (by decide) _ _ _ rfl (World.ownsRow.alloc oR _) ⟨wR.heap.size, 0, none⟩ 1 1 [.int .u64 (U (L <<< 6)), .int .u64 (U (M <<< 6)), .bool wm] rfl rfl (came_new wR ⟨L <<< 6, (M <<< 6), wm⟩ _) (by simp [Value.oneCell']) (by unfold maxLen; omega) (by omega) hbase ?_; intro v8 w8 hown8 hg8 hnil8 hloc8; go_frame))
                    obtain ⟨k8a, k8b⟩ := app_kept KR oR hg8
                    have H8 := hrs.kept k8b (fun b hb hw => absurd (hlt0.out b (by rw [hset8.out] at hb; exact hb)) (Nat.not_lt.2 hw))
                    have hlen1 : Hid ((ds ++ [(⟨L <<< 6, (M <<< 6), wm⟩ : Dn)]).length = ds.length + 1 ∧ dnCells (ds ++ [⟨L <<< 6, (M <<< 6), wm⟩]) = dnCells ds ++ [.int .u64 (U (L <<< 6)), .int .u64 (U (M <<< 6)), .bool wm]) := hide ⟨by simp, by rw [dnCells_append]; rfl⟩
                    clear hg8 hnil8 hloc8 hrs KR oR z0 z1 z2
                    go_roundw
                    case rel => exact ⟨k + 1, hk1, by simp, by rw [hlast.out]; exact H8.same rfl rfl rfl rfl rfl rfl rfl, k8a, by rw [hlast.out, hlen1.out.1, hlen1.out.2]; exact hown8⟩
                    case measure => exact hms.out
          · have f1' : freeQ (setQ (setSl st1 k ⟨0#64, false, false, 0⟩) i) 0 (setSl st1 k ⟨0#64, false, false, 0⟩).ways = some j := f1
            rw [f1']
            replace hj : j < st1.ways := by omega
            have hlay := hide (lay_free wb hi2.out.symm hj f2)
            have hj0 : 0 ≤ (j : Int) := by omega
            have hj2 : (j : Int) < (st1.ways : Int) := by omega
            clear f1 f1' f2 f3 hi2 hok2
            unfold optV
            obtain ⟨v0, v1, v2, v3, e0, e1, e2, e3, e9⟩ := rowAll H7 hi1 hj
            clear hrow
            have x0 : w7.cell? ⟨xb, 0, none⟩ = some (.int .u64 (U L)) := by simp [World.cell?, hX7]
            have x2 : w7.cell? ⟨xb, 2, none⟩ = some (.bool wb) := by simp [World.cell?, hX7]
            have y0 : w7.cell? ⟨xb + 1, 0, none⟩ = some (.int .u64 (U (L <<< 6))) := by simp [World.cell?, hD7]
            have y1 : w7.cell? ⟨xb + 1, 1, none⟩ = some (.int .u64 0) := by simp [World.cell?, hD7]
            have y2 : w7.cell? ⟨xb + 1, 2, none⟩ = some (.bool false) := by simp [World.cell?, hD7]
            have hrs := H7.newP hi1 hj L true wb
            have hKR : Kept (g.own s.sets) w7 ((((w7.setCell ⟨g.row i, j * 4, none⟩ (.int .u64 (U L))).setCell ⟨g.row i, j * 4 + 1, none⟩ (.bool true)).setCell ⟨g.row i, j * 4 + 2, none⟩ (.bool wb)).setCell ⟨g.row i, j * 4 + 3, none⟩ (.int .i64 0)) := by
              have ho : g.own s.sets (g.row i) := .inr (.inr (.inr ⟨i, by rw [← hset1.out]; exact hi1, rfl⟩))
              exact ((((Kept.refl _ w7).setCell _ _ (.inl ho)).setCell _ _ (.inl ho)).setCell _ _ (.inl ho)).setCell _ _ (.inl ho)
            have oR := Owns.kept o7 hKR (fun b hb hw => absurd (hlt0.out b hw) (Nat.not_lt.2 hb))
            have KR := K7.trans hKR
            have hno : ¬ g.own s.sets (xb + 1) := fun e => absurd (hnX _ e) (by omega)
            have z0 := hKR.cell y0 hno
            have z1 := hKR.cell y1 hno
            have z2 := hKR.cell y2 hno
            have hri : g.row i < xb := hnX _ (.inr (.inr (.inr ⟨i, by rw [← hset1.out]; exact hi1, rfl⟩)))
            have hne1 : xb ≠ g.row i := by omega
            have hne2 : xb + 1 ≠ g.row i := by omega
            have hne3 : g.row i ≠ xb := by omega
            have hne4 : g.row i ≠ xb + 1 := by omega
            replace hrs : HeldR _ g (setPl (setSl st1 k ⟨0#64, false, false, 0⟩) (i * st1.ways + j) ⟨L, true, wb⟩) := hrs
            have hset8 : (setPl (setSl st1 k ⟨0#64, false, false, 0⟩) (i * st1.ways + j) ⟨L, true, wb⟩).sets = s.sets := hset1.out
            have hlast : Hid (tickS s (k + 1) = (setSl (fillS st1 (i * st1.ways + j) L wb) k ⟨0#64, false, false, 0⟩, ds ++ [⟨L <<< 6, 0#64, false⟩])) := hide (by rw [hst.out, hx2.out, hlay.out])
            replace hrs := hide hrs
            replace KR := hide KR
            replace oR := hide oR
            replace z0 := hide z0
            replace z1 := hide z1
            replace z2 := hide z2
            replace hset8 := hide hset8
            clear hX7 hD7 H7 K7 o7 hKR hset1 hri hnX hst hx2 hlay hno
            as_aux_lemma =>
              go_upto_region 19 with (fail)
              clear x0 x2 y0 y1 y2 e0 e1 e2 e3 e9
              replace hrs := hrs.out
              replace KR := KR.out
              replace oR := oR.out
              replace z0 := z0.out
              replace z1 := z1.out
              replace z2 := z2.out
              generalize ((((w7.setCell ⟨g.row i, j * 4, none⟩ (.int .u64 (U L))).setCell ⟨g.row i, j * 4 + 1, none⟩ (.bool true)).setCell ⟨g.row i, j * 4 + 2, none⟩ (.bool wb)).setCell ⟨g.row i, j * 4 + 3, none⟩ (.int .i64 0)) = wR at hrs KR oR z0 z1 z2 ⊢
              have hwR : w.heap.size ≤ wR.heap.size := KR.size
              have hbase : w.heap.size ≤ (wR.alloc (.cells #[.int .u64 (U (L <<< 6)), .int .u64 (U 0#64), .bool false] 79)).heap.size := by rw [World.size_alloc]; omega
              go_wp2_with (first
                | (at_builtin; refine wpList_append_own_at _ rfl _ _ 36 rfl w.heap.size 79 i0 _ 3 24 Try.underlying36 hi hz0 hz1 hz2 rfl (by decide) _ _ _ rfl (World.ownsRow.alloc oR _) ⟨wR.heap.size, 0, none⟩ 1 1 [.int .u64 (U (L <<< 6)), .int .u64 (U 0#64), .bool false] rfl rfl (came_new wR ⟨L <<< 6, 0#64, false⟩ _) (by simp [Value.oneCell']) (by unfold maxLen; omega) (by omega) hbase ?_; intro v8 w8 hown8 hg8 hnil8 hloc8; go_frame))
              obtain ⟨k8a, k8b⟩ := app_kept KR oR hg8
              have H8 := hrs.kept k8b (fun b hb hw => absurd (hlt0.out b (by rw [hset8.out] at hb; exact hb)) (Nat.not_lt.2 hw))
              have hlen1 : Hid ((ds ++ [(⟨L <<< 6, 0#64, false⟩ : Dn)]).length = ds.length + 1 ∧ dnCells (ds ++ [⟨L <<< 6, 0#64, false⟩]) = dnCells ds ++ [.int .u64 (U (L <<< 6)), .int .u64 (U 0#64), .bool false]) := hide ⟨by simp, by rw [dnCells_append]; rfl⟩
              clear hg8 hnil8 hloc8 hrs KR oR z0 z1 z2
              go_roundw
              case rel => exact ⟨k + 1, hk1, by simp, by rw [hlast.out]; exact H8.same rfl rfl rfl rfl rfl rfl rfl, k8a, by rw [hlast.out, hlen1.out.1, hlen1.out.2]; exact hown8⟩
              case measure => exact hms.out
        · have ht1 : tick1 st k = (setSl st k { st.sl k with left := m }, []) := by
            unfold tick1
            rw [if_pos i1, hm, if_neg (by omega)]; rfl
          rw [ht1, List.append_nil] at hst
          replace hst := hide hst
          have hm1 : ¬ (m : Int) = 0 := by omega
          have hm2 : (1 : Int) < (m : Int) + 1 := by omega
          clear ht1 hm
          have hS := hh.left hkst m
          have hoS := Owns.kept ho (S := g.own s.sets) ((Kept.refl _ _).setCell ⟨g.s, k * 4 + 3, none⟩ (.int .i64 ((m : Nat) : Int)) (.inl (.inr (.inr (.inl rfl))))) (fun b hb hw => absurd (hlt0.out b hw) (Nat.not_lt.2 hb))
          have hKS : Kept (g.own s.sets) w (wr.setCell ⟨g.s, k * 4 + 3, none⟩ (.int .i64 ((m : Nat) : Int))) := hK.setCell _ _ (.inl (.inr (.inr (.inl rfl))))
          go_wp2
          go_roundw
          case rel => exact ⟨k + 1, hk1, by simp, by rw [hst.out]; exact hS.alloc _, hKS.alloc _, by rw [hst.out]; exact hoS.alloc _⟩
          case measure => exact hms
    · obtain rfl : k = s.ns := by omega
      have c1 : wr.cell? ⟨g.c, 1, none⟩ = some (.slice (some ⟨g.s, 0, none⟩) s.ns g.ks) := by rw [← tick_ns s s.ns]; exact hh.cf.c1
      go_wp2
      go_ret
      exact ⟨_, rfl, ho, hh, hK⟩
end Go.Proofs.Ytpflodhnniochaa
