/-
  The memory in the heap: Pages.
-/
import Derived.Test.YtnbifbllemcjfaaRamF
import Derived.Test.YtnbifbllemcjfaaRamS
namespace Go.Proofs.Ytnbifbllemcjfaa
set_option linter.unusedVariables false
open Go.RowKit Go.Maps

/-- Is a page all noughts? -/
def pageZ (M : Nat → BitVec 8) (n : Nat) : Bool := samePg (fun i => M (n * 4096 + i)) fun _ => 0#8
theorem pageZ_iff {M : Nat → BitVec 8} {n : Nat} : pageZ M n = true ↔ ∀ i, i < 4096 → M (n * 4096 + i) = 0#8 := samePg_iff
/-- The pages that have a byte that isn't 0. -/
def pagesL (M : Nat → BitVec 8) : List Nat := ((List.range 256).map (· + 524288)).filter fun n => !pageZ M n
def pagesI (M : Nat → BitVec 8) : List Int := (pagesL M).map fun n => ((n * 4096 : Nat) : Int)
theorem mem_pagesL {M : Nat → BitVec 8} {n : Nat} : n ∈ pagesL M ↔ InP n ∧ pageZ M n = false := by
  unfold pagesL InP
  rw [List.mem_filter, List.mem_map]
  constructor
  · rintro ⟨⟨a, ha, rfl⟩, h⟩
    have := List.mem_range.1 ha
    exact ⟨by omega, by simpa using h⟩
  · rintro ⟨h1, h2⟩
    exact ⟨⟨n - 524288, List.mem_range.2 (by omega), by omega⟩, by rw [h2]; rfl⟩
theorem rising_pagesL (M : Nat → BitVec 8) : (pagesL M).Pairwise (· < ·) := by
  refine List.Pairwise.filter _ (List.pairwise_map.2 ?_)
  exact (List.pairwise_lt_range).imp fun {a b} h => by omega
theorem rising_pagesI (M : Nat → BitVec 8) : (pagesI M).Pairwise (· < ·) := List.pairwise_map.2 ((rising_pagesL M).imp fun {a b} h => by omega)
theorem mem_pagesI {M : Nat → BitVec 8} {x : Int} : x ∈ pagesI M ↔ ∃ n, x = ((n * 4096 : Nat) : Int) ∧ InP n ∧ pageZ M n = false := by
  unfold pagesI
  rw [List.mem_map]
  constructor
  · rintro ⟨n, hn, rfl⟩; exact ⟨n, rfl, mem_pagesL.1 hn⟩
  · rintro ⟨n, rfl, hn⟩; exact ⟨n, mem_pagesL.2 hn, rfl⟩
theorem length_pagesI (M : Nat → BitVec 8) : (pagesI M).length ≤ 256 := by
  unfold pagesI pagesL
  rw [List.length_map]
  exact Nat.le_trans (List.length_filter_le _ _) (by simp)
theorem sorted_ext : ∀ {l k : List Int}, l.Pairwise (· < ·) → k.Pairwise (· < ·) → (∀ x, x ∈ l ↔ x ∈ k) → l = k
  | [], [], _, _, _ => rfl
  | [], b :: k, _, _, h => absurd ((h b).2 (by simp)) (by simp)
  | a :: l, [], _, _, h => absurd ((h a).1 (by simp)) (by simp)
  | a :: l, b :: k, h1, h2, h => by
    obtain ⟨a1, a2⟩ := List.pairwise_cons.1 h1
    obtain ⟨b1, b2⟩ := List.pairwise_cons.1 h2
    have hab : a = b := by
      rcases List.mem_cons.1 ((h a).1 (by simp)) with e | e
      · exact e
      · rcases List.mem_cons.1 ((h b).2 (by simp)) with e' | e'
        · exact e'.symm
        · have := b1 a e
          have := a1 b e'
          omega
    subst hab
    rw [sorted_ext a2 b2 fun x => ?_]
    constructor
    · intro hx
      rcases List.mem_cons.1 ((h x).1 (List.mem_cons_of_mem _ hx)) with e | e
      · subst e; have := a1 _ hx; omega
      · exact e
    · intro hx
      rcases List.mem_cons.1 ((h x).2 (List.mem_cons_of_mem _ hx)) with e | e
      · subst e; have := b1 _ hx; omega
      · exact e
/-- What was collected in any order is sorted to the pages. -/
theorem sorted_pages {M : Nat → BitVec 8} {L : List Int} (hn : L.Nodup) (hm : ∀ x, x ∈ L ↔ x ∈ pagesI M) : (L.mergeSort fun x y => decide (x ≤ y)) = pagesI M := by
  have hp : (L.mergeSort fun x y => decide (x ≤ y)).Perm L := List.mergeSort_perm _ _
  have hs : (L.mergeSort fun x y => decide (x ≤ y)).Pairwise fun x y => decide (x ≤ y) = true := List.pairwise_mergeSort (fun a b c h1 h2 => by simp at *; omega) (fun a b => by simp; omega) L
  have hnd : (L.mergeSort fun x y => decide (x ≤ y)).Nodup := hp.nodup_iff.2 hn
  refine sorted_ext ?_ (rising_pagesI M) fun x => by rw [hp.mem_iff]; exact hm x
  refine List.Pairwise.imp₂ (fun {a b} h1 h2 => ?_) hs hnd
  simp at h1
  omega
/-- What the range has collected. -/
structure Coll (M : Nat → BitVec 8) (f : Nat → Option Nat) (left : Lit → Bool) (cnt N : Nat) (L : List Int) : Prop where
  mem : ∀ x, x ∈ L ↔ ∃ n : BitVec 64, x = ((n.toNat * 4096 : Nat) : Int) ∧ (f n.toNat).isSome = true ∧ pageZ M n.toNat = false ∧ left (kl n) = false
  nodup : L.Nodup
  len : L.length + cnt ≤ N
theorem infoW : (Try.prog.info? 30).map (fun i => (i.zero, i.size, i.bytes)) = some (some (.int .u64 0), 1, 8) := by kernel_rfl
theorem mul_page {n : BitVec 64} (h : InP n.toNat) : U (n * 4096#64) = ((n.toNat * 4096 : Nat) : Int) := by
  unfold InP at h
  unfold U
  rw [BitVec.toNat_mul]
  have : (4096#64).toNat = 4096 := rfl
  rw [this, Nat.mod_eq_of_lt (by omega)]
theorem Coll.skip {M : Nat → BitVec 8} {f : Nat → Option Nat} {left : Lit → Bool} {cnt cnt1 N : Nat} {L : List Int} (h : Coll M f left cnt N L) {n : BitVec 64} (hz : pageZ M n.toNat = true) (hlt : cnt1 < cnt) : Coll M f (fun z => left z && !z.sameKey (kl n)) cnt1 N L := by
  refine ⟨fun x => ?_, h.nodup, by have := h.len; omega⟩
  rw [h.mem]
  constructor
  · rintro ⟨j, r1, r2, r3, r4⟩; exact ⟨j, r1, r2, r3, by rw [r4]; rfl⟩
  · rintro ⟨j, r1, r2, r3, r4⟩
    refine ⟨j, r1, r2, r3, ?_⟩
    rw [same_kl] at r4
    by_cases e : j = n
    · subst e; rw [hz] at r3; cases r3
    · rw [decide_eq_false e] at r4; simpa using r4
theorem Coll.take {M : Nat → BitVec 8} {f : Nat → Option Nat} {left : Lit → Bool} {cnt cnt1 N : Nat} {L : List Int} (h : Coll M f left cnt N L) {n : BitVec 64} (hf : (f n.toNat).isSome = true) (hz : pageZ M n.toNat = false) (hl : left (kl n) = true) (hlt : cnt1 < cnt) : Coll M f (fun z => left z && !z.sameKey (kl n)) cnt1 N (L ++ [((n.toNat * 4096 : Nat) : Int)]) := by
  have hnot : ((n.toNat * 4096 : Nat) : Int) ∉ L := fun e => by
    obtain ⟨j, r1, r2, r3, r4⟩ := (h.mem _).1 e
    have : j = n := BitVec.eq_of_toNat_eq (by omega)
    subst this
    rw [hl] at r4; cases r4
  refine ⟨fun x => ?_, ?_, by rw [List.length_append, List.length_singleton]; have := h.len; omega⟩
  · rw [List.mem_append, List.mem_singleton, h.mem]
    constructor
    · rintro (⟨j, r1, r2, r3, r4⟩ | rfl)
      · exact ⟨j, r1, r2, r3, by rw [r4]; rfl⟩
      · exact ⟨n, rfl, hf, hz, by rw [same_kl]; simp⟩
    · rintro ⟨j, r1, r2, r3, r4⟩
      rw [same_kl] at r4
      by_cases e : j = n
      · subst e; exact .inr r1
      · rw [decide_eq_false e] at r4
        exact .inl ⟨j, r1, r2, r3, by simpa using r4⟩
  · rw [List.nodup_append]
    exact ⟨h.nodup, by simp, fun a ha b hb e => by rw [List.mem_singleton] at hb; subst hb; exact hnot (e ▸ ha)⟩
theorem news_num {w : World} {x : Int} {t : TypeId} : ∀ j u, ([.int .u64 x] : List Value)[j]? = some u → (w.alloc (.cells #[.int .u64 x] t)).cell? ((⟨w.heap.size, 0, none⟩ : Addr).add j) = some u := by
  intro j u hu
  cases j with
  | zero => cases hu; show (w.alloc _).cell? ⟨w.heap.size, 0, none⟩ = _; unfold World.cell?; rw [heap_alloc_new]; rfl
  | succ j => simp at hu
theorem shift_page {n : BitVec 64} (h : InP n.toNat) : U (n <<< 12) = ((n.toNat * 4096 : Nat) : Int) := by
  unfold InP at h
  unfold U
  rw [BitVec.toNat_shiftLeft, Nat.shiftLeft_eq, Nat.mod_eq_of_lt (by omega)]
theorem cell_two (w : World) (p : Obj) (x : Value) (t : TypeId) : ∀ j u, [x][j]? = some u → ((w.alloc p).alloc (.cells #[x] t)).cell? ((⟨w.heap.size + 1, 0, none⟩ : Addr).add j) = some u := by
  have h := cell_one_new (w.alloc p) x t
  rw [World.size_alloc] at h
  exact h
theorem cellsB {w : World} {b : Nat} {v : Value} {t : TypeId} (h : w.heap[b]? = some (.cells #[v] t (0, 0))) : w.cell? ⟨b, 0, none⟩ = some v := by simp [World.cell?, h]
theorem frozenB {w : World} {b : Nat} {v : Value} {t : TypeId} (h : w.heap[b]? = some (.cells #[v] t (0, 0))) : w.frozen? ⟨b, 0, none⟩ = false := by simp [World.frozen?, h]
theorem zeroC58 : Try.zeroCells58 = pg fun _ => 0#8 := by
  have h1 := run_zero58 default
  rw [Try.zeroValue58] at h1
  simp only [Result.ok.injEq, Value.agg.injEq, and_true] at h1
  exact h1
theorem eq58z (c : Nat → BitVec 8) (w : World) : (Op.equalIn 10000 58 (.agg (pg c)) (.agg Try.zeroCells58)).run Try.prog w = .ok (samePg c fun _ => 0#8) w := by
  rw [zeroC58]; exact eq58 c _ w
set_option maxRecDepth 20000 in
set_option maxHeartbeats 4000000 in
attribute [local go_sem ↓] loadAt_58 eq58z in
theorem Pages_any (w : World) (g : G) (M : Nat → BitVec 8) (h : Held w g M) :
    Calls Try.prog 18 #[.pointer (some ⟨g.q, 0, none⟩)] w fun e w' => ∃ v, e = .returned v ∧ NRow w' w.heap.size v (pagesI M) ∧ Still w w' := by
  obtain ⟨i0, hi, hz0, hz1, hz2⟩ := info_parts infoW
  have hqlt : g.q < w.heap.size := h.lt (.inl rfl)
  have hgm : g.m < w.heap.size := h.m.lt
  have p0 : ∀ o, (w.alloc o).cell? ⟨g.q, 0, none⟩ = some (.map (some g.m)) := fun o => by rw [World.cell?_alloc_past _ _ _ hqlt]; exact h.p0
  have hm1 : HasMap (w.alloc (.cells #[.slice none 0 0] 37)) g.m g.bl := h.m.kept (Below.heap_alloc _ _ _ hgm)
  obtain ⟨D, hown, hr⟩ := hm1
  have hsz : Maps.size D ≤ 256 := size_le hr (hown.entries lawP) h.inP
  go_enter Try.func18, Try.ntmps18
  go_wp2_with (at_range; refine wpList_range_own _ rfl _ 47 rfl 56 57 lawP Try.underlying47 _ g.m (Maps.size D) D rfl hown ?_; intro w0 hrg0 hg0 hs0)
  go_frame
  have kw0 : Still w w0 := ((Kept.refl _ w).alloc _).grown hg0 (fun p hp => by cases hp)
  have hP0 : ∀ n b, g.bl n = some b → PageAt w0 b (fun i => M (n * 4096 + i)) ∧ b < w.heap.size := fun n b hb => ⟨(h.pages n b hb).kept (kw0.block b (h.pages n b hb).lt (fun e => e)), (h.pages n b hb).lt⟩
  have hB0 : w0.heap[w.heap.size]? = some (.cells #[.slice none 0 0] 37 (0, 0)) := by
    have := hg0.block w.heap.size (by simp) (by simp)
    rw [this, heap_alloc_new]
  have hin := h.inP
  have hz := h.zero
  have hw0 : w0.heap.size = w.heap.size + 2 := by rw [hs0, World.size_alloc]
  have hrr : (w.alloc (.cells #[.slice none 0 0] 37)).heap.size = w.heap.size + 1 := World.size_alloc _ _
  rw [hrr] at hrg0 ⊢
  replace hP0 := hide hP0
  replace hin := hide hin
  replace hz := hide hz
  replace hw0 := hide hw0
  clear h hown hg0 p0 hrr hs0
  go_loopw [5] (fun _ wr => ∃ (left : Lit → Bool) (cnt : Nat) (v : Value) (L : List Int), wr.ranges Try.prog 56 ptrElem g.m (w.heap.size + 1) (Maps.size D) D left cnt ∧ wr.heap[w.heap.size]? = some (.cells #[v] 37 (0, 0)) ∧ NRow wr (w.heap.size + 2) v L ∧ Coll M g.bl left cnt (Maps.size D) L ∧ Kept (fun b => b = w.heap.size ∨ b = w.heap.size + 1) w0 wr)
    (fun _ wr => wr.rangeLeft g.m (w.heap.size + 1))
  case atStart => exact ⟨_, _, _, [], hrg0, hB0, ⟨rfl, .inl ⟨rfl, rfl⟩⟩, ⟨fun x => ⟨fun e => (by cases e), fun ⟨n, r1, r2, r3, r4⟩ => (by rw [hr.has, r2] at r4; cases r4)⟩, List.nodup_nil, by simp⟩, Kept.refl _ _⟩
  case round =>
    obtain ⟨left, cnt, v, L, hrg, hcell, hrow, hC, hK⟩ := hrel
    have hrlt := ranges_lt hrg
    go_wp2_with (at_next; refine wpList_next_ranges _ rfl _ rfl 56 lawP ptrElem (fun x : Value => .agg #[x]) ptrV keyShape elemShape g.m (w.heap.size + 1) (Maps.size D) D left cnt rfl hrg ?_ ?_)
    · intro hc0 hl0
      have hll : L.length < 1000000 := by have := hC.len; omega
      have hne : ∀ b, v.ownBlock = some b → w.heap.size ≠ b := fun b hb e => by have := (hrow.lt b hb).1; omega
      have hmem : ∀ x, x ∈ L ↔ x ∈ pagesI M := fun x => by
        rw [hC.mem, mem_pagesI]
        constructor
        · rintro ⟨n, r1, r2, r3, r4⟩
          obtain ⟨b, hb⟩ := Option.isSome_iff_exists.1 r2
          exact ⟨n.toNat, r1, hin.out _ b hb, r3⟩
        · rintro ⟨n, r1, r2, r3⟩
          have hn : (BitVec.ofNat 64 n).toNat = n := by unfold InP at r2; rw [BitVec.toNat_ofNat]; omega
          refine ⟨BitVec.ofNat 64 n, by rw [hn]; exact r1, ?_, by rw [hn]; exact r3, hl0 _⟩
          rw [hn]
          cases hb : g.bl n with
          | none =>
            have := hz.out n hb
            rw [← pageZ_iff, r3] at this
            cases this
          | some b => rfl
      have hsl := sorted_pages hC.nodup hmem
      have hln : (pagesI M).length = L.length := by rw [← hsl, List.length_mergeSort]
      have kwr : Still w wr := kw0.start (hK.mono fun b hb => .inr (by omega))
      replace hmem := hide hmem
      have hcb := cellsB hcell
      go_wp2_with fail
      go_at_call 29
      refine (sortU wr (w.heap.size + 2) w.heap.size v L hrow hll hcb (by omega) hne).mono ?_
      rintro e w3 ⟨rfl, ho3, hg3⟩
      have hc3 : w3.cell? ⟨w.heap.size, 0, none⟩ = some v := by
        rw [← hcb]
        unfold World.cell?
        rw [hg3.block w.heap.size (by omega) (fun e => hne _ e.symm rfl)]
      have hend : NRow w3 w.heap.size v (pagesI M) := by
        have h1 : NRow w3 (w.heap.size + 2) v (pagesI M) := by
          unfold NRow
          rw [hsl] at ho3
          rw [hln]
          exact ho3
        exact h1.low (by omega)
      have hend2 : Still w w3 := kwr.grown hg3 fun p hp => .inr (by have := (hrow.lt p hp).1; omega)
      clear hrg hrow hC hK ho3 hg3 hsl hln hcell
      go_wp2_with fail
      go_ret
      exact ⟨v, rfl, hend, hend2⟩
    · intro x c k d ps w2 cnt1 hkx hlk hv hat hrg1 hlt hg1 hs1 hen
      obtain ⟨n, b, rfl, rfl, rfl, hfb⟩ := entry_is hr hkx hv hat
      have hnP : InP n.toNat := hin.out _ _ hfb
      obtain ⟨hpb, hbw⟩ := hP0.out _ _ hfb
      have hK2 : Kept (fun b => b = w.heap.size ∨ b = w.heap.size + 1) w0 w2 := hK.grown hg1 (fun p hp => .inl (by cases hp; exact .inr rfl))
      have hpb2 : PageAt w2 b (fun i => M (n.toNat * 4096 + i)) := hpb.kept (hK2.block b hpb.lt (by omega))
      have hldA : (ldp (.pointer (some ⟨b, 0, none⟩))).run Try.prog (w2.alloc (.cells #[.int .u64 (U n)] 56)) = .ok (.agg (pg fun i => M (n.toNat * 4096 + i))) (w2.alloc (.cells #[.int .u64 (U n)] 56)) :=
        (hpb2.kept (w' := w2.alloc (.cells #[.int .u64 (U n)] 56)) (Below.heap_alloc _ _ _ hpb2.lt)).ld
      have hs2 : wr.heap.size ≤ w2.heap.size := hg1.size
      have hcell2 : w2.heap[w.heap.size]? = some (.cells #[v] 37 (0, 0)) := (hg1.block w.heap.size (by omega) (by simp)).trans hcell
      have hc2 : ∀ o, (w2.alloc o).cell? ⟨w.heap.size, 0, none⟩ = some v := fun o => by rw [World.cell?_alloc_past _ _ _ (by show w.heap.size < w2.heap.size; omega)]; exact cellsB hcell2
      have hrow2 : NRow w2 (w.heap.size + 2) v L := hrow.kept (S := fun b => b = w.heap.size + 1) ((Kept.refl _ wr).grown hg1 (fun p hp => .inl (by cases hp; rfl))) (fun b hb e => by have := (hrow.lt b hb).1; omega)
      have hpv : ptrV (some b) = .pointer (some ⟨b, 0, none⟩) := rfl
      rw [hpv] at hen ⊢
      have hrl := hrg.left_eq
      replace hr := hide hr
      clear hkx hv hat hs1 hpv hpb2 hpb hK hrow hcell hg1
      cases hpz : pageZ M n.toNat
      · have hpz' : samePg (fun i => M (n.toNat * 4096 + i)) (fun _ => 0#8) = false := hpz
        have hC2 := hC.take (n := n) (by rw [hfb]; rfl) hpz hlk hlt
        have hle2 := hC2.len
        rw [List.length_append, List.length_singleton] at hle2
        have q1 : L.length + 1 ≤ maxLen := by rw [maxLen_is]; omega
        have q2 : (L.length + 1) * 8 ≤ 140737488355328 := by omega
        have q3 : w.heap.size + 2 ≤ w2.heap.size + 1 + 1 := by omega
        have hsh := shift_page hnP
        have hb2 : ∀ o o', ((w2.alloc o).alloc o').heap[w.heap.size]? = some (.cells #[v] 37 (0, 0)) := fun o o' => by
          rw [Below.heap_alloc _ _ _ (by rw [World.size_alloc]; omega), Below.heap_alloc _ _ _ (by omega)]; exact hcell2
        have hne : ∀ b, v.ownBlock = some b → w.heap.size ≠ b := fun b hb e => by have := (hrow2.lt b hb).1; omega
        replace hsh := hide hsh
        replace hb2 := hide hb2
        clear hC hle2
        go_wp2_with (at_builtin; refine wpList_append_own_at _ rfl _ _ 37 rfl (w.heap.size + 2) 30 i0 (.int .u64 0) 1 8 Try.underlying37 hi hz0 hz1 hz2 rfl (by decide) _ _ _ rfl ((World.ownsRow.alloc (World.ownsRow.alloc hrow2 _)) _) ⟨w2.heap.size + 1, 0, none⟩ 1 1 [.int .u64 (U (n <<< 12))] rfl rfl (cell_two _ _ _ _) (fun u hu => by simp at hu; subst hu; rfl) q1 q2 (by simp only [World.size_alloc]; exact q3) ?_; intro v' w3 hown' hg3 hnil' hloc; go_frame
                     obtain ⟨b', cap', rfl, hb1', hb2', -⟩ := owns_cells hown' (Nat.succ_pos _)
                     have hB3 : w3.heap[w.heap.size]? = some (.cells #[v] 37 (0, 0)) := (hg3.block w.heap.size (by simp; omega) (fun e => hne _ e.symm rfl)).trans (hb2.out _ _)
                     have hB4 := cellsB hB3
                     have hB5 := frozenB hB3)
        have hlv : ∀ p, v.ownBlock = some p → w.heap.size + 2 ≤ p := fun p hp => (hrow2.lt p hp).1
        have hg3' : Kept (fun b => w.heap.size + 2 ≤ b) w2 w3 := (((Kept.refl _ w2).alloc _).alloc _).grown hg3 (fun p hp => .inl (hlv p hp))
        have h25 : Kept (fun b => b = w.heap.size ∨ w.heap.size + 2 ≤ b) w2 (w3.setCell ⟨w.heap.size, 0, none⟩ (.slice (some ⟨b', 0, none⟩) (L.length + 1) cap')) := (hg3'.mono fun b e => .inr e).setCell _ _ (.inl (.inl rfl))
        have h35 : Kept (fun b => b = w.heap.size) w3 (w3.setCell ⟨w.heap.size, 0, none⟩ (.slice (some ⟨b', 0, none⟩) (L.length + 1) cap')) := (Kept.refl _ w3).setCell _ _ (.inl rfl)
        have hrow3 : NRow w3 (w.heap.size + 2) (.slice (some ⟨b', 0, none⟩) (L.length + 1) cap') (L ++ [((n.toNat * 4096 : Nat) : Int)]) := by
          unfold NRow
          rw [List.length_append, List.length_singleton, List.map_append]
          rw [hsh.out] at hown'
          exact hown'
        have hrow5 := hrow3.kept h35 (fun p hp e => by have := (hrow3.lt p hp).1; omega)
        have hB6 : (w3.setCell ⟨w.heap.size, 0, none⟩ (.slice (some ⟨b', 0, none⟩) (L.length + 1) cap')).heap[w.heap.size]? = some (.cells #[.slice (some ⟨b', 0, none⟩) (L.length + 1) cap'] 37 (0, 0)) := heap_setCell_same _ _ _ _ _ _ hB3
        generalize w3.setCell ⟨w.heap.size, 0, none⟩ (.slice (some ⟨b', 0, none⟩) (L.length + 1) cap') = w5 at *
        have hrg5 := ranges_kept hrg1 (h25.block _ (ranges_lt hrg1).1 (by omega)) (h25.block _ (ranges_lt hrg1).2 (by omega))
        have hK5 : Kept (fun b => b = w.heap.size ∨ b = w.heap.size + 1) w0 w5 := hK2.start (h25.mono fun b e => by have := hw0.out; omega)
        have hms : w5.rangeLeft g.m (w.heap.size + 1) < wr.rangeLeft g.m (w.heap.size + 1) := by rw [hrg5.left_eq, hrl]; exact hlt
        go_roundw
        case rel => exact ⟨_, cnt1, _, _, hrg5, hB6, hrow5, hC2, hK5⟩
        case measure => exact hms
      · have hpz' : samePg (fun i => M (n.toNat * 4096 + i)) (fun _ => 0#8) = true := hpz
        have hC2 := hC.skip (n := n) hpz hlt
        clear hC
        go_wp2_with fail
        have h25 : Still w2 (w2.alloc (.cells #[.int .u64 (U n)] 56)) := (Kept.refl _ w2).alloc _
        have hrg5 := ranges_kept hrg1 (h25.block _ (ranges_lt hrg1).1 (fun e => e)) (h25.block _ (ranges_lt hrg1).2 (fun e => e))
        have hrow5 := hrow2.still h25
        have hB6 := (h25.block w.heap.size (by omega) (fun e => e)).trans hcell2
        have hK5 := hK2.still h25
        generalize w2.alloc (.cells #[.int .u64 (U n)] 56) = w5 at *
        have hms : w5.rangeLeft g.m (w.heap.size + 1) < wr.rangeLeft g.m (w.heap.size + 1) := by rw [hrg5.left_eq, hrl]; exact hlt
        go_roundw
        case rel => exact ⟨_, cnt1, _, _, hrg5, hB6, hrow5, hC2, hK5⟩
        case measure => exact hms
end Go.Proofs.Ytnbifbllemcjfaa
