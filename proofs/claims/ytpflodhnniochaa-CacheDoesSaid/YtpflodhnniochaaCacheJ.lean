/-
  Walk: Copy.
-/
import Derived.Test.YtpflodhnniochaaCacheF
import Derived.Lib.SliceRun
namespace Go.Proofs.Ytpflodhnniochaa
set_option linter.unusedVariables false
open Go.RowKit Go.Maps

theorem infoP' : (Try.prog.info? 69).map (fun i => (i.zero, i.size, i.bytes)) = some (some (.agg #[.int .u64 0, .bool false, .bool false]), 3, 16) := by kernel_rfl
theorem infoS' : (Try.prog.info? 72).map (fun i => (i.zero, i.size, i.bytes)) = some (some (.agg #[.int .u64 0, .bool false, .bool false, .int .i64 0]), 4, 24) := by kernel_rfl
theorem take_news {w : World} {b k : Nat} {cs : Array Value} {t : TypeId} (hb : w.heap[b]? = some (.cells cs t (0, 0))) : ∀ j u, (cs.toList.take k)[j]? = some u → w.cell? ((⟨b, 0, none⟩ : Addr).add j) = some u := fun j u hu => by
  refine World.news_of_block hb j u ?_
  rw [List.getElem?_take] at hu
  split at hu
  · exact hu
  · cases hu

set_option maxRecDepth 100000 in
theorem CloneP (w : World) (b n cap : Nat) (cs : Array Value) (hb : w.heap[b]? = some (.cells cs 69 (0, 0))) (hn : n * 3 ≤ cs.size) (hn1 : 1 ≤ n ∧ n ≤ 512) (h1 : ∀ v ∈ cs.toList.take (n * 3), v.oneCell' = true) :
    Calls Try.prog 33 #[.slice (some ⟨b, 0, none⟩) n cap] w fun e w' =>
      ∃ v, e = .returned v ∧ w'.ownsRow w.heap.size 69 3 v n (cs.toList.take (n * 3)) ∧ Still w w' := by
  obtain ⟨i0, hi, hz0, hz1, hz2⟩ := info_parts infoP'
  have hq : (binOp .eql 55 (.slice (some ⟨b, 0, none⟩) n cap) (.slice none 0 0)).run Try.prog w = .ok (.bool false) w := Lib.run_eql_slice_nil w _ _ _ _ _ _ _ Try.underlying55
  have hl : (cs.toList.take (n * 3)).length = n * 3 := by rw [List.length_take, Array.length_toList, Nat.min_eq_left hn]
  have hlt := (Array.getElem?_eq_some_iff.1 hb).1
  have hnews := take_news (k := n * 3) ((Below.heap_alloc w (.cells #[] 69) b hlt).trans hb)
  have q1 : 0 + n ≤ maxLen := by rw [maxLen_is]; omega
  have q2 : (0 + n) * 16 ≤ 140737488355328 := by omega
  go_enter Try.func33, Try.ntmps33
  go_wp2_with (at_builtin; refine wpList_append_own_at _ rfl _ _ 55 rfl w.heap.size 69 i0 _ 3 16 Try.underlying55 hi hz0 hz1 hz2 rfl (by decide) _ 0 [] rfl (World.ownsRow_made w #[] 0 (Nat.le_refl _) (Nat.zero_le _) rfl) ⟨b, 0, none⟩ n cap (cs.toList.take (n * 3)) rfl hl hnews h1 q1 q2 (by simp) ?_; intro v' w1 hown' hgrow hnil hloc)
  go_ret
  simp only [Nat.zero_add, List.nil_append] at hown'
  exact ⟨_, rfl, hown', ((Kept.refl _ w).alloc _).grown hgrow (fun p hp => .inr (by cases hp; exact Nat.le_refl _))⟩

set_option maxRecDepth 100000 in
theorem CloneS (w : World) (b n cap : Nat) (cs : Array Value) (hb : w.heap[b]? = some (.cells cs 72 (0, 0))) (hn : n * 4 ≤ cs.size) (hn1 : 1 ≤ n ∧ n ≤ 512) (h1 : ∀ v ∈ cs.toList.take (n * 4), v.oneCell' = true) :
    Calls Try.prog 34 #[.slice (some ⟨b, 0, none⟩) n cap] w fun e w' =>
      ∃ v, e = .returned v ∧ w'.ownsRow w.heap.size 72 4 v n (cs.toList.take (n * 4)) ∧ Still w w' := by
  obtain ⟨i0, hi, hz0, hz1, hz2⟩ := info_parts infoS'
  have hq : (binOp .eql 57 (.slice (some ⟨b, 0, none⟩) n cap) (.slice none 0 0)).run Try.prog w = .ok (.bool false) w := Lib.run_eql_slice_nil w _ _ _ _ _ _ _ Try.underlying57
  have hl : (cs.toList.take (n * 4)).length = n * 4 := by rw [List.length_take, Array.length_toList, Nat.min_eq_left hn]
  have hlt := (Array.getElem?_eq_some_iff.1 hb).1
  have hnews := take_news (k := n * 4) ((Below.heap_alloc w (.cells #[] 72) b hlt).trans hb)
  have q1 : 0 + n ≤ maxLen := by rw [maxLen_is]; omega
  have q2 : (0 + n) * 24 ≤ 140737488355328 := by omega
  go_enter Try.func34, Try.ntmps34
  go_wp2_with (at_builtin; refine wpList_append_own_at _ rfl _ _ 57 rfl w.heap.size 72 i0 _ 4 24 Try.underlying57 hi hz0 hz1 hz2 rfl (by decide) _ 0 [] rfl (World.ownsRow_made w #[] 0 (Nat.le_refl _) (Nat.zero_le _) rfl) ⟨b, 0, none⟩ n cap (cs.toList.take (n * 4)) rfl hl hnews h1 q1 q2 (by simp) ?_; intro v' w1 hown' hgrow hnil hloc)
  go_ret
  simp only [Nat.zero_add, List.nil_append] at hown'
  exact ⟨_, rfl, hown', ((Kept.refl _ w).alloc _).grown hgrow (fun p hp => .inr (by cases hp; exact Nat.le_refl _))⟩

/-! The map's copy. -/
/-- Dout holds just those entries of D that are no longer to come. -/
def Part (Dout D : DataW Unit) (left : Lit → Bool) : Prop := (∀ k, Maps.has Dout k = (Maps.has D k && !left k)) ∧ ∀ k z, Maps.has Dout k = true → Dout.atKey k z = D.atKey k z
theorem part_start (D : DataW Unit) : Part (.map []) D (Maps.has D) := ⟨fun k => by cases Maps.has D k <;> rfl, fun k z h => by cases h⟩
theorem part_step {Dout D : DataW Unit} {left : Lit → Bool} {kl : Lit} {d : DataW Unit} (hA : Part Dout D left) (hm : IsMap Dout) (hk : WideAt.IsKeyLit kl) (hat : ∀ zd, D.atKey kl zd = d) : Part (Dout.put kl d) D (fun z => left z && !z.sameKey kl) := by
  refine ⟨fun k => ?_, fun k z h => ?_⟩
  · by_cases e : k = kl
    · subst e
      show Maps.has (Dout.put k d) k = (Maps.has D k && !(left k && !k.sameKey k))
      rw [has_put_same hm hk, has_true_of_atKey hat, WideAt.sameKey_self hk]
      simp
    · show Maps.has (Dout.put kl d) k = (Maps.has D k && !(left k && !k.sameKey kl))
      rw [has_put_other e, hA.1 k, sameKey_ne e]
      simp
  · by_cases e : k = kl
    · subst e
      rw [atKey_put_same hm hk, hat]
    · rw [has_put_other e] at h
      rw [atKey_put_other e, hA.2 k z h]
theorem part_end {Dout D : DataW Unit} {left : Lit → Bool} {m : BitVec 64} {f : BitVec 64 → Option Nat} (hA : Part Dout D left) (hl : ∀ k, left k = false) (hm : IsMap Dout) (h : Reads D m f) : Reads Dout m f := by
  have hh : ∀ k, Maps.has Dout k = Maps.has D k := fun k => by rw [hA.1, hl]; simp
  refine ⟨hm, fun L => (hh _).trans (h.has L), fun L n e z => ?_, fun k hk => h.keys k ((hh k).symm.trans hk)⟩
  rw [hA.2 _ z (by rw [hh, h.has, e]; rfl)]
  exact h.at_ L n e z
theorem formed_shape {P : Program} {t e : TypeId} {n : Nat} (hu : P.underlying t = some (.array e n)) (hc : P.cellsOf t = 2) {v : Value} (hf : v.formed P t = true) : ∃ x : Value × Value, v = .agg #[x.1, x.2] := by
  cases v <;> simp [Value.formed, hu, hc] at hf
  rename_i cs
  obtain ⟨l⟩ := cs
  match l, hf with
  | [c0, c1], _ => exact ⟨(c0, c1), rfl⟩
theorem keyOf_formed {P : Program} {t e : TypeId} {n : Nat} (hu : P.underlying t = some (.array e n)) {v : Value} {l : Lit} (h : keyOf P t v = some l) : v.formed P t = true := by
  unfold keyOf at h
  simp only [hu] at h
  split at h
  · rename_i hc
    simp only [Bool.and_eq_true] at hc
    exact hc.2
  · cases h
theorem key_shape (key : Value) (kl : Lit) (h : keyOf Try.prog 66 key = some kl) : ∃ x : Value × Value, key = .agg #[x.1, x.2] :=
  formed_shape Try.underlying66 cellsK (keyOf_formed Try.underlying66 h)

theorem row_take {w : World} {b : Nat} {T : TypeId} {k n : Nat} {e : Nat → Nat → Value} (hk : 0 < k) {cs : Array Value} (h3 : ∀ i j, i < n → j < k → cs[i * k + j]? = some (e i j)) (h1 : ∀ i j, (e i j).oneCell' = true) : ∀ v ∈ cs.toList.take (n * k), v.oneCell' = true := by
  intro v hv
  obtain ⟨i, hi⟩ := List.mem_iff_getElem?.1 hv
  rw [List.getElem?_take] at hi
  split at hi
  · rename_i hlt
    have hd := Nat.div_add_mod i k
    have hm := Nat.mod_lt i hk
    have hq : i / k < n := (Nat.div_lt_iff_lt_mul hk).2 hlt
    have := h3 (i / k) (i % k) hq hm
    rw [Nat.mul_comm, hd] at this
    rw [Array.getElem?_toList, this] at hi
    cases hi
    exact h1 _ _
  · cases hi
theorem row_of_owns {w : World} {base : Nat} {T : TypeId} {k n : Nat} {v : Value} {e : Nat → Nat → Value} {cs : Array Value} (ho : w.ownsRow base T k v n (cs.toList.take (n * k))) (hn : 0 < n) (h3 : ∀ i j, i < n → j < k → cs[i * k + j]? = some (e i j)) :
    ∃ b cap, v = .slice (some ⟨b, 0, none⟩) n cap ∧ base ≤ b ∧ Row w b T k n e := by
  obtain ⟨h1, h2⟩ := ho
  rcases h2 with ⟨_, h2⟩ | ⟨g, cap, cur, r1, r2, r3, r4, r5, r6, r7⟩
  · omega
  · refine ⟨g, cap, r1, r2, cur, r3, by rw [r6]; exact Nat.mul_le_mul_right _ r4, fun i j hi hj => ?_⟩
    have hlt : i * k + j < n * k := by
      have := Nat.mul_le_mul_right k (show i + 1 ≤ n from hi)
      rw [Nat.add_mul] at this
      omega
    have e1 : (cur.toList.take (n * k))[i * k + j]? = cur[i * k + j]? := by rw [List.getElem?_take, if_pos hlt, Array.getElem?_toList]
    have e2 : (cs.toList.take (n * k))[i * k + j]? = cs[i * k + j]? := by rw [List.getElem?_take, if_pos hlt, Array.getElem?_toList]
    rw [← e1, r7, e2, h3 i j hi hj]
theorem plV_one (p : Nat → Pl) (i j : Nat) : (plV p i j).oneCell' = true := by unfold plV; split <;> rfl
theorem slV_one (p : Nat → Sl) (i j : Nat) : (slV p i j).oneCell' = true := by unfold slV; split <;> rfl
theorem CloneP_any (w : World) (g : G) (s : St) (h : Held w g s) :
    Calls Try.prog 33 #[.slice (some ⟨g.a, 0, none⟩) s.n g.ka] w fun e w' =>
      ∃ b cap, e = .returned (.slice (some ⟨b, 0, none⟩) s.n cap) ∧ w.heap.size ≤ b ∧ Row w' b 69 3 s.n (plV s.pl) ∧ Still w w' := by
  obtain ⟨cs, h1, h2, h3⟩ := h.a
  refine (CloneP w g.a s.n g.ka cs h1 h2 h.ok.n_le (row_take (w := w) (b := g.a) (T := 0) (by decide) h3 (plV_one _))).mono ?_
  rintro e w' ⟨v, rfl, ho, hs⟩
  obtain ⟨b, cap, rfl, hb, hr⟩ := row_of_owns ho (by have := h.ok.n_le; omega) h3
  exact ⟨b, cap, rfl, hb, hr, hs⟩
theorem CloneS_any (w : World) (g : G) (s : St) (h : Held w g s) :
    Calls Try.prog 34 #[.slice (some ⟨g.s, 0, none⟩) s.ns g.ks] w fun e w' =>
      ∃ b cap, e = .returned (.slice (some ⟨b, 0, none⟩) s.ns cap) ∧ w.heap.size ≤ b ∧ Row w' b 72 4 s.ns (slV s.sl) ∧ Still w w' := by
  obtain ⟨cs, h1, h2, h3⟩ := h.s
  refine (CloneS w g.s s.ns g.ks cs h1 h2 (by have := h.ok.ns; omega) (row_take (w := w) (b := g.s) (T := 0) (by decide) h3 (slV_one _))).mono ?_
  rintro e w' ⟨v, rfl, ho, hs⟩
  obtain ⟨b, cap, rfl, hb, hr⟩ := row_of_owns ho (by have := h.ok.ns; omega) h3
  exact ⟨b, cap, rfl, hb, hr, hs⟩
theorem row_still {w w' : World} {b : Nat} {T : TypeId} {k n : Nat} {e : Nat → Nat → Value} (h : Row w b T k n e) (hs : Still w w') : Row w' b T k n e := h.kept (hs.block b h.lt (fun e => e))

set_option maxRecDepth 100000 in
set_option maxHeartbeats 4000000 in
theorem Copy_any (w : World) (g : G) (s : St) (h : Held w g s) :
    Calls Try.prog 23 #[.pointer (some ⟨g.c, 0, none⟩)] w fun e w' =>
      ∃ g', e = .returned (.pointer (some ⟨g'.c, 0, none⟩)) ∧ Held w' g' s ∧ Still w w' ∧ ∀ b, g'.own b → w.heap.size ≤ b := by
  obtain ⟨c0, c1, c2, c3, c4, c5, c6⟩ := h.cf
  go_enter Try.func23, Try.ntmps23
  go_wp2
  have H1 := h.alloc (.cells (cCells g s) 59)
  have O1 : (w.alloc (.cells (cCells g s) 59)).heap[w.heap.size]? = some (.cells (cCells g s) 59 (0, 0)) := heap_alloc_new _ _
  have S1 : Still w (w.alloc (.cells (cCells g s) 59)) := (Kept.refl _ w).alloc _
  have hsz : w.heap.size < (w.alloc (.cells (cCells g s) 59)).heap.size := by simp
  unfold cCells at H1 O1 S1 hsz
  clear c0 c1 c2 c3 c4 c5 c6
  generalize (w.alloc (.cells #[.int .i64 (s.sets : Nat), .int .i64 (s.ways : Nat), .int .i64 (s.delay : Nat), .int .u64 (U s.seed), .slice (some ⟨g.a, 0, none⟩) s.n g.ka, .map (some g.m), .slice (some ⟨g.s, 0, none⟩) s.ns g.ks] 59)) = w1 at H1 O1 S1 hsz ⊢
  have c4 := H1.cf.c4
  have c6 := H1.cf.c6
  go_region_with (first
    | (go_at_call 33; refine (CloneP_any _ g s H1.drew).mono ?_; rintro e w2 ⟨b1, k1, rfl, hb1, hr1, hs1⟩; have H2 := H1.drew.still hs1; have O2 := (hs1.block _ hsz (fun e => e)).trans O1; have c62 := H2.cf.c6)
    | (go_at_call 34; refine (CloneS_any _ g s H2).mono ?_; rintro e w3 ⟨b2, k2, rfl, hb2, hr2, hs2⟩; have H3 := H2.still hs2; have O3 := (hs2.block _ (Array.getElem?_eq_some_iff.1 O2).1 (fun e => e)).trans O2; have p4 : w3.cell? ⟨w.heap.size, 4, none⟩ = some (.slice (some ⟨g.a, 0, none⟩) s.n g.ka) := (by simp [World.cell?, O3]); have p6 : w3.cell? ⟨w.heap.size, 6, none⟩ = some (.slice (some ⟨g.s, 0, none⟩) s.ns g.ks) := (by simp [World.cell?, O3]); have pz : ∀ i, w3.frozen? ⟨w.heap.size, i, none⟩ = false := (fun i => by simp [World.frozen?, O3])))
  all_goals
    have hno : ¬ g.own w.heap.size := fun e => Nat.lt_irrefl _ (h.lt e)
    have hb1o : w.heap.size < b1 := Nat.lt_of_lt_of_le hsz hb1
    have hb12 : b1 < b2 := Nat.lt_of_lt_of_le hr1.lt hb2
    have H4 := (H3.setCell ⟨w.heap.size, 4, none⟩ (.slice (some ⟨b1, 0, none⟩) s.n k1) hno).setCell ⟨w.heap.size, 6, none⟩ (.slice (some ⟨b2, 0, none⟩) s.ns k2) hno
    have O4 : ((w3.setCell ⟨w.heap.size, 4, none⟩ (.slice (some ⟨b1, 0, none⟩) s.n k1)).setCell ⟨w.heap.size, 6, none⟩ (.slice (some ⟨b2, 0, none⟩) s.ns k2)).heap[w.heap.size]? = some (.cells #[.int .i64 (s.sets : Nat), .int .i64 (s.ways : Nat), .int .i64 (s.delay : Nat), .int .u64 (U s.seed), .slice (some ⟨b1, 0, none⟩) s.n k1, .map (some g.m), .slice (some ⟨b2, 0, none⟩) s.ns k2] 59 (0, 0)) := heap_setCell_same _ w.heap.size 6 _ _ _ (heap_setCell_same w3 w.heap.size 4 _ _ _ O3)
    have R1 : Row ((w3.setCell ⟨w.heap.size, 4, none⟩ (.slice (some ⟨b1, 0, none⟩) s.n k1)).setCell ⟨w.heap.size, 6, none⟩ (.slice (some ⟨b2, 0, none⟩) s.ns k2)) b1 69 3 s.n (plV s.pl) :=
      (row_still hr1 hs2).kept ((heap_setCell_ne _ _ (Nat.ne_of_gt hb1o)).trans (heap_setCell_ne _ _ (Nat.ne_of_gt hb1o)))
    have R2 : Row ((w3.setCell ⟨w.heap.size, 4, none⟩ (.slice (some ⟨b1, 0, none⟩) s.n k1)).setCell ⟨w.heap.size, 6, none⟩ (.slice (some ⟨b2, 0, none⟩) s.ns k2)) b2 72 4 s.ns (slV s.sl) :=
      hr2.kept ((heap_setCell_ne _ _ (Nat.ne_of_gt (Nat.lt_trans hb1o hb12))).trans (heap_setCell_ne _ _ (Nat.ne_of_gt (Nat.lt_trans hb1o hb12))))
    have S4 : Still w ((w3.setCell ⟨w.heap.size, 4, none⟩ (.slice (some ⟨b1, 0, none⟩) s.n k1)).setCell ⟨w.heap.size, 6, none⟩ (.slice (some ⟨b2, 0, none⟩) s.ns k2)) :=
      (((S1.drew.trans hs1).trans hs2).setCell _ _ (.inr (Nat.le_refl _))).setCell _ _ (.inr (Nat.le_refl _))
    clear H1 O1 S1 c4 c6 hsz hr1 hs1 H2 O2 c62 hr2 hs2 H3 O3 p4 p6 pz hb1 hb2
    generalize (w3.setCell ⟨w.heap.size, 4, none⟩ (.slice (some ⟨b1, 0, none⟩) s.n k1)).setCell ⟨w.heap.size, 6, none⟩ (.slice (some ⟨b2, 0, none⟩) s.ns k2) = w4 at H4 O4 R1 R2 S4 ⊢
    as_aux_lemma =>
      have hmm := @run_makeMap Try.prog
      have hoc := (Array.getElem?_eq_some_iff.1 O4).1
      have O5 : (w4.alloc (.map #[] 0)).heap[w.heap.size]? = some (.cells #[.int .i64 (s.sets : Nat), .int .i64 (s.ways : Nat), .int .i64 (s.delay : Nat), .int .u64 (U s.seed), .slice (some ⟨b1, 0, none⟩) s.n k1, .map (some g.m), .slice (some ⟨b2, 0, none⟩) s.ns k2] 59 (0, 0)) := (Below.heap_alloc w4 _ _ hoc).trans O4
      have p5 : (w4.alloc (.map #[] 0)).cell? ⟨w.heap.size, 5, none⟩ = some (.map (some g.m)) := by simp [World.cell?, O5]
      have pz : (w4.alloc (.map #[] 0)).frozen? ⟨w.heap.size, 5, none⟩ = false := by simp [World.frozen?, O5]
      have q5 : w4.cell? ⟨w.heap.size, 5, none⟩ = some (.map (some g.m)) := by simp [World.cell?, O4]
      have qz : w4.frozen? ⟨w.heap.size, 5, none⟩ = false := by simp [World.frozen?, O4]
      have hsz : (w4.setCell ⟨w.heap.size, 5, none⟩ (.map (some w4.heap.size))).heap.size = w4.heap.size := by simp [World.setCell]
      have H6 := (H4.setCell ⟨w.heap.size, 5, none⟩ (.map (some w4.heap.size)) hno).alloc (.map #[] 0)
      have O6 : ((w4.setCell ⟨w.heap.size, 5, none⟩ (.map (some w4.heap.size))).alloc (.map #[] 0)).heap[w.heap.size]? = some (.cells #[.int .i64 (s.sets : Nat), .int .i64 (s.ways : Nat), .int .i64 (s.delay : Nat), .int .u64 (U s.seed), .slice (some ⟨b1, 0, none⟩) s.n k1, .map (some w4.heap.size), .slice (some ⟨b2, 0, none⟩) s.ns k2] 59 (0, 0)) :=
        (Below.heap_alloc _ _ _ (by rw [hsz]; exact hoc)).trans (heap_setCell_same _ w.heap.size 5 _ _ _ O4)
      have hom : w4.heap.size ≠ w.heap.size := Nat.ne_of_gt hoc
      have M6 := hasMap_made (w4.setCell ⟨w.heap.size, 5, none⟩ (.map (some w4.heap.size))) s.m
      rw [hsz] at M6
      have R16 : Row ((w4.setCell ⟨w.heap.size, 5, none⟩ (.map (some w4.heap.size))).alloc (.map #[] 0)) b1 69 3 s.n (plV s.pl) := R1.kept ((Below.heap_alloc _ _ _ (by rw [hsz]; exact R1.lt)).trans (heap_setCell_ne _ _ (Nat.ne_of_gt hb1o)))
      have R26 : Row ((w4.setCell ⟨w.heap.size, 5, none⟩ (.map (some w4.heap.size))).alloc (.map #[] 0)) b2 72 4 s.ns (slV s.sl) := R2.kept ((Below.heap_alloc _ _ _ (by rw [hsz]; exact R2.lt)).trans (heap_setCell_ne _ _ (Nat.ne_of_gt (Nat.lt_trans hb1o hb12))))
      have S6 : Still w ((w4.setCell ⟨w.heap.size, 5, none⟩ (.map (some w4.heap.size))).alloc (.map #[] 0)) := (S4.setCell _ _ (.inr (Nat.le_refl _))).alloc _
      have c5 := H6.cf.c5
      have hb1m : b1 < w4.heap.size := R1.lt
      have hb2m : b2 < w4.heap.size := R2.lt
      have hsz6 : ((w4.setCell ⟨w.heap.size, 5, none⟩ (.map (some w4.heap.size))).alloc (.map #[] 0)).heap.size = w4.heap.size + 1 := by rw [World.size_alloc, hsz]
      have hgm : g.m ≠ w4.heap.size := fun e => by
        have h1 := H4.m.lt
        omega
      have hown := H6.m
      obtain ⟨D, hown, hreads⟩ := hown
      have hD : Maps.size D ≤ 512 := Nat.le_trans (size_fits hreads (hown.entries lawK) h.ok.fits) h.ok.n_le.2
      clear H4 O4 R1 R2 S4 O5 hsz
      go_wp2_with (at_range; refine wpList_range_own _ rfl _ 56 rfl 66 3 lawK Try.underlying56 _ g.m (Maps.size D) D rfl hown ?_; intro w0 hrg0 hg0 hs0)
      go_frame
      rw [hsz6] at hrg0 hs0 ⊢
      have kb : ∀ b, b < w4.heap.size + 1 → w0.heap[b]? = ((w4.setCell ⟨w.heap.size, 5, none⟩ (.map (some w4.heap.size))).alloc (.map #[] 0)).heap[b]? := fun b hb => hg0.block b (by rw [hsz6]; exact hb) (by simp)
      have O0 := (kb _ (Nat.lt_succ_of_lt hoc)).trans O6
      have R10 := R16.kept (kb _ (Nat.lt_succ_of_lt hb1m))
      have R20 := R26.kept (kb _ (Nat.lt_succ_of_lt hb2m))
      have M0 := M6.kept (kb _ (Nat.lt_succ_self _))
      have S0 : Still w w0 := S6.grown hg0 (fun p hp => by cases hp)
      have hwo : w.heap.size < w4.heap.size := hoc
      clear hmm p5 pz q5 qz H6 O6 M6 R16 R26 S6 c5 hsz6 hown hg0 kb hoc
      generalize w4.heap.size = om at *
      obtain ⟨D0, ho0, hr0⟩ := M0
      have hr00 : D0 = .map [] := by
        obtain ⟨es, rfl⟩ := hr0.isMap
        cases es with
        | nil => rfl
        | cons q es =>
          obtain ⟨es', e1, _, e3⟩ := ho0.entries lawK
          cases e1
          obtain ⟨L, hL⟩ := hr0.keys q.1 (List.any_eq_true.2 ⟨q, by simp, WideAt.sameKey_self (e3 q (by simp))⟩)
          have := hr0.has L
          rw [← hL] at this
          have h2 : Maps.has (DataW.map (q :: es)) q.1 = true := List.any_eq_true.2 ⟨q, by simp, WideAt.sameKey_self (e3 q (by simp))⟩
          rw [h2] at this
          cases this
      subst hr00
      go_loopw [4] (fun _ wr => ∃ (left : Lit → Bool) (cnt : Nat) (Dout : DataW Unit), wr.ranges Try.prog 66 (plainElem Try.prog 3) g.m (om + 1) (Maps.size D) D left cnt ∧ cnt ≤ Maps.size D ∧
          wr.ownsMap Try.prog 66 (plainElem Try.prog 3) om (Maps.size D - cnt) Dout ∧ Part Dout D left ∧ Kept (fun b => b = om ∨ b = om + 1) w0 wr)
        (fun _ wr => wr.rangeLeft g.m (om + 1))
      case atStart => exact ⟨_, _, .map [], hrg0, Nat.le_refl _, ho0.mono (Nat.zero_le _), part_start D, Kept.refl _ _⟩
      case round =>
        obtain ⟨left, cnt, Dout, hrg, hcs, hout, hA, hK⟩ := hrel
        have hkb : ∀ b, b < om → wr.heap[b]? = w0.heap[b]? := fun b hb => hK.block b (by rw [hs0]; omega) (by omega)
        go_wp2_with (at_next; refine wpList_next_ranges _ rfl _ rfl 66 lawK (plainElem Try.prog 3) (fun x : Value × Value => .agg #[x.1, x.2]) (fun c : Int => .int .i64 c) key_shape (fun v y hv => by obtain ⟨c, rfl, _⟩ := plainElem_int_inv Try.underlying3 hv; exact ⟨c, rfl⟩) g.m (om + 1) (Maps.size D) D left cnt rfl hrg ?_ ?_)
        · intro hc0 hl0
          go_wp2
          go_ret
          subst hc0
          have hap : Apart ⟨w.heap.size, b1, om, b2, k1, k2⟩ := by constructor <;> (dsimp only; omega)
          have hfin : Held wr ⟨w.heap.size, b1, om, b2, k1, k2⟩ s := ⟨h.ok, hap, (hkb _ hwo).trans O0, R10.kept (hkb _ hb1m), ⟨Dout, tight hout, part_end hA hl0 hout.isMap hreads⟩, R20.kept (hkb _ hb2m)⟩
          refine ⟨_, rfl, hfin, S0.start (hK.mono (fun b hb => .inr (by omega))), ?_⟩
          rintro b (rfl | rfl | rfl | rfl) <;> ((try dsimp only); omega)
        · intro x1 x2 c kl d ps w1 cnt1 hkx hlk hv hat hrg1 hlt hg1 hs1 hen
          obtain ⟨L, rfl⟩ := hreads.keys kl (has_true_of_atKey hat)
          have hx : Value.agg #[x1, x2] = kv s.m L := lawK.inj hkx (key_kv s.m L)
          unfold kv at hx
          simp only [Value.agg.injEq, Array.mk.injEq, List.cons.injEq, and_true] at hx
          obtain ⟨rfl, rfl⟩ := hx
          obtain ⟨c', ec, ez, hwc⟩ := plainElem_int_inv Try.underlying3 hv
          cases ec
          cases ez
          have hout1 := hout.kept hg1 (by simp)
          have O1 : w1.heap[w.heap.size]? = _ := (hg1.block _ (by have := hK.size; rw [hs0] at this; omega) (by simp; omega)).trans ((hkb _ hwo).trans O0)
          have p5 : w1.cell? ⟨w.heap.size, 5, none⟩ = some (.map (some om)) := by simp [World.cell?, O1]
          have hol : w.heap.size < w1.heap.size := (Array.getElem?_eq_some_iff.1 O1).1
          have hnb : Maps.size D - cnt < maxLen := by rw [maxLen_is]; omega
          clear hs1
          have p5a : ∀ o, (w1.alloc o).cell? ⟨w.heap.size, 5, none⟩ = some (.map (some om)) := fun o => by rw [World.cell?_alloc_past o _ _ hol]; exact p5
          go_wp2_with (at_mapUpdate; refine wpList_mapUpdate_own _ rfl _ _ _ 56 rfl 66 3 lawK Try.underlying56 _ om _ _ rfl (hout1.alloc _) hnb _ _ (kl s.m L) rfl rfl (key_kv s.m L) _ [] (plainElem_int Try.underlying3 hwc) ?_; intro w2 hout2 hg2; go_frame)
          have hom1 : om + 1 < w1.heap.size := hrg1.lt
          have hrg2 := (hrg1.alloc (.cells #[.int .u64 (U (L % s.m)), .int .u64 (U L)] 66)).kept hg2 (fun e => hgm (Option.some.inj e)) (fun e => by have := Option.some.inj e; omega)
          have hK2 : Kept (fun b => b = om ∨ b = om + 1) w0 w2 := ((hK.grown hg1 (fun p hp => .inl (by cases hp; exact .inr rfl))).alloc _).grown hg2 (fun p hp => .inl (by cases hp; exact .inl rfl))
          go_roundw
          case rel => exact ⟨_, cnt1, _, hrg2, by omega, hout2.mono (by omega), part_step hA hout.isMap (isKey_kl _ _) hat, hK2⟩
          case measure => rw [hrg2.left_eq, hrg.left_eq]; exact hlt
end Go.Proofs.Ytpflodhnniochaa
