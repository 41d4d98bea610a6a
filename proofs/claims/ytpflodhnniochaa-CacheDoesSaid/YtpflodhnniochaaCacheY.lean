/-
  The walk of CacheSeeds.
-/
import Derived.Test.YtpflodhnniochaaCacheT
import Derived.Test.YtpflodhnniochaaCacheX
import Derived.Test.YtpflodhnniochaaWf
namespace Go.Proofs.Ytpflodhnniochaa
set_option linter.unusedVariables false
open Go.RowKit Go.Maps

set_option maxRecDepth 100000 in
set_option maxHeartbeats 8000000 in
theorem Seeds_bad (W : World) (a b c d : Int) (seed s2 : BitVec 64) (lv : Value) (hbad : Bad a b c d) :
    Calls Try.prog 6 #[.agg (shapeC a b c d seed), .int .u64 (U s2), lv] W fun e w' => e = .returned (.bool true) ∧ Below W.heap.size W w' := by
  unfold shapeC
  go_enter Try.func6, Try.ntmps6
  go_wp2_with fail
  go_at_call 8
  have E0 := env_start W (shapeC a b c d seed)
  unfold shapeC at E0
  refine (fixed_any _).mono ?_
  rintro e w1 ⟨rfl, k1⟩
  have E1 : Env W (shapeC a b c d seed) w1 := E0.below k1
  clear E0 k1
  obtain ⟨c0, c1, c2, c3, c4⟩ := E1.cells
  go_wp2_with fail
  go_at_call 9
  refine (New_bad _ a b c d seed hbad).mono ?_
  rintro e w' ⟨rfl, rfl⟩
  go_wp2_with fail
  go_at_call 9
  refine (New_bad _ a b c d s2 hbad).mono ?_
  rintro e w' ⟨rfl, rfl⟩
  have hB := E1.1
  clear c0 c1 c2 c3 c4 E1
  go_wp2
  go_ret
  exact ⟨rfl, hB⟩

/-- Two caches, alike but for the seed. -/
structure Two (ways ns : Nat) (w : World) (gc gd : G) (s : St) (x : BitVec 64) : Prop where
  hc : Held w gc s
  hd : Held w gd (seeded s x)
  fr : Fr s
  inv : Inv s
  ways : s.ways = ways
/-- A step's own copy. -/
structure BoxAt (W : World) (sh : Array Value) (xb : Nat) (k : Int) (x : BitVec 64) (b : Bool) (w : World) : Prop where
  env : Env W sh w
  box : w.heap[xb]? = some (.cells #[.int .i64 k, .int .u64 (U x), .bool b] 32 (0, 0))
theorem BoxAt.fx {W w : World} {sh : Array Value} {xb : Nat} {k : Int} {x : BitVec 64} {b : Bool} (h : BoxAt W sh xb k x b w) : BoxAt W sh xb k x b w ∧ w.cell? ⟨xb, 1, none⟩ = some (.int .u64 (U x)) ∧ w.cell? ⟨xb, 2, none⟩ = some (.bool b) := by
  have h2 := h.box
  exact ⟨h, by simp [World.cell?, h2], by simp [World.cell?, h2]⟩
theorem BoxAt.kept {W w w' : World} {sh : Array Value} {xb : Nat} {k : Int} {x : BitVec 64} {b : Bool} {g : G} (h : BoxAt W sh xb k x b w) (kk : Kept g.own w w') (ho : ∀ b, g.own b → W.heap.size < b) (hx : ¬ g.own xb) : BoxAt W sh xb k x b w' :=
  ⟨h.env.kept kk ho, (kk.block _ (Array.getElem?_eq_some_iff.1 h.box).1 hx).trans h.box⟩
theorem BoxAt.still {W w w' : World} {sh : Array Value} {xb : Nat} {k : Int} {x : BitVec 64} {b : Bool} (h : BoxAt W sh xb k x b w) (kk : Still w w') : BoxAt W sh xb k x b w' :=
  ⟨h.env.still kk, (kk.block _ (Array.getElem?_eq_some_iff.1 h.box).1 (fun e => e)).trans h.box⟩
theorem BoxAt.drew {W w : World} {sh : Array Value} {xb : Nat} {k : Int} {x : BitVec 64} {b : Bool} (h : BoxAt W sh xb k x b w) : BoxAt W sh xb k x b w.drew := ⟨h.env.drew, h.box⟩

theorem Ask_sd (w : World) (g : G) (s : St) (y x : BitVec 64) (wr' : Bool) (h : Held w g (seeded s y)) :
    Calls Try.prog 11 #[.pointer (some ⟨g.c, 0, none⟩), .int .u64 (U x), .bool wr'] w fun e w' =>
      e = .returned (.int .i64 (askS s (x / 64#64) wr').2) ∧ Held w' g (seeded (askS s (x / 64#64) wr').1 y) ∧ Kept g.own w w' := by
  have h1 := Ask_any w g _ x wr' h
  rw [ask_seeded] at h1
  exact h1
theorem Under_sd (w : World) (g : G) (s : St) (y : BitVec 64) (h : Held w g (seeded s y)) :
    Calls Try.prog 18 #[.pointer (some ⟨g.c, 0, none⟩)] w fun e w' => e = .returned (.int .i64 (underS s s.ns : Nat)) ∧ Still w w' := by
  have h1 := Under_any w g _ h
  rw [under_seeded] at h1
  exact h1
theorem ask_ways (s : St) (L : BitVec 64) (wr : Bool) : (askS s L wr).1.ways = s.ways := by
  rcases ask_cases s L wr with ⟨n, _, e⟩ | ⟨_, i, _, _, _, e⟩ | ⟨_, _, i, _, _, e⟩ | ⟨_, _, e⟩ <;> rw [e] <;> rfl
theorem lay_ways (s : St) (L : BitVec 64) (wr : Bool) : (layS s L wr).1.ways = s.ways := by
  unfold layS
  split <;> rfl
theorem tick1_ways (s : St) (i : Nat) : (tick1 s i).1.ways = s.ways := by
  unfold tick1
  split
  · split
    · exact (lay_ways _ _ _)
    · rfl
  · rfl
theorem tick_ways (s : St) : ∀ k, (tickS s k).1.ways = s.ways
  | 0 => rfl
  | k + 1 => by rw [tickS]; exact (tick1_ways _ _).trans (tick_ways s k)
theorem owns_base {w : World} {base n k : Nat} {T : TypeId} {v : Value} {xs : List Value} (h : w.ownsRow base T k v n xs) : ∃ z cap, v = .slice z n cap ∧ (0 < n → ∃ b, z = some ⟨b, 0, none⟩ ∧ base ≤ b ∧ ∀ j u, xs[j]? = some u → w.cell? ⟨b, j, none⟩ = some u) := by
  by_cases hn : 0 < n
  · obtain ⟨b, cap, rfl, hb, -, hc⟩ := owns_cells h hn
    exact ⟨_, _, rfl, fun _ => ⟨b, rfl, hb, hc⟩⟩
  · obtain rfl : n = 0 := by omega
    obtain ⟨z, cap, rfl⟩ := owns_none h
    exact ⟨z, cap, rfl, fun e => absurd e (Nat.lt_irrefl _)⟩
theorem kd_at {ds ds' : List Dn} (h : ds.map kd = ds'.map kd) {k : Nat} (hk : k < ds.length) : ∃ e e', ds[k]? = some e ∧ ds'[k]? = some e' ∧ e'.at_ = e.at_ ∧ ((e.out == 0#64) = (e'.out == 0#64)) := by
  have hl := congrArg List.length h
  simp only [List.length_map] at hl
  have h1 := List.getElem?_eq_getElem hk
  have h2 := List.getElem?_eq_getElem (l := ds') (i := k) (by omega)
  refine ⟨_, _, h1, h2, ?_⟩
  have h3 := congrArg (fun l => l[k]?) h
  simp only [List.getElem?_map, h1, h2, Option.map_some, Option.some.injEq, kd, Prod.mk.injEq] at h3
  exact ⟨h3.1.symm, h3.2⟩
def anyO (ds : List Dn) (k : Nat) : Bool := (ds.take k).any fun e => !(e.out == 0#64)
theorem anyO_succ {ds : List Dn} {k : Nat} {e : Dn} (h : ds[k]? = some e) : anyO ds (k + 1) = (anyO ds k || !(e.out == 0#64)) := by
  unfold anyO
  rw [List.take_add_one, h]
  simp
theorem anyO_not {ds : List Dn} (h : anyO ds ds.length = false) : ∀ e ∈ ds, e.out = 0#64 := by
  intro e he
  unfold anyO at h
  rw [List.take_length, List.any_eq_false] at h
  simpa using h e he

set_option maxRecDepth 100000 in
set_option maxHeartbeats 8000000 in
theorem Seeds_fine (W : World) (sets ways ns delay : Nat) (hfine : Fine sets ways ns delay) (seed sd2 : BitVec 64) (oa : Option Addr) (n cap : Nat) (Lf : Nat → Int × BitVec 64 × Bool) (hl : StepsAt W oa n Lf) :
    Calls Try.prog 6 #[.agg (shapeC sets ways ns delay seed), .int .u64 (U sd2), .slice oa n cap] W fun e w' => e = .returned (.bool true) ∧ Below W.heap.size W w' := by
  unfold shapeC
  go_enter Try.func6, Try.ntmps6
  go_wp2_with fail
  go_at_call 8
  have E0 := env_start W (shapeC sets ways ns delay seed)
  unfold shapeC at E0
  refine (fixed_any _).mono ?_
  rintro e w1 ⟨rfl, k1⟩
  have E1 : Env W (shapeC sets ways ns delay seed) w1 := E0.below k1
  clear E0 k1
  obtain ⟨c0, c1, c2, c3, c4⟩ := E1.cells
  go_wp2_with fail
  go_at_call 9
  refine (New_fine _ hfine seed).mono ?_
  rintro e w2 ⟨gc, rfl, h2, k2, ho⟩
  have E2 := E1.still k2
  have hoc : ∀ b, gc.own b → W.heap.size < b := fun b e => Nat.lt_of_lt_of_le E1.lt (ho b e)
  clear c0 c1 c2 c3 c4 E1 k2 ho
  obtain ⟨c0, c1, c2, c3, c4⟩ := E2.cells
  go_wp2_with fail
  go_at_call 9
  refine (New_fine _ hfine sd2).mono ?_
  rintro e w3 ⟨gd, rfl, h3, k3, ho⟩
  have E3 := E2.still k3
  have hod : ∀ b, gd.own b → W.heap.size < b := fun b e => Nat.lt_of_lt_of_le E2.lt (ho b e)
  have hcd : ∀ b, gc.own b → ¬ gd.own b := fun b e1 e2 => absurd (h2.lt e1) (Nat.not_lt.2 (ho b e2))
  have hdc : ∀ b, gd.own b → ¬ gc.own b := fun b e1 e2 => hcd b e2 e1
  have T3 : Two ways ns w3 gc gd (newS sets ways ns delay seed) sd2 := ⟨h2.still k3, h3, fun i hi e => by simp [newS] at e, ⟨fun i e => by simp [newS] at e, fun i e => by simp [newS] at e⟩, rfl⟩
  clear c0 c1 c2 c3 c4 E2 k3 ho h2 h3
  have hw8 := hfine.ways
  go_wp2_with fail
  go_loopw [9] (fun iv wr => ∃ (k : Nat) (s : St) (x : BitVec 64), k ≤ n ∧ iv = .int .i64 k ∧ Env W (shapeC sets ways ns delay seed) wr ∧ Two ways ns wr gc gd s x) (fun iv _ => n - (intOf iv).toNat)
  case atStart => exact ⟨0, _, _, Nat.zero_le _, rfl, E3, T3⟩
  case round =>
    obtain ⟨k, s, x, hk, rfl, E4, T4⟩ := hrel
    clear E3 T3
    by_cases hkn : k < n
    · obtain ⟨a, rfl, hab, hcl⟩ := hl.2 (by omega)
      have hcl := hide hcl
      have hin2 : (k : Int) < (n : Int) := by omega
      have hi0 : 0 ≤ (k : Int) := by omega
      have hnm : (n : Int) ≤ 9223372036854775807 := by have := hl.1; rw [maxLen_is] at this; omega
      have hms := meas_succ2 hkn
      have hk1 : k + 1 ≤ n := hkn
      obtain ⟨_, d0, d1, d2⟩ := step1_of hab hcl.out E4 hkn
      have E4 := hide E4
      by_cases hkind : (Lf k).1 = 1
      · rw [hkind] at d0
        go_wp2_with fail
        have Ha := T4.hc.alloc (Obj.cells #[.int .i64 1, .int .u64 (U ((Lf k).2.1 ||| 9223372036854775808#64)), .bool (Lf k).2.2] 32)
        have Hb := T4.hd.alloc (Obj.cells #[.int .i64 1, .int .u64 (U ((Lf k).2.1 ||| 9223372036854775808#64)), .bool (Lf k).2.2] 32)
        have Ea := E4.out.still ((Kept.refl _ wr).alloc (Obj.cells #[.int .i64 1, .int .u64 (U ((Lf k).2.1 ||| 9223372036854775808#64)), .bool (Lf k).2.2] 32))
        have hsim := tick_sim (sim_seeded T4.inv (by rw [T4.ways]; exact hw8) x) s.ns
        have hcl2 : 1 ≤ s.ways ∧ s.ways ≤ 8 := by rw [T4.ways]; exact hw8
        have heq := tick_eq T4.inv hcl2 x s.ns
        have hinv := T4.inv
        have hfr := T4.fr
        have hws := T4.ways
        have hns8 := T4.hc.ok.ns.2
        clear E4 T4 d0 d1 d2 hcl hl
        go_at_call 13
        refine (Tick_any _ gc s Ha hfr).mono ?_
        rintro e w4 ⟨v, rfl, o4, h4, k4⟩
        obtain ⟨z, zc, rfl, hca⟩ := owns_base o4
        have E5 := hide (Ea.kept k4 hoc)
        have H5 := Hb.kept k4 hdc
        have hlt5 : ∀ b, gd.own b → b < (wr.alloc (Obj.cells #[.int .i64 1, .int .u64 (U ((Lf k).2.1 ||| 9223372036854775808#64)), .bool (Lf k).2.2] 32)).heap.size := fun b e => Hb.lt e
        replace hca := hide hca
        clear o4 k4 Ha Hb Ea
        go_wp2_with fail
        go_at_call 13
        refine (Tick_any _ gd (seeded s x) H5 hfr).mono ?_
        rintro e w5 ⟨v, rfl, o5, h5, k5⟩
        obtain ⟨z', zc', rfl, hcb⟩ := owns_base o5
        have E6 := hide (E5.out.kept k5 hod)
        have H6 := h4.kept k5 hcd
        have hcc : Hid (0 < (tickS s s.ns).2.length → ∃ b, z = some ⟨b, 0, none⟩ ∧ ∀ j u, (dnCells (tickS s s.ns).2)[j]? = some u → w5.cell? ⟨b, j, none⟩ = some u) := hide (fun h0 => by
          obtain ⟨b, e, hb, hc⟩ := hca.out h0
          exact ⟨b, e, fun j u hj => k5.cell (hc j u hj) (fun ho => absurd (hlt5 b ho) (Nat.not_lt.2 hb))⟩)
        replace hcb : Hid (0 < (tickS (seeded s x) s.ns).2.length → ∃ b, z' = some ⟨b, 0, none⟩ ∧ ∀ j u, (dnCells (tickS (seeded s x) s.ns).2)[j]? = some u → w5.cell? ⟨b, j, none⟩ = some u) := hide (fun h0 => by
          obtain ⟨b, e, hb, hc⟩ := hcb h0
          exact ⟨b, e, hc⟩)
        replace h5 : Held w5 gd (tickS (seeded s x) s.ns).1 := h5
        have e5 : (seeded s x).ns = s.ns := rfl
        rw [e5]
        have hlen8 : (tickS s s.ns).2.length ≤ 8 := Nat.le_trans (tick_length s _) hns8
        have hfr2 : Fr (tickS s s.ns).1 := fr_tick hfr
        have hws2 : (tickS s s.ns).1.ways = ways := (tick_ways s _).trans hws
        clear o5 k5 H5 E5 hca h4 hlt5 e5 hinv hfr hws hcl2
        obtain ⟨hS, hmap⟩ := hsim
        have hinv2 := hS.inv
        clear hS
        generalize tickS s s.ns = r at H6 hcc hlen8 hfr2 hws2 heq hmap hinv2
        generalize tickS (seeded s x) s.ns = r' at h5 hcb heq hmap
        obtain ⟨s5, ds⟩ := r
        obtain ⟨s6, ds'⟩ := r'
        simp only [] at H6 hcc hlen8 hfr2 hws2 heq hmap hinv2 h5 hcb
        simp only []
        have hll : ds'.length = ds.length := by have := congrArg List.length hmap; simpa using this.symm
        rw [hll]
        replace heq := hide heq
        have hkd := hide (fun k => kd_at (k := k) hmap)
        clear hmap
        rw [hll] at hcb
        have hnext : Hid (anyO ds ds.length = false → Two ways ns w5 gc gd s5 x) := hide (fun h0 => by
          have h1 := heq.out (anyO_not h0)
          simp only [Prod.mk.injEq] at h1
          exact ⟨H6, h1.1 ▸ h5, hfr2, hinv2, hws2⟩)
        clear H6 h5 hfr2 hws2 hinv2 heq hll
        as_aux_lemma =>
          go_wp2_with fail
          go_loopw [13, 14] (fun gv kv wr => ∃ k : Nat, k ≤ ds.length ∧ kv = .int .i64 k ∧ gv = .bool (anyO ds k) ∧ Still w5 wr) (fun _ kv _ => ds.length - (intOf kv).toNat)
          case atStart => exact ⟨0, Nat.zero_le _, rfl, rfl, Kept.refl _ _⟩
          case round =>
            obtain ⟨j, hj, rfl, rfl, kw⟩ := hrel
            by_cases hjl : j < ds.length
            · obtain ⟨b, rfl, hcs⟩ := hcc.out (by omega)
              obtain ⟨b', rfl, hcs'⟩ := hcb.out (by omega)
              have hjl2 : (j : Int) < (ds.length : Int) := by omega
              have hj0 : 0 ≤ (j : Int) := by omega
              have hms2 := meas_succ2 hjl
              have hj1 : j + 1 ≤ ds.length := hjl
              obtain ⟨e, e', he, he', hat, hout⟩ := hkd.out j hjl
              obtain ⟨x0, x1⟩ := dn_at ds j e he
              obtain ⟨y0, y1⟩ := dn_at ds' j e' he'
              replace x0 := kw.cell (hcs _ _ x0) (fun e => e)
              replace x1 := kw.cell (hcs _ _ x1) (fun e => e)
              replace y0 := kw.cell (hcs' _ _ y0) (fun e => e)
              replace y1 := kw.cell (hcs' _ _ y1) (fun e => e)
              rw [hat] at y0
              have hany := hide (anyO_succ he)
              clear hcs hcs' hcc hcb hnext he he' hat hkd hms
              by_cases ho : e.out = 0#64
              · have ho' : e'.out = 0#64 := by rw [ho] at hout; simpa using hout.symm
                have hany2 : anyO ds (j + 1) = anyO ds j := by rw [hany.out, ho]; simp
                have hany2 := hide hany2
                rw [ho] at x1
                rw [ho'] at y1
                clear hany hout ho ho'
                cases hA : anyO ds j
                · go_wp2_with fail
                  go_quiet (fail)
                  go_wp2
                  go_roundw
                  case rel => exact ⟨j + 1, hj1, by simp, by rw [hany2.out, hA]; rfl, kw.drewN _⟩
                  case measure => exact hms2
                · go_wp2_with fail
                  go_quiet (fail)
                  go_wp2
                  go_roundw
                  case rel => exact ⟨j + 1, hj1, by simp, by rw [hany2.out, hA], kw.drewN _⟩
                  case measure => exact hms2
              · have ho' : ¬ e'.out = 0#64 := by intro h; rw [h] at hout; exact ho (by simpa using hout)
                have hany2 : anyO ds (j + 1) = true := by rw [hany.out]; simp [ho]
                have hany2 := hide hany2
                have q1 : ¬ U e.out = 0 := fun h => ho (U_zero.1 h)
                have q2 : ¬ U e'.out = 0 := fun h => ho' (U_zero.1 h)
                have q3 : (U e.out != 0) = true := by simpa using q1
                have q4 : (U e'.out != 0) = true := by simpa using q2
                clear hany hout ho ho'
                cases hA : anyO ds j
                · go_wp2_with fail
                  go_quiet (fail)
                  go_wp2
                  go_roundw
                  case rel => exact ⟨j + 1, hj1, by simp, by rw [hany2.out], kw.drewN _⟩
                  case measure => exact hms2
                · go_wp2_with fail
                  go_quiet (fail)
                  go_wp2
                  go_roundw
                  case rel => exact ⟨j + 1, hj1, by simp, by rw [hany2.out], kw.drewN _⟩
                  case measure => exact hms2
            · obtain rfl : j = ds.length := by omega
              have E7 := hide (E6.out.still kw)
              have hB := E7.out.1
              have hnx := hide (fun h => let t := hnext.out h; (⟨t.hc.still kw, t.hd.still kw, t.fr, t.inv, t.ways⟩ : Two ways ns wr gc gd s5 x))
              clear kw hnext
              clear hcc hcb hkd
              cases hA : anyO ds ds.length
              · go_wp2
                go_roundw
                case rel => exact ⟨k + 1, s5, x, hk1, by simp, E7.out, hnx.out hA⟩
                case measure => exact hms
              · go_wp2
                go_ret
                exact ⟨rfl, hB⟩
      · have Ba : BoxAt W (shapeC sets ways ns delay seed) wr.heap.size (Lf k).1 ((Lf k).2.1 ||| 9223372036854775808#64) (Lf k).2.2 (wr.alloc (Obj.cells #[.int .i64 (Lf k).1, .int .u64 (U ((Lf k).2.1 ||| 9223372036854775808#64)), .bool (Lf k).2.2] 32)) :=
          ⟨E4.out.still ((Kept.refl _ wr).alloc _), heap_alloc_new _ _⟩
        have Ba := hide Ba.drew
        have Ha := (T4.hc.alloc (Obj.cells #[.int .i64 (Lf k).1, .int .u64 (U ((Lf k).2.1 ||| 9223372036854775808#64)), .bool (Lf k).2.2] 32)).drew
        have Hb := (T4.hd.alloc (Obj.cells #[.int .i64 (Lf k).1, .int .u64 (U ((Lf k).2.1 ||| 9223372036854775808#64)), .bool (Lf k).2.2] 32)).drew
        have hxc : ¬ gc.own wr.heap.size := fun e => absurd (T4.hc.lt e) (Nat.lt_irrefl _)
        have hxd : ¬ gd.own wr.heap.size := fun e => absurd (T4.hd.lt e) (Nat.lt_irrefl _)
        have hinv2 := hide (inv_ask T4.inv (top_line (Lf k).2.1) (Lf k).2.2)
        have hfr2 := hide (fr_ask T4.fr T4.hc.ok.delay.1 (((Lf k).2.1 ||| 9223372036854775808#64) / 64#64) (Lf k).2.2)
        have hws2 := hide ((ask_ways s (((Lf k).2.1 ||| 9223372036854775808#64) / 64#64) (Lf k).2.2).trans T4.ways)
        have hkind2 : ((Lf k).1 != 1) = true := by simpa using hkind
        go_wp2_with fail
        clear E4 T4 hcl hl d0 d1 d2
        go_region_held3 (fun w' => BoxAt W (shapeC sets ways ns delay seed) wr.heap.size (Lf k).1 ((Lf k).2.1 ||| 9223372036854775808#64) (Lf k).2.2 w' ∧ w'.cell? ⟨wr.heap.size, 1, none⟩ = some (.int .u64 (U ((Lf k).2.1 ||| 9223372036854775808#64))) ∧ w'.cell? ⟨wr.heap.size, 2, none⟩ = some (.bool (Lf k).2.2))
          (first | assumption | exact Ba.out.fx | exact (Ba.out.kept k6 hoc hxc).fx | exact ((Ba.out.kept k6 hoc hxc).kept k7 hod hxd).fx | exact (((Ba.out.kept k6 hoc hxc).kept k7 hod hxd).still k8).fx | exact ((((Ba.out.kept k6 hoc hxc).kept k7 hod hxd).still k8).still k9).fx)
          (first
          | (go_at_call 11; with_reducible refine (Ask_any _ gc s _ _ Ha).mono ?_; rintro e w6 ⟨rfl, h6, k6⟩)
          | (go_at_call 11; with_reducible refine (Ask_sd _ gd s x _ _ (Hb.kept k6 hdc)).mono ?_; rintro e w7 ⟨rfl, h7, k7⟩)
          | (go_at_call 18; with_reducible refine (Under_any _ gc _ (h6.kept k7 hcd)).mono ?_; rintro e w8 ⟨rfl, k8⟩)
          | (go_at_call 18; with_reducible refine (Under_sd _ gd _ x (h7.still k8)).mono ?_; rintro e w9 ⟨rfl, k9⟩))
        all_goals
          have B9 := hide ((((Ba.out.kept k6 hoc hxc).kept k7 hod hxd).still k8).still k9).env
          have T9 : Two ways ns _ gc gd _ x := ⟨((h6.kept k7 hcd).still k8).still k9, (h7.still k8).still k9, hfr2.out, hinv2.out, hws2.out⟩
          clear h6 h7 k6 k7 k8 k9 Ha Hb Ba hinv2 hfr2 hws2
          go_wp2
          go_roundw
          case rel => exact ⟨k + 1, _, x, hk1, by simp, B9.out, T9⟩
          case measure => exact hms
    · obtain rfl : k = n := by omega
      have hB := E4.1
      clear E4 T4 hl
      go_wp2
      go_ret
      exact ⟨rfl, hB⟩
theorem Seeds_walk (W : World) (a b c d : Int) (seed : BitVec 64) (sd : Int) (hsd : (Lit.int .u64 sd).wf = true) (oa : Option Addr) (n cap : Nat) (Lf : Nat → Int × BitVec 64 × Bool) (hl : StepsAt W oa n Lf) :
    Calls Try.prog 6 #[.agg (shapeC a b c d seed), .int .u64 sd, .slice oa n cap] W fun e w' => e = .returned (.bool true) ∧ Below W.heap.size W w' := by
  rw [U_of_wf hsd]
  by_cases h : Bad a b c d
  · exact Seeds_bad W a b c d seed _ _ h
  · obtain ⟨a, b, c, d, rfl, rfl, rfl, rfl, hf⟩ := fine_of h
    exact Seeds_fine W a b c d hf seed _ oa n cap Lf hl
end Go.Proofs.Ytpflodhnniochaa
