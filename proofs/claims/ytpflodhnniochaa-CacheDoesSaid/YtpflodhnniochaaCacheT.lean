/-
  The walk of CacheComes.
-/
import Derived.Test.YtpflodhnniochaaCacheS
import Derived.Test.YtpflodhnniochaaCacheM
namespace Go.Proofs.Ytpflodhnniochaa
set_option linter.unusedVariables false
open Go.RowKit Go.Maps

/-- The cells of a slice of steps. -/
def StepsAt (w : World) (oa : Option Addr) (n : Nat) (Lf : Nat → Int × BitVec 64 × Bool) : Prop :=
  n ≤ maxLen ∧ (0 < n → ∃ a, oa = some a ∧ a.block < w.heap.size ∧ ∀ i, i < n → w.cell? (a.add (i * 3)) = some (.int .i64 (Lf i).1) ∧
    w.cell? ⟨(a.add (i * 3)).block, (a.add (i * 3)).off + 1, none⟩ = some (.int .u64 (U (Lf i).2.1)) ∧ w.cell? ⟨(a.add (i * 3)).block, (a.add (i * 3)).off + 2, none⟩ = some (.bool (Lf i).2.2))
/-- What stands round the call. -/
structure Step1 (W : World) (sh : Array Value) (a : Addr) (i : Nat) (x : Int × BitVec 64 × Bool) (w : World) : Prop where
  env : Env W sh w
  d0 : w.cell? (a.add (i * 3)) = some (.int .i64 x.1)
  d1 : w.cell? ⟨(a.add (i * 3)).block, (a.add (i * 3)).off + 1, none⟩ = some (.int .u64 (U x.2.1))
  d2 : w.cell? ⟨(a.add (i * 3)).block, (a.add (i * 3)).off + 2, none⟩ = some (.bool x.2.2)
theorem step1_of {W w : World} {sh : Array Value} {a : Addr} {n : Nat} {Lf : Nat → Int × BitVec 64 × Bool} (hab : a.block < W.heap.size) (hcl : ∀ i, i < n → W.cell? (a.add (i * 3)) = some (.int .i64 (Lf i).1) ∧
    W.cell? ⟨(a.add (i * 3)).block, (a.add (i * 3)).off + 1, none⟩ = some (.int .u64 (U (Lf i).2.1)) ∧ W.cell? ⟨(a.add (i * 3)).block, (a.add (i * 3)).off + 2, none⟩ = some (.bool (Lf i).2.2))
    (E : Env W sh w) {i : Nat} (hi : i < n) : Step1 W sh a i (Lf i) w := by
  obtain ⟨h0, h1, h2⟩ := hcl i hi
  have hb : (a.add (i * 3)).block < W.heap.size := by rw [addr_block]; exact hab
  exact ⟨E, by rw [E.1.cell (p := a.add (i * 3)) hb]; exact h0, by rw [E.1.cell (p := ⟨(a.add (i * 3)).block, (a.add (i * 3)).off + 1, none⟩) hb]; exact h1, by rw [E.1.cell (p := ⟨(a.add (i * 3)).block, (a.add (i * 3)).off + 2, none⟩) hb]; exact h2⟩
theorem Step1.fx {W w : World} {sh : Array Value} {a : Addr} {i : Nat} {x : Int × BitVec 64 × Bool} (h : Step1 W sh a i x w) : Step1 W sh a i x w ∧
    w.cell? ⟨(a.add (i * 3)).block, (a.add (i * 3)).off + 1, none⟩ = some (.int .u64 (U x.2.1)) ∧ w.cell? ⟨(a.add (i * 3)).block, (a.add (i * 3)).off + 2, none⟩ = some (.bool x.2.2) := ⟨h, h.d1, h.d2⟩
theorem Env.drew {W w : World} {sh : Array Value} (h : Env W sh w) : Env W sh w.drew := ⟨h.1.drew, h.2⟩
/-- A state as the walk of CacheComes goes on with it. -/
structure Good (delay ns : Nat) (w : World) (g : G) (s : St) : Prop where
  held : Held w g s
  fr : Fr s
  delay : s.delay = delay
  ns : s.ns = ns
theorem Good.ask {delay ns : Nat} {w w' : World} {g : G} {s : St} (h : Good delay ns w g s) {L : BitVec 64} {wr : Bool} (h' : Held w' g (askS s L wr).1) : Good delay ns w' g (askS s L wr).1 :=
  ⟨h', fr_ask h.fr h.held.ok.delay.1 L wr, (ask_same s L wr).2.2.trans h.delay, (ask_same s L wr).2.1.trans h.ns⟩
theorem Good.tick {delay ns : Nat} {w w' : World} {g : G} {s : St} (h : Good delay ns w g s) (h' : Held w' g (tickS s s.ns).1) : Good delay ns w' g (tickS s s.ns).1 :=
  ⟨h', fr_tick h.fr, (tick_delay s _).trans h.delay, (tick_ns s _).trans h.ns⟩
theorem Good.still {delay ns : Nat} {w w' : World} {g : G} {s : St} (h : Good delay ns w g s) (k : Still w w') : Good delay ns w' g s := ⟨h.held.still k, h.fr, h.delay, h.ns⟩

theorem ask_three (s : St) (L : BitVec 64) : ((askS s L false).2 = 1 ∧ ∃ n, (askS s L false).1.wh L = some n) ∨
    ((askS s L false).2 = 2 ∧ (askS s L false).1.wh L = none ∧ ∃ i left, Pend (askS s L false).1 L i left) ∨ ((askS s L false).2 = 3 ∧ (askS s L false).1 = s ∧ ∀ j, j < s.ns → (s.sl j).is = true) := by
  have hsame := ask_same s L false
  rcases ask_cases s L false with ⟨n, h, e⟩ | ⟨h, i, h1, h2, h3, e⟩ | ⟨h, _, i, h1, h2, e⟩ | ⟨h, h1, e⟩
  · exact .inl ⟨by rw [e], n, by rw [hsame.1]; exact h⟩
  · refine .inr (.inl ⟨by rw [e], by rw [hsame.1]; exact h, i, (s.sl i).left, ?_⟩)
    rw [e]
    exact ⟨h1, by simp [setSl, h2], by simp [setSl, h3], by simp [setSl]⟩
  · refine .inr (.inl ⟨by rw [e], by rw [hsame.1]; exact h, i, s.delay, ?_⟩)
    rw [e]
    exact ⟨h1, by simp [setSl], by simp [setSl], by simp [setSl]⟩
  · exact .inr (.inr ⟨by rw [e], by rw [e], h1⟩)
theorem owns_any {w : World} {base n k : Nat} {T : TypeId} {v : Value} {xs : List Value} (h : w.ownsRow base T k v n xs) : ∃ z cap, v = .slice z n cap ∧ (0 < n → ∃ b, z = some ⟨b, 0, none⟩ ∧ ∀ j u, xs[j]? = some u → w.cell? ⟨b, j, none⟩ = some u) := by
  by_cases hn : 0 < n
  · obtain ⟨b, cap, rfl, -, -, hc⟩ := owns_cells h hn
    exact ⟨_, _, rfl, fun _ => ⟨b, rfl, hc⟩⟩
  · obtain rfl : n = 0 := by omega
    obtain ⟨z, cap, rfl⟩ := owns_none h
    exact ⟨z, cap, rfl, fun e => absurd e (Nat.lt_irrefl _)⟩
theorem dn_at : ∀ (ds : List Dn) (k : Nat) (e : Dn), ds[k]? = some e → (dnCells ds)[k * 3]? = some (.int .u64 (U e.at_)) ∧ (dnCells ds)[k * 3 + 1]? = some (.int .u64 (U e.out))
  | [], k, e, h => by simp at h
  | d :: r, 0, e, h => by
    simp at h
    subst h
    exact ⟨rfl, rfl⟩
  | d :: r, k + 1, e, h => by
    have := dn_at r k e (by simpa using h)
    have e1 : (k + 1) * 3 = k * 3 + 1 + 1 + 1 := by omega
    rw [e1]
    exact this
def anyL (L : BitVec 64) (ds : List Dn) (k : Nat) : Bool := (ds.take k).any fun e => e.at_ == L <<< 6
theorem any_succ {L : BitVec 64} {ds : List Dn} {k : Nat} {e : Dn} (h : ds[k]? = some e) : anyL L ds (k + 1) = (anyL L ds k || (e.at_ == L <<< 6)) := by
  unfold anyL
  rw [List.take_add_one, h]
  simp
theorem any_not {L : BitVec 64} {ds : List Dn} (h : anyL L ds ds.length = false) : ¬ ∃ e ∈ ds, e.at_ = L <<< 6 := by
  rintro ⟨e, he, hee⟩
  unfold anyL at h
  rw [List.take_length, List.any_eq_false] at h
  exact h e he (by simp [hee])
theorem has_wh {s : St} {L : BitVec 64} {n : Nat} (h : s.wh L = some n) : hasS s L = (true, (s.pl n).written) := by unfold hasS; rw [h]
theorem has_no {s : St} {L : BitVec 64} (h : s.wh L = none) : hasS s L = (false, false) := by unfold hasS; rw [h]
theorem ask_hit {s : St} {L : BitVec 64} {n : Nat} (h : s.wh L = some n) (wr : Bool) : (askS s L wr).2 = 1 := by unfold askS; rw [h]

set_option maxRecDepth 100000 in
set_option maxHeartbeats 8000000 in
theorem Comes_fine (W : World) (sets ways ns delay : Nat) (hfine : Fine sets ways ns delay) (seed at_ : BitVec 64) (oa : Option Addr) (n cap : Nat) (Lf : Nat → Int × BitVec 64 × Bool) (hl : StepsAt W oa n Lf) :
    Calls Try.prog 4 #[.agg (shapeC sets ways ns delay seed), .slice oa n cap, .int .u64 (U at_)] W fun e w' => e = .returned (.bool true) ∧ Below W.heap.size W w' := by
  unfold shapeC
  go_enter Try.func4, Try.ntmps4
  go_wp2_with fail
  go_at_call 8
  have E0 := env_start W (shapeC sets ways ns delay seed)
  unfold shapeC at E0
  refine (fixed_any _).mono ?_
  rintro e w1 ⟨rfl, k1⟩
  have E1 : Env W (shapeC sets ways ns delay seed) w1 := E0.below k1
  clear E0 k1
  obtain ⟨c0, c1, c2, c3, c4⟩ := E1.cells
  go_wp2_with fail
  go_at_call 9
  refine (New_fine _ hfine seed).mono ?_
  rintro e w2 ⟨g, rfl, h2, k2, ho⟩
  have E2 := E1.still k2
  have hog : ∀ b, g.own b → W.heap.size < b := fun b e => Nat.lt_of_lt_of_le E1.lt (ho b e)
  have G2 : Good delay ns w2 g (newS sets ways ns delay seed) := ⟨h2, fun i hi e => by simp [newS] at e, rfl, rfl⟩
  clear c0 c1 c2 c3 c4 E1 k2 ho h2
  have hd1 : 1 ≤ delay := hfine.delay.1
  have hd2 : delay ≤ 64 := hfine.delay.2
  have hns1 : 1 ≤ ns := hfine.ns.1
  go_wp2_with fail
  go_loopw [8] (fun iv wr => ∃ (k : Nat) (s : St), k ≤ n ∧ iv = .int .i64 k ∧ Env W (shapeC sets ways ns delay seed) wr ∧ Good delay ns wr g s) (fun iv _ => n - (intOf iv).toNat)
  case atStart => exact ⟨0, _, Nat.zero_le _, rfl, E2, G2⟩
  case round =>
    obtain ⟨k, s, hk, rfl, E3, G3⟩ := hrel
    clear E2 G2
    by_cases hkn : k < n
    · obtain ⟨a, rfl, hab, hcl⟩ := hl.2 (by omega)
      have hcl := hide hcl
      have hin2 : (k : Int) < (n : Int) := by omega
      have hi0 : 0 ≤ (k : Int) := by omega
      have hnm : (n : Int) ≤ 9223372036854775807 := by have := hl.1; rw [maxLen_is] at this; omega
      have hms := meas_succ2 hkn
      have hk1 : k + 1 ≤ n := hkn
      have S3 := step1_of hab hcl.out E3 hkn
      have d0 := S3.d0
      by_cases hkind : (Lf k).1 = 1
      · rw [hkind] at d0
        have E3 := hide E3
        clear S3
        go_wp2_with fail
        go_at_call 13
        refine (Tick_any _ g s G3.held G3.fr).mono ?_
        rintro e w4 ⟨v, rfl, o4, h4, k4⟩
        have E4 := hide (E3.out.kept k4 hog)
        have G4 := G3.tick h4
        clear o4 h4 k4 G3 E3 d0
        go_wp2
        go_roundw
        case rel => exact ⟨k + 1, _, hk1, by simp, E4.out, G4⟩
        case measure => exact hms
      · have hkind2 : ¬ (Lf k).1 = 1 := hkind
        have hsp : ∀ w', Env W (shapeC sets ways ns delay seed) w' → Step1 W (shapeC sets ways ns delay seed) a k (Lf k) w' := fun w' E => step1_of hab hcl.out E hkn
        have hsp := hide hsp
        have H3 := G3.held.drew
        clear S3
        have E3 := hide E3
        go_wp2_with fail
        go_region_held3 (fun w' => Step1 W (shapeC sets ways ns delay seed) a k (Lf k) w' ∧ w'.cell? ⟨(a.add (k * 3)).block, (a.add (k * 3)).off + 1, none⟩ = some (.int .u64 (U (Lf k).2.1)) ∧ w'.cell? ⟨(a.add (k * 3)).block, (a.add (k * 3)).off + 2, none⟩ = some (.bool (Lf k).2.2))
          (first | assumption | exact (hsp.out _ E3.out.drew).fx | exact (hsp.out _ ((E3.out.drew).kept k6 hog)).fx)
          (first
          | (go_at_call 11; refine (Ask_any _ g s _ _ H3).mono ?_; rintro e w6 ⟨rfl, h6, k6⟩))
        all_goals
          have E6 := (E3.out.drew).kept k6 hog
          have G6 := G3.ask h6
          clear h6 k6 G3 E3 H3 d0
          go_wp2
          go_roundw
          case rel => exact ⟨k + 1, _, hk1, by simp, E6, G6⟩
          case measure => exact hms
    · obtain rfl : k = n := by omega
      clear hl hk
      have E3 := hide E3
      go_wp2_with fail
      go_loopw [9] (fun iv wr => ∃ (j : Nat) (s : St), j ≤ delay ∧ iv = .int .i64 j ∧ Env W (shapeC sets ways ns delay seed) wr ∧ Good delay ns wr g s ∧ ∀ i, i < ns → (s.sl i).is = true → (s.sl i).left + j ≤ delay) (fun iv _ => delay + 1 - (intOf iv).toNat)
      case atStart => exact ⟨0, s, Nat.zero_le _, rfl, E3.out, G3, fun i hi e => by have := G3.held.ok.sl i (by rw [G3.ns]; exact hi) e; rw [G3.delay] at this; omega⟩
      case round =>
        obtain ⟨j, s, hj, rfl, E4, G4, hJ⟩ := hrel
        clear E3 G3
        have E4 := hide E4
        have hJ := hide hJ
        go_wp2_with fail
        go_at_call 11
        refine (Ask_any _ g s at_ false G4.held).mono ?_
        have hcs := ask_three s (at_ / 64#64)
        rintro e w5 ⟨rfl, h5, k5⟩
        have E5 := hide (E4.out.kept k5 hog)
        have G5 := G4.ask h5
        clear E4 h5 k5
        rcases hcs with ⟨hr, m, hm⟩ | ⟨hr, hw, i, left, hp⟩ | ⟨hr, hs, hall⟩
        · rw [hr]
          generalize (askS s (at_ / 64#64) false).1 = s' at G5 hm
          clear hr hJ G4 hj
          as_aux_lemma =>
            go_wp2_with fail
            go_at_call 16
            refine (Has_any _ g _ at_ G5.held).mono ?_
            rw [has_wh hm]
            rintro e w6 ⟨rfl, k6⟩
            have E6 := E5.out.still k6
            have G6 := G5.still k6
            clear k6 E5 G5
            go_wp2_with fail
            go_at_call 11
            refine (Ask_any _ g _ at_ true G6.held).mono ?_
            rw [ask_hit hm]
            rintro e w7 ⟨rfl, h7, k7⟩
            have hB := (E6.kept k7 hog).1
            clear h7 k7 E6 G6
            go_wp2
            go_ret
            exact ⟨rfl, hB⟩
        · rw [hr]
          have hp1 : 1 ≤ left := by have := G5.fr i hp.1 hp.2.1; rw [hp.2.2.2] at this; exact this
          have hp2 : left ≤ delay := by have := G5.held.ok.sl i hp.1 hp.2.1; rw [hp.2.2.2, G5.delay] at this; exact this
          generalize (askS s (at_ / 64#64) false).1 = s' at G5 hw hp
          clear hr hJ G4 hj
          as_aux_lemma =>
            go_wp2_with fail
            go_at_call 16
            refine (Has_any _ g _ at_ G5.held).mono ?_
            rw [has_no hw]
            rintro e w6 ⟨rfl, k6⟩
            have E6 := hide (E5.out.still k6)
            have G6 := G5.still k6
            clear k6 E5 G5
            go_wp2_with fail
            generalize hLe : at_ / 64#64 = L at hw hp
            have hmask : L <<< 6 = at_ &&& ~~~63#64 := by rw [← hLe]; exact mask6 at_
            have hLe := hide hLe
            have hmask := hide hmask
            go_loopw [12, 13] (fun cv iv wr => ∃ (j : Nat) (s : St) (came : Bool), j ≤ delay ∧ iv = .int .i64 j ∧ cv = .bool came ∧ Env W (shapeC sets ways ns delay seed) wr ∧ Good delay ns wr g s ∧
                (came = false → s.wh L = none ∧ ∃ i left, Pend s L i left ∧ 1 ≤ left ∧ left + j ≤ delay)) (fun _ iv _ => delay - (intOf iv).toNat)
            case atStart => exact ⟨0, s', false, Nat.zero_le _, rfl, rfl, E6.out, G6, fun _ => ⟨hw, i, left, hp, hp1, hp2⟩⟩
            case round =>
              obtain ⟨j, s, came, hj, rfl, rfl, E7, G7, hcame⟩ := hrel
              clear E6 G6 hw hp hp1 hp2
              have c3 := E7.cells.2.2.2.1
              have E7 := hide E7
              cases came with
              | true =>
                have hB := E7.out.1
                by_cases hjd : (j : Int) < (delay : Int)
                · go_wp2
                  go_ret
                  exact ⟨rfl, hB⟩
                · go_wp2
                  go_ret
                  exact ⟨rfl, hB⟩
              | false =>
                obtain ⟨hw, i, left, hp, hl1, hl2⟩ := hcame rfl
                obtain ⟨l, rfl⟩ : ∃ l, left = l + 1 := ⟨left - 1, by omega⟩
                have hjd : (j : Int) < (delay : Int) := by omega
                have hj1 : j + 1 ≤ delay := by omega
                have hms := meas_succ2 (n := delay) (k := j) (by omega)
                have hl3 : l + (j + 1) ≤ delay := by omega
                have hj64 : (j : Int) < 64 := by omega
                have hj0 : 0 ≤ (j : Int) := by omega
                clear hcame
                go_wp2_with fail
                go_at_call 11
                refine (Ask_any _ g s at_ true G7.held).mono ?_
                rw [hLe.out, ask_waits hp hw true]
                rintro e w8 ⟨rfl, h8, k8⟩
                have E8 := hide (E7.out.kept k8 hog)
                have G8 := G7.ask h8
                have hp8 := pend_ask hp L true
                have hw8 : (askS s L true).1.wh L = none := by rw [(ask_same s L true).1]; exact hw
                generalize (askS s L true).1 = s8 at G8 hp8 hw8
                clear h8 k8 E7 G7 hp hw c3
                go_wp2_with fail
                go_at_call 11
                refine (Ask_any _ g s8 _ false G8.held).mono ?_
                generalize (at_ + _ : BitVec 64) / 64#64 = M
                rintro e w9 ⟨rfl, h9, k9⟩
                have E9 := hide (E8.out.kept k9 hog)
                have G9 := G8.ask h9
                have hp9 := pend_ask hp8 M false
                have hw9 : (askS s8 M false).1.wh L = none := by rw [(ask_same s8 M false).1]; exact hw8
                generalize (askS s8 M false).1 = s9 at G9 hp9 hw9
                clear h9 k9 E8 G8 hp8 hw8
                generalize (askS s8 M false).2 = r9
                as_aux_lemma =>
                  go_wp2_with fail
                  go_at_call 13
                  refine (Tick_any _ g s9 G9.held G9.fr).mono ?_
                  rintro e w10 ⟨v, rfl, o10, h10, k10⟩
                  obtain ⟨z, zc, rfl, hcells⟩ := owns_any o10
                  have E10 := hide (E9.out.kept k10 hog)
                  have G10 := G9.tick h10
                  have hnext := tick_waits hp9 hw9
                  have hlen8 : (tickS s9 s9.ns).2.length ≤ 8 := Nat.le_trans (tick_length s9 _) G9.held.ok.ns.2
                  generalize tickS s9 s9.ns = r10 at G10 hnext hcells hlen8
                  obtain ⟨s10, ds⟩ := r10
                  simp only [] at G10 hnext hcells hlen8
                  have hcells := hide hcells
                  have hnext := hide hnext
                  clear o10 h10 k10 E9 G9 hp9 hw9 E7
                  simp only []
                  go_wp2_with fail
                  go_loopw [12, 15] (fun cv kv wr => ∃ k : Nat, k ≤ ds.length ∧ kv = .int .i64 k ∧ cv = .bool (anyL L ds k) ∧ wr = w10) (fun _ kv _ => ds.length - (intOf kv).toNat)
                  case atStart => exact ⟨0, Nat.zero_le _, rfl, rfl, rfl⟩
                  case round =>
                    obtain ⟨k, hk, rfl, rfl, rfl⟩ := hrel
                    by_cases hkl : k < ds.length
                    · obtain ⟨b, rfl, hcs⟩ := hcells.out (by omega)
                      have hkl2 : (k : Int) < (ds.length : Int) := by omega
                      have hk0 : 0 ≤ (k : Int) := by omega
                      have hms2 := meas_succ2 hkl
                      have hk1 : k + 1 ≤ ds.length := hkl
                      have hd := List.getElem?_eq_getElem hkl
                      generalize ds[k] = dk at hd
                      have x0 := hcs _ _ (dn_at ds k dk hd).1
                      have hany := hide (any_succ (L := L) hd)
                      have hms := hide hms
                      clear hd hcs hcells hnext hms
                      cases hA : anyL L ds k
                      · by_cases he : dk.at_ = L <<< 6
                        · rw [he, hmask.out] at x0
                          go_wp2
                          go_roundw
                          case rel => exact ⟨k + 1, hk1, by simp, by rw [hany.out, hA, he]; simp, trivial⟩
                          case measure => exact hms2
                        · have he2 : ¬ U dk.at_ = U (at_ &&& ~~~63#64) := fun e => he (by rw [hmask.out]; exact U_inj.1 e)
                          have he3 : (U dk.at_ == U (at_ &&& ~~~63#64)) = false := by simpa using he2
                          have he5 : (dk.at_ == L <<< 6) = false := by simpa using he
                          go_wp2
                          go_roundw
                          case rel => exact ⟨k + 1, hk1, by simp, by rw [hany.out, hA, Bool.false_or]; exact congrArg Value.bool (he3.trans he5.symm), trivial⟩
                          case measure => exact hms2
                      · go_wp2
                        go_roundw
                        case rel => exact ⟨k + 1, hk1, by simp, by rw [hany.out, hA]; simp, trivial⟩
                        case measure => exact hms2
                    · obtain rfl : k = ds.length := by omega
                      go_wp2
                      go_roundw
                      case rel =>
                        refine ⟨j + 1, s10, anyL L ds ds.length, hj1, by simp, by first | rfl | trivial, E10.out, G10, fun hc => ?_⟩
                        rcases hnext.out with h1 | ⟨h1, h2, h3⟩
                        · exact absurd h1 (any_not hc)
                        · exact ⟨h1, i, l, h2, h3, hl3⟩
                      case measure => exact hms
        · rw [hr]
          rw [hs] at G5
          have h0 := hJ.out 0 hns1 (hall 0 (by rw [G4.ns]; exact hns1))
          have h01 := G4.fr 0 (by rw [G4.ns]; exact hns1) (hall 0 (by rw [G4.ns]; exact hns1))
          have hj1 : j + 1 ≤ delay := by omega
          have hund : ((underS s s.ns : Nat) : Int) = (ns : Int) := by rw [under_full s.ns hall, G4.ns]
          have hms := meas_succ2 (n := delay + 1) (k := j) (by omega)
          have hgt : ¬ (delay : Int) < (j : Int) := by omega
          have hJ2 : Hid (∀ i, i < ns → ((tickS s s.ns).1.sl i).is = true → ((tickS s s.ns).1.sl i).left + (j + 1) ≤ delay) := hide (fun i hi his => by
            have t := tick_slots s s.ns i (by rw [G4.ns]; exact hi) his
            have t1 := hJ.out i hi t.1
            have t2 := G4.fr i (by rw [G4.ns]; exact hi) t.1
            omega)
          have H5 := G5.held.drew
          clear hr hs hall h0 h01 hJ G4
          as_aux_lemma =>
            go_wp2_with fail
            go_region_held3 (fun w' => Env W (shapeC sets ways ns delay seed) w' ∧ w'.cell? ⟨W.heap.size, 2, none⟩ = some (.int .i64 (ns : Nat)) ∧ w'.cell? ⟨W.heap.size, 3, none⟩ = some (.int .i64 (delay : Nat)))
              (first | assumption | exact ⟨E5.out.drew, E5.out.drew.cells.2.2.1, E5.out.drew.cells.2.2.2.1⟩ | exact ⟨E5.out.drew.still k6, (E5.out.drew.still k6).cells.2.2.1, (E5.out.drew.still k6).cells.2.2.2.1⟩)
              (first
              | (go_at_call 18; refine (Under_lit _ g s _ hund H5).mono ?_; rintro e w6 ⟨rfl, k6⟩))
            all_goals
              have E6 := hide (E5.out.drew.still k6)
              have G6 : Good delay ns _ g s := ⟨H5.still k6, G5.fr, G5.delay, G5.ns⟩
              clear k6 E5 G5 H5
              go_wp2_with fail
              go_at_call 13
              refine (Tick_any _ g s G6.held G6.fr).mono ?_
              rintro e w7 ⟨v, rfl, o7, h7, k7⟩
              have E7 := E6.out.kept k7 hog
              have G7 := G6.tick h7
              clear o7 h7 k7 G6 E6 hund
              go_wp2
              go_roundw
              case rel => exact ⟨j + 1, _, hj1, by simp, E7, G7, hJ2.out⟩
              case measure => exact hms
end Go.Proofs.Ytpflodhnniochaa
