/-
  IssueWakes.
-/
import Derived.Test.YtaeggnnijafooaaIssueX
import Derived.Test.YtaeggnnijafooaaWf
namespace Go.Proofs.Ytaeggnnijafooaa
set_option linter.unusedVariables false
open Go.RowKit Go.Maps

/-- The cells of one that is laid in. -/
def enC (e : En) : Array Value := #[.int .i64 e.tag, .int .i64 e.unit, .int .i64 e.a, .int .i64 e.b, .int .i64 e.c]
theorem enV_eq (e : En) : enV e = .agg (enC e) := rfl
/-- .. as numbers that fit. -/
def EnWf (e : En) : Prop := (Lit.int .i64 e.tag).wf = true ∧ (Lit.int .i64 e.unit).wf = true ∧ (Lit.int .i64 e.a).wf = true ∧ (Lit.int .i64 e.b).wf = true ∧ (Lit.int .i64 e.c).wf = true
/-- The cells of a slice of them. -/
def UopsAt (w : World) (oa : Option Addr) (l : List En) : Prop :=
  l.length ≤ maxLen ∧ (0 < l.length → ∃ a, oa = some a ∧ a.block < w.heap.size ∧ ∀ i e, l[i]? = some e → EnWf e ∧ w.cell? (a.add (i * 5)) = some (.int .i64 e.tag) ∧
    w.cell? ⟨(a.add (i * 5)).block, (a.add (i * 5)).off + 1, none⟩ = some (.int .i64 e.unit) ∧ w.cell? ⟨(a.add (i * 5)).block, (a.add (i * 5)).off + 2, none⟩ = some (.int .i64 e.a) ∧
    w.cell? ⟨(a.add (i * 5)).block, (a.add (i * 5)).off + 3, none⟩ = some (.int .i64 e.b) ∧ w.cell? ⟨(a.add (i * 5)).block, (a.add (i * 5)).off + 4, none⟩ = some (.int .i64 e.c))
/-! Counts. -/
def nrN (s : List En) : Nat := (s.filter fun e => !ready e).length
def rdN (s : List En) : Nat := (s.filter ready).length
theorem count_insS (f : En → Bool) (u : En) : ∀ s : List En, ((insS u s).filter f).length = (s.filter f).length + (if f u = true then 1 else 0)
  | [] => by unfold insS; cases h : f u <;> simp [h]
  | x :: r => by
    unfold insS
    split
    · cases h : f u <;> simp [List.filter_cons, h]
    · have ih := count_insS f u r
      cases hx : f x
      · simp only [List.filter_cons, hx, Bool.false_eq_true, if_false]; exact ih
      · simp only [List.filter_cons, hx, if_true, List.length_cons]; omega
theorem nr_rd : ∀ s : List En, nrN s + rdN s = s.length
  | [] => rfl
  | x :: r => by
    have ih := nr_rd r
    unfold nrN rdN at ih ⊢
    cases h : ready x
    · simp only [List.filter_cons, h, Bool.not_false, if_true, Bool.false_eq_true, if_false, List.length_cons]; omega
    · simp only [List.filter_cons, h, Bool.not_true, if_true, Bool.false_eq_true, if_false, List.length_cons]; omega
theorem ready_strike {p : Int} {e : En} (h : ready e = true) : ready (strike p e) = true := by
  rw [ready_iff] at h ⊢
  intro k
  rw [waits_strike, h]
  rfl
theorem woke_eq (p : Int) (e : En) : woke p e = (!ready e && ready (strike p e)) := by
  unfold woke
  cases hw : waits e p
  · have : ready (strike p e) = ready e := by
      rw [Bool.eq_iff_iff, ready_iff, ready_iff]
      constructor
      · intro h k; rw [waits_not hw]; exact h k
      · intro h k; rw [← waits_not hw]; exact h k
    rw [this]
    cases ready e <;> rfl
  · have : ready e = false := by
      cases h : ready e
      · rfl
      · rw [ready_iff] at h; rw [h] at hw; cases hw
    rw [this]
    rfl
theorem wake_count (p : Int) : ∀ s : List En, wakeN p s + nrN (wakeL p s) = nrN s
  | [] => rfl
  | x :: r => by
    have ih := wake_count p r
    unfold wakeN nrN wakeL at ih ⊢
    rw [List.map_cons]
    simp only [List.filter_cons, woke_eq]
    cases h : ready x
    · cases h' : ready (strike p x)
      · simp; omega
      · simp; omega
    · rw [ready_strike h]
      simp
      omega
theorem wake_len (p : Int) (s : List En) : (wakeL p s).length = s.length := List.length_map _
theorem wake_again (p : Int) (s : List En) : wakeN p (wakeL p s) = 0 := by
  unfold wakeN wakeL
  rw [List.length_eq_zero_iff, List.filter_eq_nil_iff]
  intro e he
  obtain ⟨y, hy, rfl⟩ := List.mem_map.1 he
  unfold woke
  rw [waits_strike]
  simp
theorem wake_none {p : Int} {s : List En} (h : ∀ e ∈ s, waits e p = false) : wakeN p s = 0 := by
  unfold wakeN
  rw [List.length_eq_zero_iff, List.filter_eq_nil_iff]
  intro e he
  unfold woke
  rw [h e he]
  simp
theorem waits_neg {p : Int} {e : En} (h : p < 0) : waits e p = false := by
  unfold waits
  simp
  omega
/-- What an entry of s' waits for is in l. -/
def Want (s : List En) (P : Int → Prop) : Prop := ∀ e ∈ s, ∀ x, waits e x = true → P x
theorem want_wake {s : List En} {P : Int → Prop} (h : Want s P) (p : Int) : Want (wakeL p s) fun x => P x ∧ x ≠ p := by
  intro e he x hx
  obtain ⟨y, hy, rfl⟩ := List.mem_map.1 he
  rw [waits_strike] at hx
  simp at hx
  exact ⟨h y hy x hx.1, hx.2⟩
theorem want_none {s : List En} {P : Int → Prop} (h : Want s P) (hP : ∀ x, ¬ P x) : ∀ e ∈ s, ready e = true := fun e he => (ready_iff e).2 fun k => by
  cases hw : waits e k
  · rfl
  · exact absurd (h e he k hw) (hP k)
theorem nr_none {s : List En} (h : ∀ e ∈ s, ready e = true) : nrN s = 0 := by
  unfold nrN
  rw [List.length_eq_zero_iff, List.filter_eq_nil_iff]
  intro e he
  simp [h e he]
theorem pick_all : ∀ (f : Int → Int) (s : List En), (∀ e ∈ s, ready e = true ∧ (s.length : Int) ≤ f e.unit) → pickS f s = ([], tags s)
  | f, [], _ => rfl
  | f, e :: r, h => by
    obtain ⟨h1, h2⟩ := h e (by simp)
    rw [pickS_yes _ ⟨h1, by simp at h2; omega⟩, pick_all _ r fun y hy => ⟨(h y (by simp [hy])).1, by
      have := (h y (by simp [hy])).2
      simp at this
      unfold upd
      split
      · rename_i hyu; rw [hyu] at this; omega
      · omega⟩]
    rfl
/-! A slice that grows beside the queue. -/
theorem Owns.keep {w w' : World} {base n size : Nat} {e : TypeId} {v : Value} {xs : List Value} (h : w.ownsRow base e size v n xs) (hk : ∀ b, v.ownBlock = some b → w'.heap[b]? = w.heap[b]?) : w'.ownsRow base e size v n xs := by
  obtain ⟨h1, h2⟩ := h
  refine ⟨h1, ?_⟩
  rcases h2 with h2 | ⟨g, cap, cur, rfl, r2, r3, r4⟩
  · exact .inl h2
  · exact .inr ⟨g, cap, cur, rfl, r2, (hk g rfl).trans r3, r4⟩
/-- A slice of numbers that nobody else holds, beside the queue. -/
structure Lst (w : World) (base : Nat) (g : G) (s : List En) (v : Value) (l : List Int) : Prop where
  owns : w.ownsRow base 3 1 v l.length (l.map (Value.int .i64))
  apart : ∀ b, v.ownBlock = some b → ¬ g.own s b
theorem Lst.lt {w : World} {base : Nat} {g : G} {s : List En} {v : Value} {l : List Int} (h : Lst w base g s v l) : ∀ b, v.ownBlock = some b → base ≤ b ∧ b < w.heap.size := World.ownsRow.lt h.owns
theorem Lst.step {w w' : World} {base : Nat} {g g' : G} {s s' : List En} {v : Value} {l : List Int} (h : Lst w base g s v l) (k : Kept (g.own s) w w') (ho : ∀ b, g'.own s' b → g.own s b ∨ w.heap.size ≤ b) : Lst w' base g' s' v l :=
  ⟨Owns.keep h.owns fun b hb => k.block b (h.lt b hb).2 (h.apart b hb), fun b hb e => by
    rcases ho b e with h1 | h1
    · exact h.apart b hb h1
    · have := (h.lt b hb).2; omega⟩
theorem Lst.on {w w' : World} {base : Nat} {g : G} {s : List En} {v : Value} {l : List Int} (h : Lst w base g s v l) (k : Still w w') : Lst w' base g s v l :=
  h.step (k.mono fun _ e => e.elim) fun b hb => .inl hb
theorem ret_b {a b : Bool} (h : b = a) : Ending.returned (.bool a) = Ending.returned (.bool b) := by rw [h]
theorem ready_t {e : En} (h : e.a < 0 ∧ e.b < 0 ∧ e.c < 0) : ready e = true := by unfold ready; simp [h]
theorem ready_f {e : En} (h : ¬ (e.a < 0 ∧ e.b < 0 ∧ e.c < 0)) : ready e = false := by unfold ready; simp; omega
set_option maxRecDepth 100000 in
set_option maxHeartbeats 4000000 in
theorem Ready_any (w : World) (e : En) : Calls Try.prog 26 #[enV e] w fun r w' => r = .returned (.bool (ready e)) ∧ Still w w' := by
  unfold enV
  go_enter Try.func26, Try.ntmps26
  by_cases ha : e.a < 0
  · by_cases hb : e.b < 0
    · by_cases hc : e.c < 0
      · go_wp2
        go_ret
        exact ⟨ret_b (ready_t ⟨ha, hb, hc⟩), (Kept.refl _ w).alloc _⟩
      · have hc' : 0 ≤ e.c := by omega
        go_wp2
        go_ret
        exact ⟨ret_b (ready_f (by omega)), (Kept.refl _ w).alloc _⟩
    · have hb' : 0 ≤ e.b := by omega
      go_wp2
      go_ret
      exact ⟨ret_b (ready_f (by omega)), (Kept.refl _ w).alloc _⟩
  · have ha' : 0 ≤ e.a := by omega
    go_wp2
    go_ret
    exact ⟨ret_b (ready_f (by omega)), (Kept.refl _ w).alloc _⟩
theorem maxLen_is : maxLen = 9223372036854775807 := by unfold maxLen; rfl
theorem Kept.cellA {S : Nat → Prop} {w w' : World} (h : Kept S w w') {p : Addr} {v : Value} (hc : w.cell? p = some v) (hs : ¬ S p.block) : w'.cell? p = some v := by
  have := h.block p.block (World.block_lt_of_cell? w p hc) hs
  unfold World.cell? at hc ⊢
  rw [this]; exact hc
/-- One of the slice's. -/
structure UopAt (w : World) (a : Addr) (i : Nat) (e : En) : Prop where
  d0 : w.cell? (a.add (i * 5)) = some (.int .i64 e.tag)
  d1 : w.cell? ⟨(a.add (i * 5)).block, (a.add (i * 5)).off + 1, none⟩ = some (.int .i64 e.unit)
  d2 : w.cell? ⟨(a.add (i * 5)).block, (a.add (i * 5)).off + 2, none⟩ = some (.int .i64 e.a)
  d3 : w.cell? ⟨(a.add (i * 5)).block, (a.add (i * 5)).off + 3, none⟩ = some (.int .i64 e.b)
  d4 : w.cell? ⟨(a.add (i * 5)).block, (a.add (i * 5)).off + 4, none⟩ = some (.int .i64 e.c)
theorem UopAt.on {w w' : World} {a : Addr} {i : Nat} {e : En} (h : UopAt w a i e) (k : Still w w') : UopAt w' a i e :=
  ⟨k.cellA h.d0 (fun e => e), k.cellA h.d1 (fun e => e), k.cellA h.d2 (fun e => e), k.cellA h.d3 (fun e => e), k.cellA h.d4 (fun e => e)⟩
/-- What is known of the registers that were asked for. -/
structure Alls (s : List En) (all : List Int) : Prop where
  want : Want s fun x => x ∈ all
  wf : ∀ x ∈ all, (Lit.int .i64 x).wf = true
  len : all.length = 3 * s.length
theorem Alls.more {s : List En} {all : List Int} (h : Alls s all) {u : En} (hu : EnWf u) : Alls (insS u s) (all ++ [u.a, u.b, u.c]) := by
  refine ⟨fun e he x hx => ?_, fun x hx => ?_, by rw [List.length_append, length_insS, h.len]; simp; omega⟩
  · rcases mem_insS.1 he with rfl | he
    · unfold waits at hx
      simp at hx
      rcases hx.2 with (h | h) | h <;> simp [h]
    · exact List.mem_append.2 (.inl (h.want e he x hx))
  · rcases List.mem_append.1 hx with hx | hx
    · exact h.wf x hx
    · simp at hx
      rcases hx with rfl | rfl | rfl
      · exact hu.2.2.1
      · exact hu.2.2.2.1
      · exact hu.2.2.2.2
theorem UopAt.src {w : World} {a : Addr} {i : Nat} {e : En} (h : UopAt w a i e) {j : Nat} {y : Int} (hy : [e.a, e.b, e.c][j]? = some y) : w.cell? ⟨(a.add (i * 5)).block, (a.add (i * 5)).off + 2 + j, none⟩ = some (.int .i64 y) := by
  match j with
  | 0 => cases hy; exact h.d2
  | 1 => cases hy; exact h.d3
  | 2 => cases hy; exact h.d4
  | j + 3 => simp at hy
theorem grow_all {W w w' : World} {g : G} {size : Int} {s : List En} {v v' : Value} {l : List Int} {y : Int} {o : Obj} (h : Held w g size s) (M : Mine W g s w) (L : Lst w W.heap.size g s v l)
    (hown : w'.ownsRow W.heap.size 3 1 v' (l.length + 1) (l.map (Value.int .i64) ++ [.int .i64 y])) (hg : (w.alloc o).grownBy w' v.ownBlock) (hloc : v'.ownBlock = v.ownBlock ∨ v'.ownBlock = some (w.alloc o).heap.size) :
    Held w' g size s ∧ Mine W g s w' ∧ Lst w' W.heap.size g s v' (l ++ [y]) := by
  have k : Kept (fun b => v.ownBlock = some b) w w' := ((Kept.refl _ w).alloc o).grown hg (fun p hp => .inl hp)
  refine ⟨h.kept k fun b hb e => L.apart b e hb, ⟨M.still.start (k.mono fun b hb => .inr (L.lt b hb).1), M.mine⟩, ⟨by simpa using hown, fun b hb e => ?_⟩⟩
  rcases hloc with h1 | h1
  · exact L.apart b (h1 ▸ hb) e
  · rw [h1] at hb
    cases hb
    have := h.lt e
    simp at this
    omega
set_option maxRecDepth 100000 in
set_option maxHeartbeats 4000000 in
theorem Wakes_fine (W : World) (oa : Option Addr) (l : List En) (cap : Nat) (p : Int) (hl : UopsAt W oa l) (hp : (Lit.int .i64 p).wf = true) :
    Calls Try.prog 7 #[.slice oa l.length cap, .int .i64 p] W fun e w' => e = .returned (.bool true) ∧ Below W.heap.size W w' := by
  obtain ⟨i0, hi, hz0, hz1, hz2⟩ := info_parts infoI
  go_enter Try.func7, Try.ntmps7
  go_wp2_with fail
  go_at_call 8
  refine (fixed_any _).mono ?_
  rintro e w1 ⟨rfl, k1⟩
  go_wp2_with fail
  go_at_call 9
  refine (New_fine w1 64 (by omega)).mono ?_
  rintro e w2 ⟨⟨q, m, bl⟩, rfl, h2, k2, ho⟩
  go_wp2_with fail
  have M2 : Mine W ⟨q, m, bl⟩ [] (w2.alloc (.cells #[] 3)) := ⟨(((Kept.refl _ W).still k1).still k2).alloc _, fun b hb => Nat.le_trans k1.size (ho b hb)⟩
  have L2 : Lst (w2.alloc (.cells #[] 3)) W.heap.size ⟨q, m, bl⟩ [] (.slice (some ⟨w2.heap.size, 0, none⟩) 0 0) [] :=
    ⟨World.ownsRow_made w2 #[] 0 (Nat.le_trans k1.size k2.size) (Nat.zero_le _) rfl, fun b hb e => by have := h2.lt e; cases hb; exact absurd this (Nat.lt_irrefl _)⟩
  replace h2 := h2.alloc (.cells #[] 3)
  have hWs : W.heap.size ≤ (w2.alloc (.cells #[] 3)).heap.size := by have := k1.size; have := k2.size; simp; omega
  generalize w2.alloc (.cells #[] 3) = w3 at *
  have A2 : Alls [] [] := ⟨fun e he => absurd he (by simp), fun x hx => absurd hx (by simp), rfl⟩
  clear k1 k2 ho
  go_loopw [6, 7, 8, 9] (fun dv fv av iv wr => ∃ (k m : Nat) (bl : Int → Nat) (s : List En) (all : List Int), k ≤ l.length ∧ iv = .int .i64 k ∧ dv = .int .i64 s.length ∧ fv = .int .i64 (rdN s : Nat) ∧
      Held wr ⟨q, m, bl⟩ 64 s ∧ Mine W ⟨q, m, bl⟩ s wr ∧ Lst wr W.heap.size ⟨q, m, bl⟩ s av all ∧ Alls s all) (fun _ _ _ iv _ => l.length - (intOf iv).toNat)
  case atStart => exact ⟨0, m, bl, [], [], Nat.zero_le _, rfl, rfl, rfl, h2, M2, L2, A2⟩
  case round =>
    clear h2 M2 L2 A2 hWs m bl
    obtain ⟨k, m, bl, s, all, hk, rfl, rfl, rfl, h3, M3, L3, A3⟩ := hrel
    by_cases hkn : k < l.length
    · obtain ⟨a, rfl, hab, hcl⟩ := hl.2 (by omega)
      have hlk := List.getElem?_eq_getElem hkn
      generalize l[k] = u at hlk
      obtain ⟨hwf, c0, c1, c2, c3, c4⟩ := hcl k u hlk
      have hUA : UopAt W a k u := ⟨c0, c1, c2, c3, c4⟩
      clear c0 c1 c2 c3 c4 hcl hlk
      obtain ⟨d0, d1, d2, d3, d4⟩ := hUA.on M3.still
      have hin2 : (k : Int) < (l.length : Int) := by omega
      have hi0 : 0 ≤ (k : Int) := by omega
      have hnm : (l.length : Int) ≤ 9223372036854775807 := by have := hl.1; rw [maxLen_is] at this; omega
      have hms := meas_k hkn
      have hk1 : k + 1 ≤ l.length := hkn
      go_wp2_with fail
      go_at_call 11
      refine (Insert_any wr ⟨q, m, bl⟩ 64 s u h3 hwf.1 hwf.2.2.1 hwf.2.2.2.1 hwf.2.2.2.2).mono ?_
      rintro e w4 ⟨rfl, ⟨q', m4, bl4⟩, hq, h4, k4, o4⟩
      obtain rfl : q = q' := Eq.symm hq
      have M4 := M3.step k4 o4
      have L4 := L3.step k4 o4
      have hroom := h3.room.1
      clear h3 M3 L3 k4 o4 hq d0 d1 d2 d3 d4 m bl
      have hwl := hl.1
      cases hok : insOk 64 s u
      · rw [insL_no hok] at h4 M4 L4
        clear hok
        go_wp2
        go_roundw
        case rel => exact ⟨k + 1, m4, bl4, s, all, hk1, by simp, rfl, rfl, h4, M4, L4, A3⟩
        case measure => exact hms
      · rw [insL_yes hok] at h4 M4 L4
        have hlen4 : s.length < 64 := by
          have := h4.room.1
          rw [length_insS] at this
          omega
        have hrdl : rdN s ≤ s.length := List.length_filter_le _ _
        have A4 := A3.more hwf
        have hrd : rdN (insS u s) = rdN s + (if ready u = true then 1 else 0) := count_insS ready u s
        have hln : (insS u s).length = s.length + 1 := length_insS u s
        obtain ⟨d0, d1, d2, d3, d4⟩ := hUA.on M4.still
        have hrd := hide hrd
        replace hln := hide hln
        clear hok
        go_wp2_with fail
        go_at_call 26
        refine (Ready_any w4 u).mono ?_
        rintro e w5 ⟨rfl, k5⟩
        have M5 := M4.on k5
        have L5 := L4.on k5
        have h5 := h4.still k5
        obtain ⟨d0, d1, d2, d3, d4⟩ := hUA.on M5.still
        clear h4 M4 L4 k5
        cases hru : ready u
        all_goals
          rw [hru] at hrd
          replace hrd := hide hrd
          clear hru
          go_wp2_with fail
          go_loopw [8, 12] (fun av jv wr => ∃ j : Nat, j ≤ 3 ∧ jv = .int .i64 j ∧ Held wr ⟨q, m4, bl4⟩ 64 (insS u s) ∧ Mine W ⟨q, m4, bl4⟩ (insS u s) wr ∧ Lst wr W.heap.size ⟨q, m4, bl4⟩ (insS u s) av (all ++ [u.a, u.b, u.c].take j)) (fun _ jv _ => 3 - (intOf jv).toNat)
          case atStart => exact ⟨0, Nat.zero_le _, rfl, h5, M5, by simpa using L5⟩
          case round =>
            clear h5 M5 L5 d0 d1 d2 d3 d4
            obtain ⟨j, hj, rfl, h6, M6, L6⟩ := hrel
            by_cases hj3 : j < 3
            · have hms3 := meas3 hj3
              obtain ⟨d0, d1, d2, d3, d4⟩ := hUA.on M6.still
              have hj0 : 0 ≤ (j : Int) := by omega
              have hj3' : (j : Int) < 3 := by omega
              obtain ⟨y, hy⟩ : ∃ y, [u.a, u.b, u.c][j]? = some y := ⟨_, List.getElem?_eq_getElem (by simpa using hj3)⟩
              have dj := (hUA.on M6.still).src hy
              have hlz : (all ++ [u.a, u.b, u.c].take j).length < 1000 := by
                rw [List.length_append, A3.len]; simp; omega
              have htk : [u.a, u.b, u.c].take (j + 1) = [u.a, u.b, u.c].take j ++ [y] := by rw [List.take_add_one, hy]; rfl
              have hWs : W.heap.size ≤ wr.heap.size := M6.still.size
              replace hy := hide hy
              replace htk := hide htk
              go_wp2_with (first
                | (at_builtin; refine wpList_append_own_at _ rfl _ _ 36 rfl W.heap.size 3 i0 (.int .i64 0) 1 8 Try.underlying36 hi hz0 hz1 hz2 rfl (by decide) _ _ _ rfl (L6.owns.alloc _) ⟨wr.heap.size, 0, none⟩ 1 1 [.int .i64 y] rfl rfl (cell_one_new _ _ _) (by simp [Value.oneCell']) (by unfold maxLen; omega) (by omega) (by simp; omega) ?_; intro v' w7 hown' hg7 hnil7 hloc7; go_frame))
              obtain ⟨h7, M7, L7⟩ := grow_all h6 M6 L6 hown' hg7 hloc7
              go_roundw
              case rel => exact ⟨j + 1, hj3, by simp, h7, M7, by rw [htk.out, ← List.append_assoc]; exact L7⟩
              case measure => exact hms3
            · obtain rfl : j = 3 := by omega
              have hj3 : ¬ (3 : Int) < 3 := by omega
              go_wp2
              go_roundw
              case rel => exact ⟨k + 1, m4, bl4, insS u s, all ++ [u.a, u.b, u.c], hk1, by simp, by rw [hln.out]; simp, by rw [hrd.out]; simp, h6, M6, L6, A4⟩
              case measure => exact hms
    · have hkk : ¬ (k : Int) < (l.length : Int) := by omega
      have hroom := h3.room.1
      have hall := A3.len
      have hall3 : all.length ≤ 192 := by omega
      replace hall := hide hall
      have hrows := ints_of L3.owns rfl
      obtain ⟨z, zc, rfl, hz⟩ := hrows
      have hz := hide hz
      have hWs := M3.still.size
      go_wp2_with fail
      go_loopw [13, 14] (fun fv iv wr' => ∃ j : Nat, j ≤ all.length ∧ iv = .int .i64 j ∧ fv = .bool (decide (p ∈ all.take j)) ∧ wr' = wr) (fun _ iv _ => all.length - (intOf iv).toNat)
      case atStart => exact ⟨0, Nat.zero_le _, rfl, rfl, rfl⟩
      case round =>
        obtain ⟨j, hj, rfl, rfl, rfl⟩ := hrel
        by_cases hjn : j < all.length
        · obtain ⟨b, rfl, hb, hbl, hc⟩ := hz.out (by omega)
          have hx := List.getElem?_eq_getElem hjn
          generalize all[j] = x at hx
          have x0 := hc _ _ hx
          have hin : (j : Int) < (all.length : Int) := by omega
          have hin0 : 0 ≤ (j : Int) := by omega
          have hjk : (j : Int) < 1000 := by omega
          have hms := meas_k hjn
          have htk : decide (p ∈ all.take (j + 1)) = (decide (p ∈ all.take j) || (x == p)) := by
            rw [List.take_add_one, hx, Bool.eq_iff_iff]
            simp only [decide_eq_true_eq, Bool.or_eq_true, beq_iff_eq, List.mem_append, Option.toList_some, List.mem_singleton]
            exact or_congr Iff.rfl ⟨Eq.symm, Eq.symm⟩
          replace htk := hide htk
          clear hc hx
          cases hf : decide (p ∈ all.take j)
          · rw [hf] at htk
            clear hf
            go_wp2_with fail
            go_roundw
            case rel => exact ⟨j + 1, hjn, by simp, by rw [htk.out]; rfl, trivial⟩
            case measure => exact hms
          · rw [hf] at htk
            clear hf
            go_wp2_with fail
            go_roundw
            case rel => exact ⟨j + 1, hjn, by simp, by rw [htk.out]; rfl, trivial⟩
            case measure => exact hms
        · obtain rfl : j = all.length := by omega
          have hfo : decide (p ∈ all.take all.length) = decide (p ∈ all) := by rw [List.take_length]
          rw [hfo]
          clear hfo
          have hir : ¬ (all.length : Int) < (all.length : Int) := Int.lt_irrefl _
          have hN : (p ∉ all ∨ p < 0) → wakeN p s = 0 := fun h => wake_none fun e he => by
            rcases h with h | h
            · cases hw : waits e p
              · rfl
              · exact absurd (A3.want e he p hw) h
            · exact waits_neg h
          have hN := hide hN
          go_wp2_with fail
          go_at_call 13
          refine (Wake_any _ _ 64 p s h3 hp).mono ?_
          rintro e w4 ⟨rfl, h4, k4⟩
          have M4 : Mine W ⟨q, m, bl⟩ (wakeL p s) w4 := M3.step k4 (fun b hb => .inl (own_wake hb))
          have L4 : Lst w4 W.heap.size ⟨q, m, bl⟩ (wakeL p s) (.slice z all.length zc) all := L3.step k4 (fun b hb => .inl (own_wake hb))
          have W4 := want_wake A3.want p
          have hcnt := wake_count p s
          have hw2 := wake_again p s
          have hcnt2 := wake_count p (wakeL p s)
          have hl2 := wake_len p s
          have hfr := nr_rd s
          have hwfa := A3.wf
          clear h3 M3 L3 A3 k4
          generalize wakeL p s = s1 at *
          generalize wakeN p s = N at *
          have hrdl : rdN s ≤ s.length := by omega
          replace hcnt := hide hcnt
          replace hcnt2 := hide hcnt2
          replace hfr := hide hfr
          replace hwfa := hide hwfa
          replace W4 := hide W4
          replace hl2 := hide hl2
          have hways : (decide (p ∈ all) = false ∧ N = 0) ∨ (decide (p ∈ all) = true ∧ p < 0 ∧ N = 0) ∨ (decide (p ∈ all) = true ∧ 0 ≤ p) := by
            cases hd : decide (p ∈ all)
            · exact .inl ⟨rfl, hN.out (.inl (of_decide_eq_false hd))⟩
            · by_cases hp0 : p < 0
              · exact .inr (.inl ⟨rfl, hp0, hN.out (.inr hp0)⟩)
              · exact .inr (.inr ⟨rfl, by omega⟩)
          clear hN
          generalize decide (p ∈ all) = fo at *
          rcases hways with ⟨rfl, rfl⟩ | ⟨rfl, hp0, rfl⟩ | ⟨rfl, hp0⟩
          all_goals
            go_wp2_with fail
            go_at_call 13
            refine (Wake_any _ _ 64 p s1 h4 hp).mono ?_
            rintro e w5 ⟨rfl, h5, k5⟩
            rw [hw2]
            have M5 : Mine W ⟨q, m, bl⟩ (wakeL p s1) w5 := M4.step k5 (fun b hb => .inl (own_wake hb))
            have L5 : Lst w5 W.heap.size ⟨q, m, bl⟩ (wakeL p s1) (.slice z all.length zc) all := L4.step k5 (fun b hb => .inl (own_wake hb))
            have W5 := want_wake W4.out p
            have hl5 := (wake_len p s1).trans hl2.out
            have hcnt5 := hcnt2.out
            rw [hw2] at hcnt5
            clear h4 M4 L4 k5 W4 hl2
            generalize wakeL p s1 = s2 at *
            replace hcnt5 := hide hcnt5
            replace W5 := hide W5
            replace hl5 := hide hl5
            go_wp2_with fail
            go_loopw [16, 17] (fun sv iv wr' => ∃ (j t : Nat) (s' : List En), j ≤ all.length ∧ iv = .int .i64 j ∧ sv = .int .i64 t ∧ t + nrN s' = nrN s ∧ s'.length = s.length ∧ Want s' (fun x => x ∈ all ∧ x ∉ all.take j) ∧
              Held wr' ⟨q, m, bl⟩ 64 s' ∧ Mine W ⟨q, m, bl⟩ s' wr' ∧ Lst wr' W.heap.size ⟨q, m, bl⟩ s' (.slice z all.length zc) all) (fun _ iv _ => all.length - (intOf iv).toNat)
            case atStart =>
              have hc := hcnt.out
              have hc5 := hcnt5.out
              first
              | exact ⟨0, N, s2, Nat.zero_le _, rfl, rfl, by omega, hl5.out, fun e he x hx => ⟨(W5.out e he x hx).1.1, by simp⟩, h5, M5, L5⟩
              | exact ⟨0, 0, s2, Nat.zero_le _, rfl, rfl, by omega, hl5.out, fun e he x hx => ⟨(W5.out e he x hx).1.1, by simp⟩, h5, M5, L5⟩
            case round =>
              clear h5 M5 L5 W5 hl5 hcnt5 hcnt hcnt2
              obtain ⟨j, t, s', hj, rfl, rfl, ht, hls, hW, h6, M6, L6⟩ := hrel
              have hnr := nr_rd s'
              have hfr' := hfr.out
              have htb : t ≤ 64 := by omega
              have hrt : rdN s ≤ 64 := by omega
              replace ht := hide ht
              replace hls := hide hls
              replace hW := hide hW
              replace hnr := hide hnr
              clear hfr'
              by_cases hjn : j < all.length
              · obtain ⟨z', zc', hzz, hz2⟩ := ints_of L6.owns rfl
                cases hzz
                obtain ⟨b, rfl, hb, hbl, hc⟩ := hz2 (by omega)
                have hx := List.getElem?_eq_getElem hjn
                generalize all[j] = x at hx
                have x0 := hc _ _ hx
                have hin : (j : Int) < (all.length : Int) := by omega
                have hin0 : 0 ≤ (j : Int) := by omega
                have hjk : (j : Int) < 1000 := by omega
                have hms := meas_k hjn
                have hxw := hwfa.out x (List.mem_of_getElem? hx)
                have htk : all.take (j + 1) = all.take j ++ [x] := by rw [List.take_add_one, hx]; rfl
                replace htk := hide htk
                clear hc hx hz2
                go_wp2_with fail
                go_at_call 13
                refine (Wake_any _ _ 64 x s' h6 hxw).mono ?_
                rintro e w7 ⟨rfl, h7, k7⟩
                have M7 : Mine W ⟨q, m, bl⟩ (wakeL x s') w7 := M6.step k7 (fun b hb => .inl (own_wake hb))
                have L7 : Lst w7 W.heap.size ⟨q, m, bl⟩ (wakeL x s') _ all := L6.step k7 (fun b hb => .inl (own_wake hb))
                have W7 := want_wake hW.out x
                have hc7 := wake_count x s'
                have hwn : wakeN x s' ≤ 64 := by have := hnr.out; have := hls.out; omega
                have hts : t + wakeN x s' + nrN (wakeL x s') = nrN s := by have := ht.out; omega
                have hls7 := (wake_len x s').trans hls.out
                replace hts := hide hts
                clear h6 M6 L6 k7 hc7
                generalize wakeN x s' = N7 at *
                generalize wakeL x s' = s7 at *
                replace hls7 := hide hls7
                replace W7 := hide W7
                go_wp2
                go_roundw
                case rel => exact ⟨j + 1, t + N7, s7, hjn, by simp, by simp, hts.out, hls7.out, fun e he y hy => by
                  have := W7.out e he y hy
                  refine ⟨this.1.1, ?_⟩
                  rw [htk.out]
                  simp [this.1.2, this.2], h7, M7, L7⟩
                case measure => exact hms
              · obtain rfl : j = all.length := by omega
                have hir : ¬ (all.length : Int) < (all.length : Int) := Int.lt_irrefl _
                have hrdy : ∀ e ∈ s', ready e = true := want_none hW.out fun x hx => hx.2 (by rw [List.take_length]; exact hx.1)
                have hn0 := nr_none hrdy
                have hpk : pickS (fun _ => 64) s' = ([], tags s') := pick_all _ s' fun e he => ⟨hrdy e he, by have := hls.out; show (s'.length : Int) ≤ 64; omega⟩
                have hsum : t + rdN s = s.length := by have := ht.out; have := hfr.out; omega
                have hsumI : (t : Int) + (rdN s : Int) = (s.length : Int) := by omega
                have hlt := length_tags s'
                replace hpk := hide hpk
                replace hlt := hide hlt
                clear hrdy hn0 hsum
                go_wp2_with fail
                go_at_call 15
                refine (Pick_any _ ⟨q, m, bl⟩ 64 s' (fun _ => 64) h6 (fun _ => rfl)).mono ?_
                rintro e w7 ⟨v7, rfl, i7, h7, k7⟩
                rw [hpk.out] at i7 h7
                have M7 : Mine W ⟨q, m, bl⟩ [] w7 := M6.step k7 (fun b hb => .inl (own_mono (fun e he => by cases he) hb))
                obtain ⟨z7, cap7, rfl, -⟩ := i7
                have hl7 : (tags s').length = s.length := hlt.out.trans hls.out
                have hl7' : ∀ z c, Value.slice z (tags s').length c = Value.slice z s.length c := fun z c => by rw [hl7]
                simp only [hl7']
                clear hl7 hl7' k7 h6 M6 L6
                go_wp2_with fail
                go_at_call 20
                refine (Tags_ints _ _ 64 [] h7).mono ?_
                rintro e w8 ⟨v8, rfl, i8, k8⟩
                have M8 := M7.on k8
                obtain ⟨z8, cap8, rfl, -⟩ := i8
                have hk0 : ∀ z cap, Value.slice z (tags ([] : List En)).length cap = Value.slice z 0 cap := fun _ _ => rfl
                simp only [hk0]
                clear hk0
                go_wp2
                go_ret
                exact ⟨rfl, M8.still.below (Nat.le_refl _) (fun _ _ e => e)⟩
end Go.Proofs.Ytaeggnnijafooaa
