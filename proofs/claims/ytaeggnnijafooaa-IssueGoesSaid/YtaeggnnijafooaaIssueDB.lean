/-
  The walk of IssueDoes.
-/
import Derived.Test.YtaeggnnijafooaaIssueDA
namespace Go.Proofs.Ytaeggnnijafooaa
set_option linter.unusedVariables false
open Go.RowKit Go.Maps

/-- A thing that is done. -/
structure Sx where
  kind : Int
  n : Int
  u : En
  f : Int → Int
def SxWf (x : Sx) : Prop := (Lit.int .i64 x.n).wf = true ∧ EnWf x.u ∧ ∀ k, (Lit.int .i64 (x.f k)).wf = true
/-- .. in the slice. -/
structure SxAt (w : World) (a : Addr) (i : Nat) (x : Sx) : Prop where
  d0 : w.cell? (a.add (i * 12)) = some (.int .i64 x.kind)
  d1 : w.cell? ⟨(a.add (i * 12)).block, (a.add (i * 12)).off + 1, none⟩ = some (.int .i64 x.n)
  d2 : w.cell? ⟨(a.add (i * 12)).block, (a.add (i * 12)).off + 2, none⟩ = some (.int .i64 x.u.tag)
  d3 : w.cell? ⟨(a.add (i * 12)).block, (a.add (i * 12)).off + 3, none⟩ = some (.int .i64 x.u.unit)
  d4 : w.cell? ⟨(a.add (i * 12)).block, (a.add (i * 12)).off + 4, none⟩ = some (.int .i64 x.u.a)
  d5 : w.cell? ⟨(a.add (i * 12)).block, (a.add (i * 12)).off + 5, none⟩ = some (.int .i64 x.u.b)
  d6 : w.cell? ⟨(a.add (i * 12)).block, (a.add (i * 12)).off + 6, none⟩ = some (.int .i64 x.u.c)
  d7 : w.cell? ⟨(a.add (i * 12)).block, (a.add (i * 12)).off + 7, none⟩ = some (.int .i64 (x.f 0))
  d8 : w.cell? ⟨(a.add (i * 12)).block, (a.add (i * 12)).off + 8, none⟩ = some (.int .i64 (x.f 1))
  d9 : w.cell? ⟨(a.add (i * 12)).block, (a.add (i * 12)).off + 9, none⟩ = some (.int .i64 (x.f 2))
  d10 : w.cell? ⟨(a.add (i * 12)).block, (a.add (i * 12)).off + 10, none⟩ = some (.int .i64 (x.f 3))
  d11 : w.cell? ⟨(a.add (i * 12)).block, (a.add (i * 12)).off + 11, none⟩ = some (.int .i64 (x.f 4))
theorem SxAt.on {w w' : World} {a : Addr} {i : Nat} {x : Sx} (h : SxAt w a i x) (k : Still w w') : SxAt w' a i x :=
  ⟨k.cellA h.d0 (fun e => e), k.cellA h.d1 (fun e => e), k.cellA h.d2 (fun e => e), k.cellA h.d3 (fun e => e), k.cellA h.d4 (fun e => e), k.cellA h.d5 (fun e => e), k.cellA h.d6 (fun e => e), k.cellA h.d7 (fun e => e), k.cellA h.d8 (fun e => e), k.cellA h.d9 (fun e => e), k.cellA h.d10 (fun e => e), k.cellA h.d11 (fun e => e)⟩
def StepsAt (w : World) (oa : Option Addr) (l : List Sx) : Prop :=
  l.length ≤ maxLen ∧ (0 < l.length → ∃ a, oa = some a ∧ a.block < w.heap.size ∧ ∀ i x, l[i]? = some x → SxWf x ∧ SxAt w a i x)
/-- .. in a variable. -/
structure XAt (w : World) (b : Nat) (x : Sx) : Prop where
  d0 : w.cell? ⟨b, 0, none⟩ = some (.int .i64 x.kind)
  d1 : w.cell? ⟨b, 1, none⟩ = some (.int .i64 x.n)
  d2 : w.cell? ⟨b, 2, none⟩ = some (.int .i64 x.u.tag)
  d3 : w.cell? ⟨b, 3, none⟩ = some (.int .i64 x.u.unit)
  d4 : w.cell? ⟨b, 4, none⟩ = some (.int .i64 x.u.a)
  d5 : w.cell? ⟨b, 5, none⟩ = some (.int .i64 x.u.b)
  d6 : w.cell? ⟨b, 6, none⟩ = some (.int .i64 x.u.c)
  d7 : w.cell? ⟨b, 7, none⟩ = some (.int .i64 (x.f 0))
  d8 : w.cell? ⟨b, 8, none⟩ = some (.int .i64 (x.f 1))
  d9 : w.cell? ⟨b, 9, none⟩ = some (.int .i64 (x.f 2))
  d10 : w.cell? ⟨b, 10, none⟩ = some (.int .i64 (x.f 3))
  d11 : w.cell? ⟨b, 11, none⟩ = some (.int .i64 (x.f 4))
theorem XAt.kept {w w' : World} {b : Nat} {x : Sx} {S : Nat → Prop} (h : XAt w b x) (k : Kept S w w') (hs : ¬ S b) : XAt w' b x :=
  ⟨k.cell h.d0 hs, k.cell h.d1 hs, k.cell h.d2 hs, k.cell h.d3 hs, k.cell h.d4 hs, k.cell h.d5 hs, k.cell h.d6 hs, k.cell h.d7 hs, k.cell h.d8 hs, k.cell h.d9 hs, k.cell h.d10 hs, k.cell h.d11 hs⟩
theorem xAt_new (w : World) (x : Sx) : XAt (w.alloc (.cells #[.int .i64 x.kind, .int .i64 x.n, .int .i64 x.u.tag, .int .i64 x.u.unit, .int .i64 x.u.a, .int .i64 x.u.b, .int .i64 x.u.c, .int .i64 (x.f 0), .int .i64 (x.f 1), .int .i64 (x.f 2), .int .i64 (x.f 3), .int .i64 (x.f 4)] 33)) w.heap.size x :=
  ⟨by simp, by simp, by simp, by simp, by simp, by simp, by simp, by simp, by simp, by simp, by simp, by simp⟩
theorem Duo.xkept {W w w' : World} {g : G} {b : Nat} {v : Value} {size : Int} {s t : List En} {xb : Nat} {x : Sx} (h : Duo W w g b v size s t) (hx : XAt w xb x) (hn : ∀ y, g.own s y → y < xb) (k : Kept (g.own s) w w') : XAt w' xb x := hx.kept k fun e => Nat.lt_irrefl _ (hn xb e)
set_option maxRecDepth 100000 in
set_option maxHeartbeats 16000000 in
theorem Does_fine (W : World) (size : Int) (oa : Option Addr) (l : List Sx) (cap : Nat) (hl : StepsAt W oa l) :
    Calls Try.prog 3 #[.int .i64 size, .slice oa l.length cap] W fun e w' => e = .returned (.bool true) ∧ Below W.heap.size W w' := by
  obtain ⟨i0, hi, hz0, hz1, hz2⟩ := info_parts infoI
  go_enter Try.func3, Try.ntmps3
  go_wp2_with fail
  go_at_call 8
  refine (fixed_any _).mono ?_
  rintro e w1 ⟨rfl, k1⟩
  go_wp2_with fail
  go_at_call 9
  by_cases hsz : size < 1 ∨ 64 < size
  · refine (New_bad w1 size hsz).mono ?_
    rintro e w2 ⟨rfl, rfl⟩
    go_wp2_with fail
    go_at_call 10
    refine (RNew_bad _ size hsz).mono ?_
    rintro e w3 ⟨rfl, rfl⟩
    go_wp2
    go_ret
    exact ⟨rfl, k1.below (Nat.le_refl _) (fun _ _ e => e)⟩
  · have hszg : 1 ≤ size ∧ size ≤ 64 := by omega
    refine (New_fine w1 size hszg).mono ?_
    rintro e w2 ⟨⟨q, m, bl⟩, rfl, h2, k2, ho⟩
    go_wp2_with fail
    go_at_call 10
    refine (RNew_fine _ size hszg).mono ?_
    rintro e w3 ⟨b, rfl, h3, k3, hb⟩
    have D3 : Duo W w3 ⟨q, m, bl⟩ b (.slice none 0 0) size [] [] := by
      refine ⟨h2.still k3, ⟨_, h3⟩, ⟨(k1.trans k2).trans k3, fun x hx => Nat.le_trans k1.size (ho x hx)⟩, fun x hx => ?_, fun x hx hx' => ?_⟩
      · rcases hx with rfl | hx
        · rw [hb]; exact Nat.le_trans k1.size k2.size
        · cases hx
      · have := h2.lt hx
        rcases hx' with rfl | hx'
        · omega
        · cases hx'
    clear h2 k2 ho h3 k3 hb k1 hsz hszg
    go_wp2_with fail
    go_loopw [7] (fun iv wr => ∃ (i m : Nat) (bl : Int → Nat) (v : Value) (s : List En), i ≤ l.length ∧ iv = .int .i64 i ∧ Duo W wr ⟨q, m, bl⟩ b v size s s) (fun iv _ => l.length - (intOf iv).toNat)
    case atStart => exact ⟨0, m, bl, _, [], Nat.zero_le _, rfl, D3⟩
    case round =>
      clear D3 m bl
      obtain ⟨i, m, bl, v, s, hi', rfl, D4⟩ := hrel
      have hlen := D4.len
      by_cases hin : i < l.length
      · obtain ⟨a, rfl, hab, hcl⟩ := hl.2 (by omega)
        have hlk := List.getElem?_eq_getElem hin
        generalize l[i] = x at hlk
        obtain ⟨⟨hnw, huw, hfw⟩, hXA⟩ := hcl i x hlk
        obtain ⟨d0, d1, d2, d3, d4, d5, d6, d7, d8, d9, d10, d11⟩ := hXA.on D4.mq.still
        have hin2 : (i : Int) < (l.length : Int) := by omega
        have hi0 : 0 ≤ (i : Int) := by omega
        have hnm : (l.length : Int) ≤ 9223372036854775807 := by have := hl.1; rw [maxLen_is] at this; omega
        have hms := meas_k hin
        clear hcl hlk
        have hX := xAt_new wr x
        have D5 : Duo W (wr.alloc (.cells #[.int .i64 x.kind, .int .i64 x.n, .int .i64 x.u.tag, .int .i64 x.u.unit, .int .i64 x.u.a, .int .i64 x.u.b, .int .i64 x.u.c, .int .i64 (x.f 0), .int .i64 (x.f 1), .int .i64 (x.f 2), .int .i64 (x.f 3), .int .i64 (x.f 4)] 33)) ⟨q, m, bl⟩ b v size s s := D4.on ((Kept.refl _ wr).alloc _)
        have hxb : ∀ y, G.own ⟨q, m, bl⟩ s y → y < wr.heap.size := fun y hy => D4.lt (.inl hy)
        have hsrt := D4.q.sorted
        have hroom := D4.q.room.1
        have hun := D4.q.units
        replace hun := hide hun
        replace hxb := hide hxb
        clear D4
        by_cases hk0 : x.kind = 0
        · rw [hk0] at hX D5
          go_wp2_with fail
          go_at_call 11
          refine (D5.insQ x.u huw).mono ?_
          rintro e w6 ⟨rfl, ⟨⟨q', m6, bl6⟩, hq, D6⟩, k6⟩
          obtain rfl : q = q' := Eq.symm hq
          obtain ⟨y0, y1, y2, y3, y4, y5, y6, y7, y8, y9, y10, y11⟩ := hX.kept k6 fun e => Nat.lt_irrefl _ (hxb.out _ e)
          clear D5 k6 hq hX
          go_wp2_with fail
          go_at_call 12
          refine (D6.insR x.u hsrt hroom).mono ?_
          rintro e w7 ⟨rfl, v7, D7⟩
          clear D6
          go_wp2
          go_roundw
          case rel => exact ⟨i + 1, m6, bl6, v7, _, hin, by simp, D7⟩
          case measure => exact hms
        · by_cases hk1 : x.kind = 1
          · rw [hk1] at hX D5
            go_wp2_with fail
            go_at_call 13
            refine (D5.wakeQ hnw).mono ?_
            rintro e w6 ⟨rfl, D6, k6⟩
            obtain ⟨y0, y1, y2, y3, y4, y5, y6, y7, y8, y9, y10, y11⟩ := hX.kept k6 fun e => Nat.lt_irrefl _ (hxb.out _ e)
            clear D5 k6 hX
            go_wp2_with fail
            go_at_call 14
            refine (D6.wakeR x.n hlen).mono ?_
            rintro e w7 ⟨rfl, v7, D7⟩
            clear D6
            go_wp2
            go_roundw
            case rel => exact ⟨i + 1, m, bl, v7, _, hin, by simp, D7⟩
            case measure => exact hms
          · by_cases hk2 : x.kind = 2
            · rw [hk2] at hX D5
              go_wp2_with fail
              go_at_call 15
              refine (D5.pickQ hfw).mono ?_
              rintro e w6 ⟨r6, rfl, i6, D6, k6⟩
              obtain ⟨y0, y1, y2, y3, y4, y5, y6, y7, y8, y9, y10, y11⟩ := hX.kept k6 fun e => Nat.lt_irrefl _ (hxb.out _ e)
              have hr6 : ∀ y, rOwn b v y → y < (wr.alloc (.cells #[.int .i64 2, .int .i64 x.n, .int .i64 x.u.tag, .int .i64 x.u.unit, .int .i64 x.u.a, .int .i64 x.u.b, .int .i64 x.u.c, .int .i64 (x.f 0), .int .i64 (x.f 1), .int .i64 (x.f 2), .int .i64 (x.f 3), .int .i64 (x.f 4)] 33)).heap.size := fun y hy => D5.lt (.inr hy)
              clear D5 k6 hX
              go_wp2_with fail
              go_at_call 16
              refine (D6.pickR hfw hlen hun.out).mono ?_
              rintro e w7 ⟨r7, rfl, i7, ⟨v7, D7⟩, k7⟩
              replace i6 := i6.apart k7 hr6
              clear D6 k7 hr6
              go_wp2_with fail
              go_at_call 17
              refine (sameInts_any _ _ _ _ _ _ _ i6 i7 (by have := pick_len x.f s; omega)).mono ?_
              rintro e w8 ⟨rfl, k8⟩
              have hsame : decide ((pickS x.f s).2 = (pickS x.f s).2) = true := decide_eq_true rfl
              rw [hsame]
              have D8 := D7.on k8
              clear D7 i6 i7 k8 hsame
              go_wp2
              go_roundw
              case rel => exact ⟨i + 1, m, bl, v7, _, hin, by simp, D8⟩
              case measure => exact hms
            · by_cases hk3 : x.kind = 3
              · rw [hk3] at hX D5
                go_wp2_with fail
                go_at_call 18
                refine (D5.dropQ x.n).mono ?_
                rintro e w6 ⟨rfl, D6, k6⟩
                obtain ⟨y0, y1, y2, y3, y4, y5, y6, y7, y8, y9, y10, y11⟩ := hX.kept k6 fun e => Nat.lt_irrefl _ (hxb.out _ e)
                clear D5 k6 hX
                go_wp2_with fail
                go_at_call 19
                refine (D6.dropR x.n hlen).mono ?_
                rintro e w7 ⟨rfl, v7, D7⟩
                clear D6
                go_wp2
                go_roundw
                case rel => exact ⟨i + 1, m, bl, v7, _, hin, by simp, D7⟩
                case measure => exact hms
              · clear hX
                go_wp2_with fail
                have hN : ∀ y, (G.own ⟨q, m, bl⟩ s y ∨ rOwn b v y) → y < (wr.alloc (.cells #[.int .i64 x.kind, .int .i64 x.n, .int .i64 x.u.tag, .int .i64 x.u.unit, .int .i64 x.u.a, .int .i64 x.u.b, .int .i64 x.u.c, .int .i64 (x.f 0), .int .i64 (x.f 1), .int .i64 (x.f 2), .int .i64 (x.f 3), .int .i64 (x.f 4)] 33)).heap.size := fun y hy => D5.lt hy
                have hNW : W.heap.size ≤ (wr.alloc (.cells #[.int .i64 x.kind, .int .i64 x.n, .int .i64 x.u.tag, .int .i64 x.u.unit, .int .i64 x.u.a, .int .i64 x.u.b, .int .i64 x.u.c, .int .i64 (x.f 0), .int .i64 (x.f 1), .int .i64 (x.f 2), .int .i64 (x.f 3), .int .i64 (x.f 4)] 33)).heap.size := D5.mq.still.size
                generalize wr.alloc (.cells #[.int .i64 x.kind, .int .i64 x.n, .int .i64 x.u.tag, .int .i64 x.u.unit, .int .i64 x.u.a, .int .i64 x.u.b, .int .i64 x.u.c, .int .i64 (x.f 0), .int .i64 (x.f 1), .int .i64 (x.f 2), .int .i64 (x.f 3), .int .i64 (x.f 4)] 33) = w5 at *
                go_at_call 20
                refine D5.tagsQ.mono ?_
                rintro e w6 ⟨r6, rfl, o6, D6, k6⟩
                have i6 := ints_of o6 (length_tags s).symm
                obtain ⟨z6, c6, rfl, -⟩ := i6
                have i6 := ints_of o6 (length_tags s).symm
                rw [length_tags s] at o6 i6 ⊢
                have hlt6 : w5.heap.size ≤ w6.heap.size := k6.size
                clear D5 k6
                go_wp2_with fail
                go_at_call 21
                refine (D6.tagsR hlen).mono ?_
                rintro e w7 ⟨r7, rfl, i7, D7, k7⟩
                have hlt7 : w6.heap.size ≤ w7.heap.size := k7.size
                replace i6 := i6.still k7
                replace o6 := Owns.keep o6 fun y hy => k7.block y (World.ownsRow.lt o6 y hy).2 (fun e => e)
                clear D6 k7
                go_wp2_with fail
                go_at_call 17
                refine (sameInts_any _ _ _ _ _ _ _ i6 i7 (by rw [length_tags]; omega)).mono ?_
                rintro e w8 ⟨rfl, k8⟩
                have hsame : decide (tags s = tags s) = true := decide_eq_true rfl
                rw [hsame]
                have D8 := D7.on k8
                replace o6 := Owns.keep o6 fun y hy => k8.block y (World.ownsRow.lt o6 y hy).2 (fun e => e)
                have hlt8 : w5.heap.size ≤ w8.heap.size := Nat.le_trans (Nat.le_trans hlt6 hlt7) k8.size
                clear D7 i6 i7 k8 hsame hlt6 hlt7
                replace hN := hide hN
                go_wp2_with fail
                go_loopw [18] (fun kv wr => ∃ (k : Nat) (xs : List Value), k ≤ s.length ∧ kv = .int .i64 k ∧ wr.ownsRow w5.heap.size 3 1 (.slice z6 s.length c6) s.length xs ∧ Duo W wr ⟨q, m, bl⟩ b v size s s ∧ w5.heap.size ≤ wr.heap.size) (fun kv _ => s.length - (intOf kv).toNat)
                case atStart => exact ⟨0, _, Nat.zero_le _, rfl, o6, D8, hlt8⟩
                case round =>
                  clear o6 D8 hlt8
                  obtain ⟨k, xs, hk, rfl, o9, D9, hszw⟩ := hrel
                  by_cases hks : k < s.length
                  · obtain ⟨ab, cap', hsl, hab2, habl⟩ := World.ownsRow.form o9 (by omega)
                    injection hsl with hs1 hs2 hs3
                    subst hs1
                    have hks2 : (k : Int) < (s.length : Int) := by omega
                    have hk0' : 0 ≤ (k : Int) := by omega
                    have hkk : (k : Int) < 1000 := by omega
                    have hms2 := meas_k hks
                    have hfr := World.ownsRow.frozenAt o9 k
                    have ho := (World.ownsRow.stored o9 k (.int .i64 7)).1
                    obtain ⟨cc, hcc⟩ : ∃ cc, wr.cell? ⟨ab, k, none⟩ = some cc := by
                      have hx := World.ownsRow.cellAt o9 k (by omega)
                      have hxl := o9.1
                      rw [List.getElem?_eq_getElem (by omega)] at hx
                      exact ⟨_, hx⟩
                    have kk : Kept (fun y => y = ab) wr (wr.setCell ⟨ab, k, none⟩ (.int .i64 7)) := (Kept.refl _ _).setCell _ _ (.inl rfl)
                    have D10 := D9.kept kk fun y hy => by
                      subst hy
                      exact ⟨Nat.le_trans hNW hab2, fun h => by have := hN.out _ h; omega⟩
                    clear o9 D9 kk
                    go_wp2
                    go_roundw
                    case rel => exact ⟨k + 1, _, hks, by simp, ho, D10, by simpa using hszw⟩
                    case measure => exact hms2
                  · obtain rfl : k = s.length := by omega
                    have hkr : ¬ (s.length : Int) < (s.length : Int) := Int.lt_irrefl _
                    go_wp2_with (first
                      | (at_builtin; refine wpList_append_own_at _ rfl _ _ 36 rfl w5.heap.size 3 i0 (.int .i64 0) 1 8 Try.underlying36 hi hz0 hz1 hz2 rfl (by decide) _ _ _ rfl (o9.alloc _) ⟨wr.heap.size, 0, none⟩ 1 1 [.int .i64 1] rfl rfl (cell_one_new _ _ _) (by simp [Value.oneCell']) (by unfold maxLen; omega) (by omega) (by simp; omega) ?_; intro v11 w11 hown11 hg11 hnil11 hloc11; go_frame))
                    have kk : Kept (fun y => (Value.slice z6 s.length c6).ownBlock = some y) wr w11 := ((Kept.refl _ wr).alloc _).grown hg11 (fun p hp => .inl hp)
                    have D11 := D9.kept kk fun y hy => by
                      have := (World.ownsRow.lt o9 y hy).1
                      exact ⟨Nat.le_trans hNW this, fun h => by have := hN.out _ h; omega⟩
                    go_roundw
                    case rel => exact ⟨i + 1, m, bl, v, s, hin, by simp, D11⟩
                    case measure => exact hms
      · obtain rfl : i = l.length := by omega
        have hir : ¬ (l.length : Int) < (l.length : Int) := Int.lt_irrefl _
        go_wp2_with fail
        go_at_call 20
        refine D4.tagsQ.mono ?_
        rintro e w6 ⟨r6, rfl, o6, D6, k6⟩
        have i6 := ints_of o6 (length_tags s).symm
        clear D4 k6 o6
        go_wp2_with fail
        go_at_call 21
        refine (D6.tagsR hlen).mono ?_
        rintro e w7 ⟨r7, rfl, i7, D7, k7⟩
        replace i6 := i6.still k7
        clear D6 k7
        go_wp2_with fail
        go_at_call 17
        refine (sameInts_any _ _ _ _ _ _ _ i6 i7 (by rw [length_tags]; omega)).mono ?_
        rintro e w8 ⟨rfl, k8⟩
        have hsame : decide (tags s = tags s) = true := decide_eq_true rfl
        rw [hsame]
        have D8 := D7.on k8
        clear D7 i6 i7 k8 hsame
        go_wp2
        go_ret
        exact ⟨rfl, D8.mq.still.below (Nat.le_refl _) (fun _ _ e => e)⟩
end Go.Proofs.Ytaeggnnijafooaa
