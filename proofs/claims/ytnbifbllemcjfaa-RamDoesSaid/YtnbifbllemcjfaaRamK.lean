/-
  The walk of RamApart.
-/
import Derived.Test.YtnbifbllemcjfaaRamO
namespace Go.Proofs.Ytnbifbllemcjfaa
set_option linter.unusedVariables false
open Go.RowKit Go.Maps

/-- Two memories of the call's own, and nothing older turned. -/
structure Two (W w : World) (g o : G) (M O : Nat → BitVec 8) : Prop where
  a : Held w g M
  b : Held w o O
  ma : Mine W g w
  mb : Mine W o w
  ap : Apart g o
theorem Two.symm {W w : World} {g o : G} {M O : Nat → BitVec 8} (h : Two W w g o M O) : Two W w o g O M := ⟨h.b, h.a, h.mb, h.ma, h.ap.symm⟩
theorem Two.on {W w w' : World} {g o : G} {M O : Nat → BitVec 8} (h : Two W w g o M O) (k : Still w w') : Two W w' g o M O := ⟨h.a.still k, h.b.still k, h.ma.on k, h.mb.on k, h.ap⟩
/-- The first is turned. -/
theorem Two.fst {W w w' : World} {q m : Nat} {bl bl' : Nat → Option Nat} {o : G} {M M' O : Nat → BitVec 8} (h : Two W w ⟨q, m, bl⟩ o M O) (h' : Held w' ⟨q, m, bl'⟩ M') (k : Kept (G.mk q m bl).own w w') (ho : ∀ b, (G.mk q m bl').own b → (G.mk q m bl).own b ∨ w.heap.size ≤ b) : Two W w' ⟨q, m, bl'⟩ o M' O := by
  have ma := h.ma.wr k ho
  exact ⟨h', h.b.kept k fun b h1 h2 => h.ap b h2 h1, ma, ⟨ma.still, h.mb.mine⟩, Apart.grow (w := w) h.ap h.b ho⟩
theorem Two.snd {W w w' : World} {q m : Nat} {bl bl' : Nat → Option Nat} {o : G} {M M' O : Nat → BitVec 8} (h : Two W w o ⟨q, m, bl⟩ O M) (h' : Held w' ⟨q, m, bl'⟩ M') (k : Kept (G.mk q m bl).own w w') (ho : ∀ b, (G.mk q m bl').own b → (G.mk q m bl).own b ∨ w.heap.size ≤ b) : Two W w' o ⟨q, m, bl'⟩ O M' := (h.symm.fst h' k ho).symm
/-- A second one is made. -/
theorem Two.make {W w w' : World} {g o : G} {M O : Nat → BitVec 8} (h : Held w g M) (hm : Mine W g w) (h' : Held w' o O) (k : Still w w') (ho : ∀ b, o.own b → w.heap.size ≤ b) : Two W w' g o M O :=
  ⟨h.still k, h', hm.on k, ⟨hm.still.trans k, fun b hb => Nat.le_trans hm.still.size (ho b hb)⟩, Apart.new h ho⟩

/-- A step in a variable. -/
def sC (x : Sy) : Array Value := #[.int .i64 x.kind, .int .u64 (U x.at_), .int .i64 x.size, .int .u64 (U x.v), x.lay]
structure XAt (w : World) (b : Nat) (x : Sy) : Prop where
  c0 : w.cell? ⟨b, 0, none⟩ = some (.int .i64 x.kind)
  c1 : w.cell? ⟨b, 1, none⟩ = some (.int .u64 (U x.at_))
  c2 : w.cell? ⟨b, 2, none⟩ = some (.int .i64 x.size)
  c3 : w.cell? ⟨b, 3, none⟩ = some (.int .u64 (U x.v))
  c4 : w.cell? ⟨b, 4, none⟩ = some x.lay
theorem XAt.kept {w w' : World} {b : Nat} {x : Sy} {S : Nat → Prop} (h : XAt w b x) (k : Kept S w w') (hs : ¬ S b) : XAt w' b x := ⟨k.cell h.c0 hs, k.cell h.c1 hs, k.cell h.c2 hs, k.cell h.c3 hs, k.cell h.c4 hs⟩
theorem XAt.on {w w' : World} {b : Nat} {x : Sy} (h : XAt w b x) (k : Still w w') : XAt w' b x := h.kept k fun e => e
theorem xAt_of {w : World} {b : Nat} {x : Sy} {t : TypeId} (h : w.heap[b]? = some (.cells #[.int .i64 x.kind, .int .u64 (U x.at_), .int .i64 x.size, .int .u64 (U x.v), x.lay] t (0, 0))) : XAt w b x := by
  refine ⟨?_, ?_, ?_, ?_, ?_⟩ <;> simp [World.cell?, h]
theorem xAt_new (w : World) (x : Sy) (t : TypeId) : XAt (w.alloc (.cells #[.int .i64 x.kind, .int .u64 (U x.at_), .int .i64 x.size, .int .u64 (U x.v), x.lay] t)) w.heap.size x := xAt_of (heap_alloc_new _ _)
theorem Still.low {W w w' : World} (h : Still W w) (k : Still w w') : Below W.heap.size W w' := Kept.below (h.trans k) (Nat.le_refl _) fun _ _ e => e

/-- The sum of an address and a size, where a number has its place. -/
theorem end_nat {a : BitVec 64} {n : Int} (h : hasS a n = true) : (a + B n).toNat = a.toNat + n.toNat := by
  have h1 := hasS_iff.1 h
  rw [BitVec.toNat_add]
  unfold B
  rw [BitVec.toNat_ofInt]
  have e : (n % (2 ^ 64 : Nat) : Int).toNat = n.toNat := by omega
  rw [e]
  omega
set_option maxRecDepth 20000 in
set_option maxHeartbeats 4000000 in
theorem Apart_walk (W : World) (a b : Sy) :
    Calls Try.prog 5 #[.agg #[.int .i64 a.kind, .int .u64 (U a.at_), .int .i64 a.size, .int .u64 (U a.v), a.lay], .agg #[.int .i64 b.kind, .int .u64 (U b.at_), .int .i64 b.size, .int .u64 (U b.v), b.lay]] W fun e w' => e = .returned (.bool true) ∧ Below W.heap.size W w' := by
  go_enter Try.func5, Try.ntmps5
  go_wp2_with fail
  go_at_call 7
  have XA := (xAt_new W a 32).on ((Kept.refl _ _).alloc (.cells #[.int .i64 b.kind, .int .u64 (U b.at_), .int .i64 b.size, .int .u64 (U b.v), b.lay] 32))
  have XB := xAt_new (W.alloc (.cells #[.int .i64 a.kind, .int .u64 (U a.at_), .int .i64 a.size, .int .u64 (U a.v), a.lay] 32)) b 32
  rw [World.size_alloc] at XB
  have K0 : Still W ((W.alloc (.cells #[.int .i64 a.kind, .int .u64 (U a.at_), .int .i64 a.size, .int .u64 (U a.v), a.lay] 32)).alloc (.cells #[.int .i64 b.kind, .int .u64 (U b.at_), .int .i64 b.size, .int .u64 (U b.v), b.lay] 32)) := ((Kept.refl _ _).alloc _).alloc _
  generalize (W.alloc (.cells #[.int .i64 a.kind, .int .u64 (U a.at_), .int .i64 a.size, .int .u64 (U a.v), a.lay] 32)).alloc (.cells #[.int .i64 b.kind, .int .u64 (U b.at_), .int .i64 b.size, .int .u64 (U b.v), b.lay] 32) = W1 at *
  refine (fixed_any _).mono ?_
  rintro e w1 ⟨rfl, k1⟩
  go_wp2_with fail
  go_at_call 8
  refine (New_any w1).mono ?_
  rintro e w2 ⟨q, m, rfl, h2, k2, o2⟩
  have N2 : Mine W1 ⟨q, m, fun _ => none⟩ w2 := ⟨k1.trans k2, fun b hb => Nat.le_trans k1.size (o2 b hb)⟩
  clear k1
  go_wp2_with fail
  go_at_call 8
  refine (New_any w2).mono ?_
  rintro e w3 ⟨q', m', rfl, h3, k3, o3⟩
  have T3 := Two.make h2 N2 h3 k3 o3
  clear h2 N2 h3 k3 o3 k2 o2
  obtain ⟨a0, a1, a2, a3, a4⟩ := XA.on T3.ma.still
  go_wp2_with fail
  go_at_call 12
  refine (Write_any w3 _ _ T3.a a.at_ a.size a.v).mono ?_
  rintro e w4 ⟨rfl, bl4, h4, k4, o4⟩
  have T4 := T3.fst h4 k4 o4
  clear T3 h4 k4 o4 a0 a1 a2 a3 a4
  obtain ⟨b0, b1, b2, b3, b4⟩ := XB.on T4.ma.still
  go_wp2_with fail
  go_at_call 12
  refine (Write_any w4 _ _ T4.a b.at_ b.size b.v).mono ?_
  rintro e w5 ⟨rfl, bl5, h5, k5, o5⟩
  have T5 := T4.fst h5 k5 o5
  clear T4 h5 k5 o5 b0 b1 b2 b3 b4
  obtain ⟨b0, b1, b2, b3, b4⟩ := XB.on T5.ma.still
  go_wp2_with fail
  go_at_call 12
  refine (Write_any w5 _ _ T5.b b.at_ b.size b.v).mono ?_
  rintro e w6 ⟨rfl, bl6, h6, k6, o6⟩
  have T6 := T5.snd h6 k6 o6
  clear T5 h6 k6 o6 b0 b1 b2 b3 b4
  obtain ⟨a0, a1, a2, a3, a4⟩ := XA.on T6.ma.still
  go_wp2_with fail
  go_at_call 12
  refine (Write_any w6 _ _ T6.b a.at_ a.size a.v).mono ?_
  rintro e w7 ⟨rfl, bl7, h7, k7, o7⟩
  have T7 := T6.snd h7 k7 o7
  clear T6 h7 k7 o7 a0 a1 a2 a3 a4
  have rest : (hasS a.at_ a.size = true → hasS b.at_ b.size = true → a.at_.toNat + a.size.toNat ≤ b.at_.toNat ∨ b.at_.toNat + b.size.toNat ≤ a.at_.toNat) → sameM (wrN (wrN M0 a.at_ a.size a.v) b.at_ b.size b.v) (wrN (wrN M0 b.at_ b.size b.v) a.at_ a.size a.v) = true ∧ pagesI (wrN (wrN M0 a.at_ a.size a.v) b.at_ b.size b.v) = pagesI (wrN (wrN M0 b.at_ b.size b.v) a.at_ a.size a.v) := fun h => by
    rw [wr_comm M0 a.at_ b.at_ a.size b.size a.v b.v h]
    exact ⟨sameM_refl _, rfl⟩
  obtain ⟨a0, a1, a2, a3, a4⟩ := XA.on T7.ma.still
  obtain ⟨b0, b1, b2, b3, b4⟩ := XB.on T7.ma.still
  cases ha : hasS a.at_ a.size
  · obtain ⟨r1, r2⟩ := rest (fun h => by rw [ha] at h; cases h)
    have r3 := r1
    rw [sameM_comm] at r3
    clear rest
    go_wp2_with fail
    go_at_call 24
    refine (Same_any _ _ _ _ _ T7.a T7.b).mono ?_
    rintro e w8 ⟨rfl, k8⟩
    have T8 := T7.on k8
    replace r1 : sameM (wrN (wrN (fun _ => 0#8) a.at_ a.size a.v) b.at_ b.size b.v) (wrN (wrN (fun _ => 0#8) b.at_ b.size b.v) a.at_ a.size a.v) = true := r1
    replace r3 : sameM (wrN (wrN (fun _ => 0#8) b.at_ b.size b.v) a.at_ a.size a.v) (wrN (wrN (fun _ => 0#8) a.at_ a.size a.v) b.at_ b.size b.v) = true := r3
    rw [r1]
    clear k8 T7 a0 a1 a2 a3 a4 b0 b1 b2 b3 b4 r1
    go_wp2_with fail
    go_at_call 24
    refine (Same_any w8 _ _ _ _ T8.b T8.a).mono ?_
    rintro e w9 ⟨rfl, k9⟩
    have T9 := T8.on k9
    rw [r3]
    clear k9 T8 r3
    go_wp2_with fail
    go_at_call 18
    refine (Pages_any w9 _ _ T9.a).mono ?_
    rintro e w10 ⟨v10, rfl, p10, k10⟩
    have T10 := T9.on k10
    clear k10 T9
    go_wp2_with fail
    go_at_call 18
    refine (Pages_any w10 _ _ T10.b).mono ?_
    rintro e w11 ⟨v11, rfl, p11, k11⟩
    have T11 := T10.on k11
    replace p10 := p10.still k11
    clear k11 T10
    go_wp2_with fail
    go_at_call 20
    refine (sameList_any w11 _ _ _ _ p10.nums p11.nums).mono ?_
    rintro e w12 ⟨rfl, k12⟩
    have T12 := T11.on k12
    replace r2 := decide_eq_true r2
    replace r2 : decide (pagesI (wrN (wrN (fun _ => 0#8) a.at_ a.size a.v) b.at_ b.size b.v) = pagesI (wrN (wrN (fun _ => 0#8) b.at_ b.size b.v) a.at_ a.size a.v)) = true := r2
    rw [r2]
    clear k12 T11 p10 p11 r2
    go_wp2_with fail
    go_ret
    exact ⟨rfl, Still.low K0 T12.ma.still⟩
  · cases hb : hasS b.at_ b.size
    · obtain ⟨r1, r2⟩ := rest (fun _ h => by rw [hb] at h; cases h)
      have r3 := r1
      rw [sameM_comm] at r3
      clear rest
      go_wp2_with fail
      go_at_call 24
      refine (Same_any _ _ _ _ _ T7.a T7.b).mono ?_
      rintro e w8 ⟨rfl, k8⟩
      have T8 := T7.on k8
      replace r1 : sameM (wrN (wrN (fun _ => 0#8) a.at_ a.size a.v) b.at_ b.size b.v) (wrN (wrN (fun _ => 0#8) b.at_ b.size b.v) a.at_ a.size a.v) = true := r1
      replace r3 : sameM (wrN (wrN (fun _ => 0#8) b.at_ b.size b.v) a.at_ a.size a.v) (wrN (wrN (fun _ => 0#8) a.at_ a.size a.v) b.at_ b.size b.v) = true := r3
      rw [r1]
      clear k8 T7 a0 a1 a2 a3 a4 b0 b1 b2 b3 b4 r1
      go_wp2_with fail
      go_at_call 24
      refine (Same_any w8 _ _ _ _ T8.b T8.a).mono ?_
      rintro e w9 ⟨rfl, k9⟩
      have T9 := T8.on k9
      rw [r3]
      clear k9 T8 r3
      go_wp2_with fail
      go_at_call 18
      refine (Pages_any w9 _ _ T9.a).mono ?_
      rintro e w10 ⟨v10, rfl, p10, k10⟩
      have T10 := T9.on k10
      clear k10 T9
      go_wp2_with fail
      go_at_call 18
      refine (Pages_any w10 _ _ T10.b).mono ?_
      rintro e w11 ⟨v11, rfl, p11, k11⟩
      have T11 := T10.on k11
      replace p10 := p10.still k11
      clear k11 T10
      go_wp2_with fail
      go_at_call 20
      refine (sameList_any w11 _ _ _ _ p10.nums p11.nums).mono ?_
      rintro e w12 ⟨rfl, k12⟩
      have T12 := T11.on k12
      replace r2 := decide_eq_true r2
      replace r2 : decide (pagesI (wrN (wrN (fun _ => 0#8) a.at_ a.size a.v) b.at_ b.size b.v) = pagesI (wrN (wrN (fun _ => 0#8) b.at_ b.size b.v) a.at_ a.size a.v)) = true := r2
      rw [r2]
      clear k12 T11 p10 p11 r2
      go_wp2_with fail
      go_ret
      exact ⟨rfl, Still.low K0 T12.ma.still⟩
    · have ea := end_nat ha
      have eb := end_nat hb
      by_cases c1 : U a.at_ < U (b.at_ + B b.size)
      · by_cases c2 : U b.at_ < U (a.at_ + B a.size)
        · have d1 : decide (U a.at_ < U (b.at_ + B b.size)) = true := decide_eq_true c1
          have d2 : decide (U b.at_ < U (a.at_ + B a.size)) = true := decide_eq_true c2
          replace ea := hide ea
          replace eb := hide eb
          go_wp2_with fail
          go_ret
          exact ⟨rfl, Still.low K0 T7.ma.still⟩
        · have d1 : decide (U a.at_ < U (b.at_ + B b.size)) = true := decide_eq_true c1
          have d2 : decide (U b.at_ < U (a.at_ + B a.size)) = false := decide_eq_false c2
          obtain ⟨r1, r2⟩ := rest (fun _ _ => by unfold U at c2; rw [ea] at c2; omega)
          have r3 := r1
          rw [sameM_comm] at r3
          clear rest
          go_wp2_with fail
          go_at_call 24
          refine (Same_any _ _ _ _ _ T7.a T7.b).mono ?_
          rintro e w8 ⟨rfl, k8⟩
          have T8 := T7.on k8
          replace r1 : sameM (wrN (wrN (fun _ => 0#8) a.at_ a.size a.v) b.at_ b.size b.v) (wrN (wrN (fun _ => 0#8) b.at_ b.size b.v) a.at_ a.size a.v) = true := r1
          replace r3 : sameM (wrN (wrN (fun _ => 0#8) b.at_ b.size b.v) a.at_ a.size a.v) (wrN (wrN (fun _ => 0#8) a.at_ a.size a.v) b.at_ b.size b.v) = true := r3
          rw [r1]
          clear k8 T7 a0 a1 a2 a3 a4 b0 b1 b2 b3 b4 r1
          go_wp2_with fail
          go_at_call 24
          refine (Same_any w8 _ _ _ _ T8.b T8.a).mono ?_
          rintro e w9 ⟨rfl, k9⟩
          have T9 := T8.on k9
          rw [r3]
          clear k9 T8 r3
          go_wp2_with fail
          go_at_call 18
          refine (Pages_any w9 _ _ T9.a).mono ?_
          rintro e w10 ⟨v10, rfl, p10, k10⟩
          have T10 := T9.on k10
          clear k10 T9
          go_wp2_with fail
          go_at_call 18
          refine (Pages_any w10 _ _ T10.b).mono ?_
          rintro e w11 ⟨v11, rfl, p11, k11⟩
          have T11 := T10.on k11
          replace p10 := p10.still k11
          clear k11 T10
          go_wp2_with fail
          go_at_call 20
          refine (sameList_any w11 _ _ _ _ p10.nums p11.nums).mono ?_
          rintro e w12 ⟨rfl, k12⟩
          have T12 := T11.on k12
          replace r2 := decide_eq_true r2
          replace r2 : decide (pagesI (wrN (wrN (fun _ => 0#8) a.at_ a.size a.v) b.at_ b.size b.v) = pagesI (wrN (wrN (fun _ => 0#8) b.at_ b.size b.v) a.at_ a.size a.v)) = true := r2
          rw [r2]
          clear k12 T11 p10 p11 r2
          go_wp2_with fail
          go_ret
          exact ⟨rfl, Still.low K0 T12.ma.still⟩
      · have d1 : decide (U a.at_ < U (b.at_ + B b.size)) = false := decide_eq_false c1
        obtain ⟨r1, r2⟩ := rest (fun _ _ => by unfold U at c1; rw [eb] at c1; omega)
        have r3 := r1
        rw [sameM_comm] at r3
        clear rest
        go_wp2_with fail
        go_at_call 24
        refine (Same_any _ _ _ _ _ T7.a T7.b).mono ?_
        rintro e w8 ⟨rfl, k8⟩
        have T8 := T7.on k8
        replace r1 : sameM (wrN (wrN (fun _ => 0#8) a.at_ a.size a.v) b.at_ b.size b.v) (wrN (wrN (fun _ => 0#8) b.at_ b.size b.v) a.at_ a.size a.v) = true := r1
        replace r3 : sameM (wrN (wrN (fun _ => 0#8) b.at_ b.size b.v) a.at_ a.size a.v) (wrN (wrN (fun _ => 0#8) a.at_ a.size a.v) b.at_ b.size b.v) = true := r3
        rw [r1]
        clear k8 T7 a0 a1 a2 a3 a4 b0 b1 b2 b3 b4 r1
        go_wp2_with fail
        go_at_call 24
        refine (Same_any w8 _ _ _ _ T8.b T8.a).mono ?_
        rintro e w9 ⟨rfl, k9⟩
        have T9 := T8.on k9
        rw [r3]
        clear k9 T8 r3
        go_wp2_with fail
        go_at_call 18
        refine (Pages_any w9 _ _ T9.a).mono ?_
        rintro e w10 ⟨v10, rfl, p10, k10⟩
        have T10 := T9.on k10
        clear k10 T9
        go_wp2_with fail
        go_at_call 18
        refine (Pages_any w10 _ _ T10.b).mono ?_
        rintro e w11 ⟨v11, rfl, p11, k11⟩
        have T11 := T10.on k11
        replace p10 := p10.still k11
        clear k11 T10
        go_wp2_with fail
        go_at_call 20
        refine (sameList_any w11 _ _ _ _ p10.nums p11.nums).mono ?_
        rintro e w12 ⟨rfl, k12⟩
        have T12 := T11.on k12
        replace r2 := decide_eq_true r2
        replace r2 : decide (pagesI (wrN (wrN (fun _ => 0#8) a.at_ a.size a.v) b.at_ b.size b.v) = pagesI (wrN (wrN (fun _ => 0#8) b.at_ b.size b.v) a.at_ a.size a.v)) = true := r2
        rw [r2]
        clear k12 T11 p10 p11 r2
        go_wp2_with fail
        go_ret
        exact ⟨rfl, Still.low K0 T12.ma.still⟩
end Go.Proofs.Ytnbifbllemcjfaa
