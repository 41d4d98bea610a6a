/-
  Walk: fixed.
-/
import Derived.Test.YtpflodhnniochaaCacheI
import Derived.Test.YtpflodhnniochaaCacheH
import Derived.Test.YtpflodhnniochaaCacheJ
namespace Go.Proofs.Ytpflodhnniochaa
set_option linter.unusedVariables false
open Go.RowKit Go.Maps

theorem Ask_lit (w : World) (g : G) (s : St) (x : BitVec 64) (n : Int) (hx : U x = n) (b : Bool) (s' : St) (r : Int) (hr : askS s (x / 64#64) b = (s', r)) (h : Held w g s) :
    Calls Try.prog 11 #[.pointer (some ⟨g.c, 0, none⟩), .int .u64 n, .bool b] w fun e w' => e = .returned (.int .i64 r) ∧ Held w' g s' ∧ Kept g.own w w' := by
  subst hx
  refine (Ask_any w g s x b h).mono ?_
  rw [hr]
  exact fun e w' h => h
theorem Has_lit (w : World) (g : G) (s : St) (x : BitVec 64) (n : Int) (hx : U x = n) (a b : Bool) (hr : hasS s (x / 64#64) = (a, b)) (h : Held w g s) :
    Calls Try.prog 16 #[.pointer (some ⟨g.c, 0, none⟩), .int .u64 n] w fun e w' => e = .returned (.tuple #[.bool a, .bool b]) ∧ Still w w' := by
  subst hx
  refine (Has_any w g s x h).mono ?_
  rw [hr]
  exact fun e w' h => h
theorem Under_lit (w : World) (g : G) (s : St) (n : Int) (hr : ((underS s s.ns : Nat) : Int) = n) (h : Held w g s) :
    Calls Try.prog 18 #[.pointer (some ⟨g.c, 0, none⟩)] w fun e w' => e = .returned (.int .i64 n) ∧ Still w w' := by
  subst hr
  exact Under_any w g s h
theorem Tick_lit (w : World) (g : G) (s : St) (s' : St) (ds : List Dn) (hr : tickS s s.ns = (s', ds)) (hf : Fr s) (h : Held w g s) :
    Calls Try.prog 13 #[.pointer (some ⟨g.c, 0, none⟩)] w fun e w' =>
      ∃ v, e = .returned v ∧ w'.ownsRow w.heap.size 40 3 v ds.length (dnCells ds) ∧ Held w' g s' ∧ Kept g.own w w' := by
  refine (Tick_any w g s h hf).mono ?_
  rw [hr]
  exact fun e w' h => h
theorem Flush_lit (w : World) (g : G) (s : St) (l : List (BitVec 64)) (hr : outS s s.n = l) (hl : l.length ≤ 1) (h : Held w g s) :
    Calls Try.prog 20 #[.pointer (some ⟨g.c, 0, none⟩)] w fun e w' =>
      ∃ v, e = .returned v ∧ w'.ownsRow w.heap.size 22 1 v l.length (uCells l) ∧ Held w' g (flushS s) ∧ Kept g.own w w' := by
  subst hr
  exact Flush_any w g s h hl
/-- The cells of what was handed back. -/
theorem owns_cells {w : World} {base n k : Nat} {T : TypeId} {v : Value} {xs : List Value} (h : w.ownsRow base T k v n xs) (hn : 0 < n) :
    ∃ b cap, v = .slice (some ⟨b, 0, none⟩) n cap ∧ base ≤ b ∧ b < w.heap.size ∧ ∀ j u, xs[j]? = some u → w.cell? ⟨b, j, none⟩ = some u := by
  obtain ⟨b, cap, rfl, hb, hlt⟩ := World.ownsRow.form h hn
  refine ⟨b, cap, rfl, hb, hlt, fun j u hu => ?_⟩
  have := h.cells (g := b) rfl j u hu
  have hadd : (⟨b, 0, none⟩ : Addr).add j = ⟨b, j, none⟩ := by unfold Addr.add; split <;> simp_all
  rwa [hadd] at this
theorem owns_none {w : World} {base k : Nat} {T : TypeId} {v : Value} {xs : List Value} (h : w.ownsRow base T k v 0 xs) : ∃ a cap, v = .slice a 0 cap := by
  rcases h.2 with ⟨rfl, _⟩ | ⟨g, cap, cur, rfl, _⟩
  · exact ⟨_, _, rfl⟩
  · exact ⟨_, _, rfl⟩
theorem Kept.cell {S : Nat → Prop} {w w' : World} (h : Kept S w w') {b o : Nat} {v : Value} (hc : w.cell? ⟨b, o, none⟩ = some v) (hs : ¬ S b) : w'.cell? ⟨b, o, none⟩ = some v := by
  have hlt : b < w.heap.size := World.block_lt_of_cell? w ⟨b, o, none⟩ hc
  rw [← hc]
  simp only [World.cell?, h.block b hlt hs]

noncomputable def F0 : St := newS 2 1 2 2 0#64
noncomputable def F1 : St := (askS F0 64#64 false).1
noncomputable def F2 : St := (askS F1 64#64 true).1
noncomputable def F3 : St := (askS F2 65#64 false).1
noncomputable def F5 : St := (tickS F3 2).1
noncomputable def F6 : St := (tickS F5 2).1
noncomputable def F7 : St := (askS F6 64#64 false).1
theorem a1 : askS F0 (4096#64 / 64#64) false = (F1, 2) := Prod.ext rfl (by rfl)
theorem a2 : askS F1 (4159#64 / 64#64) true = (F2, 2) := Prod.ext rfl (by rfl)
theorem a3 : askS F2 (4160#64 / 64#64) false = (F3, 2) := Prod.ext rfl (by rfl)
theorem a4 : askS F3 (8192#64 / 64#64) false = (F3, 3) := by rfl
theorem a5 : ((underS F3 F3.ns : Nat) : Int) = 2 := by rfl
theorem a6 : tickS F3 F3.ns = (F5, []) := Prod.ext rfl (by rfl)
theorem a7 : tickS F5 F5.ns = (F6, [⟨4096#64, 0#64, false⟩, ⟨4160#64, 0#64, false⟩]) := Prod.ext rfl (by rfl)
theorem a8 : hasS F6 (4096#64 / 64#64) = (true, true) := by rfl
theorem a9 : askS F6 (4104#64 / 64#64) false = (F7, 1) := Prod.ext rfl (by rfl)
theorem a10 : outS F7 F7.n = [4096#64] := by rfl
theorem a11 : hasS (flushS F7) (4096#64 / 64#64) = (false, false) := by rfl
theorem a12 : askS F6 (4096#64 / 64#64) false = ((askS F6 (4096#64 / 64#64) false).1, 1) := Prod.ext rfl (by rfl)
theorem fr3 : Fr F3 := by
  intro i hi _
  rcases (by have : i < 2 := hi; omega : i = 0 ∨ i = 1) with rfl | rfl <;> decide
theorem fr5 : Fr F5 := by
  intro i hi _
  rcases (by have : i < 2 := hi; omega : i = 0 ∨ i = 1) with rfl | rfl <;> decide

theorem New_fix (w : World) : Calls Try.prog 9 #[.int .i64 2, .int .i64 1, .int .i64 2, .int .i64 2, .int .u64 0] w fun e w' =>
    ∃ g, e = .returned (.pointer (some ⟨g.c, 0, none⟩)) ∧ Held w' g F0 ∧ Still w w' ∧ ∀ b, g.own b → w.heap.size ≤ b := New_2 w 1 2 2 0#64 (by decide) (by decide) (by decide)
theorem New_none (w : World) : Calls Try.prog 9 #[.int .i64 3, .int .i64 1, .int .i64 1, .int .i64 1, .int .u64 0] w fun e w' => e = .returned (.pointer none) ∧ w' = w := New_bad w 3 1 1 1 0#64 (.inl (by decide))
theorem eqD (w : World) (x : Int) : (binOp .eql 40 (.agg #[.int .u64 x, .int .u64 0, .bool false]) (.agg #[.int .u64 x, .int .u64 0, .bool false])).run Try.prog w = .ok (.bool true) w := by
  have e : (Op.equalIn 10000 40 (.agg #[.int .u64 x, .int .u64 0, .bool false]) (.agg #[.int .u64 x, .int .u64 0, .bool false])).run Try.prog w = .ok true w := by
    go_simp
  simp only [binOp]
  simp [Op.equal, Op.maxDepth, e]

set_option maxRecDepth 100000 in
set_option maxHeartbeats 8000000 in
theorem fixed_any (w : World) : Calls Try.prog 8 #[] w fun e w' => e = .returned (.bool true) ∧ Below w.heap.size w w' := by
  go_enter Try.func8, Try.ntmps8
  go_wp2_with fail
  go_at_call 9
  refine (New_fix _).mono ?_
  rintro e w1 ⟨g, rfl, h1, k1, ho⟩
  go_wp2_with fail
  go_at_call 9
  refine (New_none _).mono ?_
  rintro e w' ⟨rfl, rfl⟩
  go_wp2_with fail
  go_at_call 11
  refine (Ask_lit _ g F0 4096#64 4096 rfl false _ _ a1 h1).mono ?_
  rintro e w2 ⟨rfl, h2, k2⟩
  have K : Kept g.own w w2 := (k1.mono (fun _ e => e.elim)).trans k2
  clear h1 k1 k2
  go_wp2_with fail
  go_at_call 11
  refine (Ask_lit _ g F1 4159#64 4159 rfl true _ _ a2 h2).mono ?_
  rintro e w3 ⟨rfl, h3, k3⟩
  have K := K.trans k3
  clear h2 k3
  go_wp2_with fail
  go_at_call 11
  refine (Ask_lit _ g F2 4160#64 4160 rfl false _ _ a3 h3).mono ?_
  rintro e w4 ⟨rfl, h4, k4⟩
  have K := K.trans k4
  clear h3 k4
  go_wp2_with fail
  go_at_call 11
  refine (Ask_lit _ g F3 8192#64 8192 rfl false _ _ a4 h4).mono ?_
  rintro e w5 ⟨rfl, h5, k5⟩
  have K := K.trans k5
  clear h4 k5
  go_wp2_with fail
  go_at_call 18
  refine (Under_lit _ g F3 2 a5 h5).mono ?_
  rintro e w6 ⟨rfl, k6⟩
  have h6 := h5.still k6
  have K := K.still k6
  clear h5 k6
  go_wp2_with fail
  go_at_call 13
  refine (Tick_lit _ g F3 _ _ a6 fr3 h6).mono ?_
  rintro e w7 ⟨v7, rfl, o7, h7, k7⟩
  have K := K.trans k7
  obtain ⟨z, zc, rfl⟩ := owns_none o7
  clear h6 k7 o7
  go_wp2_with fail
  go_at_call 13
  refine (Tick_lit _ g F5 _ _ a7 fr5 h7).mono ?_
  rintro e w8 ⟨v8, rfl, o8, h8, k8⟩
  have K := K.trans k8
  obtain ⟨b8, c8, rfl, hb8, hl8, hc8⟩ := owns_cells o8 (by decide)
  have x0 : w8.cell? ⟨b8, 0, none⟩ = some (.int .u64 4096) := hc8 0 _ rfl
  have x1 : w8.cell? ⟨b8, 1, none⟩ = some (.int .u64 0) := hc8 1 _ rfl
  have x2 : w8.cell? ⟨b8, 2, none⟩ = some (.bool false) := hc8 2 _ rfl
  have x3 : w8.cell? ⟨b8, 3, none⟩ = some (.int .u64 4160) := hc8 3 _ rfl
  have x4 : w8.cell? ⟨b8, 4, none⟩ = some (.int .u64 0) := hc8 4 _ rfl
  have x5 : w8.cell? ⟨b8, 5, none⟩ = some (.bool false) := hc8 5 _ rfl
  have hn8 : ¬ g.own b8 := fun e => absurd (h7.lt e) (Nat.not_lt.2 hb8)
  clear h7 k8 o8 hc8 hb8
  simp only [List.length_cons, List.length_nil]
  go_wp2_with fail
  go_at_call 23
  refine (Copy_any _ g F6 h8).mono ?_
  rintro e w9 ⟨g2, rfl, i9, k9, ho2⟩
  have hw8 : w.heap.size ≤ w8.heap.size := K.size
  have hdis : ∀ b, g2.own b → ¬ g.own b := fun b e1 e2 => absurd (h8.lt e2) (Nat.not_lt.2 (ho2 b e1))
  have h9 := h8.still k9
  have K := K.still k9
  have C : Kept g.own w8 w9 := k9.mono (fun _ e => e.elim)
  clear h8 k9
  go_wp2_with fail
  go_at_call 16
  refine (Has_lit _ g F6 4096#64 4096 rfl _ _ a8 h9).mono ?_
  rintro e w10 ⟨rfl, k10⟩
  have h10 := h9.still k10
  have i10 := i9.still k10
  have K := K.still k10
  have C := C.still k10
  clear h9 i9 k10
  go_wp2_with fail
  go_at_call 11
  refine (Ask_lit _ g F6 4104#64 4104 rfl false _ _ a9 h10).mono ?_
  rintro e w11 ⟨rfl, h11, k11⟩
  have i11 := i10.kept k11 hdis
  have K := K.trans k11
  have C := C.trans k11
  clear h10 i10 k11
  go_wp2_with fail
  go_at_call 20
  refine (Flush_lit _ g F7 _ a10 (by decide) h11).mono ?_
  rintro e w12 ⟨v12, rfl, o12, h12, k12⟩
  have i12 := i11.kept k12 hdis
  have K := K.trans k12
  have C := C.trans k12
  obtain ⟨b12, c12, rfl, hb12, hl12, hc12⟩ := owns_cells o12 (by decide)
  have y0 : w12.cell? ⟨b12, 0, none⟩ = some (.int .u64 4096) := hc12 0 _ rfl
  clear h11 i11 k12 o12 hc12
  simp only [List.length_cons, List.length_nil]
  go_wp2_with fail
  go_at_call 16
  refine (Has_lit _ g (flushS F7) 4096#64 4096 rfl _ _ a11 h12).mono ?_
  rintro e w13 ⟨rfl, k13⟩
  have i13 := i12.still k13
  have K := K.still k13
  have C := C.still k13
  have y0 := k13.cell y0 (fun e => e)
  have x0 := C.cell x0 hn8
  have x1 := C.cell x1 hn8
  have x2 := C.cell x2 hn8
  have x3 := C.cell x3 hn8
  have x4 := C.cell x4 hn8
  have x5 := C.cell x5 hn8
  have q1 := eqD w13 4096
  have q2 := eqD w13 4160
  clear h12 i12 k13 C
  go_wp2_with fail
  go_at_call 11
  refine (Ask_lit _ g2 F6 4096#64 4096 rfl false _ _ a12 i13).mono ?_
  rintro e w14 ⟨rfl, h14, k14⟩
  have hb : Below w.heap.size w w14 := (K.below (Nat.le_refl _) (fun k hk e => absurd (ho k e) (by omega))).trans ((k14.below (B := w.heap.size) K.size (fun k hk e => absurd (ho2 k e) (by omega))))
  clear q1 q2 x0 x1 x2 x3 x4 x5 y0 K i13 h14 k14
  go_wp2
  go_ret
  exact ⟨rfl, hb⟩
end Go.Proofs.Ytpflodhnniochaa
