/-
  fixed().
-/
import Derived.Test.YtaeggnnijafooaaIssueF
import Derived.Test.YtaeggnnijafooaaIssueU
namespace Go.Proofs.Ytaeggnnijafooaa
set_option linter.unusedVariables false
open Go.RowKit Go.Maps

def u1 : En := ⟨5, 0, 64, -1, -1⟩
def u2 : En := ⟨3, 4, -1, -1, -1⟩
def u3 : En := ⟨4, 0, -1, -1, -1⟩
def u4 : En := ⟨5, 0, -1, -1, -1⟩
def fU : Int → Int := fun k => if k = 0 then 2 else 1
theorem hU : unV fU = .agg #[.int .i64 2, .int .i64 1, .int .i64 1, .int .i64 1, .int .i64 1] := rfl
theorem ok1 : insOk 2 [] u1 = true := by decide
theorem ok2 : insOk 2 [u1] u2 = true := by decide
theorem ok3 : insOk 2 [u2, u1] u3 = false := by decide
theorem in1 : insL 2 [] u1 = [u1] := insL_yes ok1
theorem in2 : insL 2 [u1] u2 = [u2, u1] := (insL_yes ok2).trans (if_pos (by decide))
theorem in3 : insL 2 [u2, u1] u3 = [u2, u1] := insL_no ok3
theorem pk : pickS fU [u2, u1] = ([u1], [3]) := by
  rw [pickS_yes _ (by decide), pickS_not _ (by decide)]
  rfl
theorem wk1 : wakeN 64 [u1] = 1 := by decide
theorem wk2 : wakeL 64 [u1] = [u4] := by
  show [strike 64 u1] = [u4]
  unfold strike
  rw [if_pos (by decide)]
  rfl
theorem dr1 : dropN 4 [u4] = 1 := by decide
theorem dr2 : dropL 4 [u4] = [] := rfl
theorem un1 : unitOf 59 = 3 := by decide
def xI : Ix := ⟨59, 0, 0, 0, 0, 0, 0, 4, 0, false, false, false⟩
theorem la1 : latOf xI = 14 := by
  have h : unitOf xI.kind = 3 := un1
  exact lat_3s h (.inr rfl) (by decide)
theorem fU_wf (k : Int) : (Lit.int .i64 (fU k)).wf = true := by
  unfold fU
  split <;> rfl
/-- The queue's blocks are younger than w0's end, and nothing older was turned. -/
structure Mine (w0 : World) (g : G) (s : List En) (w : World) : Prop where
  still : Still w0 w
  mine : ∀ b, g.own s b → w0.heap.size ≤ b
theorem Mine.step {w0 w w' : World} {g g' : G} {s s' : List En} (h : Mine w0 g s w) (k : Kept (g.own s) w w') (ho : ∀ b, g'.own s' b → g.own s b ∨ w.heap.size ≤ b) : Mine w0 g' s' w' :=
  ⟨h.still.start (k.mono fun b hb => .inr (h.mine b hb)), fun b hb => by
    rcases ho b hb with h1 | h1
    · exact h.mine b h1
    · exact Nat.le_trans h.still.size h1⟩
theorem Mine.on {w0 w w' : World} {g : G} {s : List En} (h : Mine w0 g s w) (k : Still w w') : Mine w0 g s w' := ⟨h.still.trans k, h.mine⟩
theorem own_wake {g : G} {p : Int} {s : List En} {b : Nat} (h : g.own (wakeL p s) b) : g.own s b := by
  rcases h with rfl | rfl | ⟨e, he, rfl⟩
  · exact .inl rfl
  · exact .inr (.inl rfl)
  · obtain ⟨y, hy, rfl⟩ := List.mem_map.1 he
    rw [strike_tag]
    exact .inr (.inr ⟨y, hy, rfl⟩)
set_option maxRecDepth 100000 in
set_option maxHeartbeats 4000000 in
theorem fixed_any (w : World) : Calls Try.prog 8 #[] w fun e w' => e = .returned (.bool true) ∧ Still w w' := by
  go_enter Try.func8, Try.ntmps8
  go_wp2_with fail
  go_at_call 9
  refine (New_fine w 2 (by omega)).mono ?_
  rintro e w1 ⟨⟨q, m, bl⟩, rfl, h1, k1, ho⟩
  have M1 : Mine w ⟨q, m, bl⟩ [] w1 := ⟨k1, ho⟩
  clear k1 ho
  go_wp2_with fail
  go_at_call 9
  refine (New_bad w1 0 (by omega)).mono ?_
  rintro e w1 ⟨rfl, rfl⟩
  go_wp2_with fail
  go_at_call 11
  refine (Insert_any w1 ⟨q, m, bl⟩ 2 [] u1 h1 rfl rfl rfl rfl).mono ?_
  rintro e w2 ⟨rfl, ⟨q', m2, bl2⟩, hq, h2, k2, o2⟩
  obtain rfl : q = q' := Eq.symm hq
  have M2 := M1.step k2 o2
  rw [in1] at h2 M2
  rw [ok1]
  clear hq k2 o2 h1 M1 m bl
  go_wp2_with fail
  go_at_call 11
  refine (Insert_any w2 _ 2 [u1] u2 h2 rfl rfl rfl rfl).mono ?_
  rintro e w3 ⟨rfl, ⟨q', m3, bl3⟩, hq, h3, k3, o3⟩
  obtain rfl : q = q' := Eq.symm hq
  have M3 := M2.step k3 o3
  rw [in2] at h3 M3
  rw [ok2]
  clear hq k3 o3 h2 M2 m2 bl2
  go_wp2_with fail
  go_at_call 11
  refine (Insert_any w3 _ 2 [u2, u1] u3 h3 rfl rfl rfl rfl).mono ?_
  rintro e w4 ⟨rfl, ⟨q', m4, bl4⟩, hq, h4, k4, o4⟩
  obtain rfl : q = q' := Eq.symm hq
  have M4 := M3.step k4 o4
  rw [in3] at h4 M4
  rw [ok3]
  clear hq k4 o4 h3 M3 m3 bl3
  go_wp2_with fail
  go_at_call 20
  refine (Tags_ints w4 _ 2 _ h4).mono ?_
  rintro e w5 ⟨v5, rfl, i5, k5⟩
  have M5 := M4.on k5
  have h5 := h4.still k5
  have l4 : ∀ b, w4.heap.size ≤ b → ¬ G.own ⟨q, m4, bl4⟩ [u2, u1] b := fun b hb e => by have := h4.lt e; omega
  clear k5 M4 h4
  go_wp2_with fail
  go_at_call 15
  refine (Pick_any w5 _ 2 _ fU h5 fU_wf).mono ?_
  rintro e w6 ⟨v6, rfl, i6, h6, k6⟩
  rw [pk] at i6 h6
  have M6 : Mine w ⟨q, m4, bl4⟩ [u1] w6 := M5.step k6 (fun b hb => .inl (own_mono (fun e he => by simp at he; simp [he]) hb))
  have i5 := i5.kept k6 l4
  have l5 : ∀ b, w5.heap.size ≤ b → ¬ G.own ⟨q, m4, bl4⟩ [u1] b := fun b hb e => by have := h5.lt (own_mono (s := [u2, u1]) (fun e he => by simp at he; simp [he]) e); omega
  clear k6 M5 h5
  replace l4 : ∀ b, w4.heap.size ≤ b → ¬ G.own ⟨q, m4, bl4⟩ [u1] b := fun b hb e => l4 b hb (own_mono (fun e he => by simp at he; simp [he]) e)
  go_wp2_with fail
  go_at_call 13
  refine (Wake_any w6 _ 2 64 _ h6 rfl).mono ?_
  rintro e w7 ⟨rfl, h7, k7⟩
  rw [wk2] at h7
  rw [wk1]
  have M7 : Mine w ⟨q, m4, bl4⟩ [u4] w7 := M6.step k7 (fun b hb => .inl (own_wake (p := 64) (s := [u1]) (by rw [wk2]; exact hb)))
  have i5 := i5.kept k7 l4
  have i6 := i6.kept k7 l5
  replace l4 : ∀ b, w4.heap.size ≤ b → ¬ G.own ⟨q, m4, bl4⟩ [u4] b := fun b hb e => l4 b hb (own_wake (p := 64) (s := [u1]) (by rw [wk2]; exact e))
  replace l5 : ∀ b, w5.heap.size ≤ b → ¬ G.own ⟨q, m4, bl4⟩ [u4] b := fun b hb e => l5 b hb (own_wake (p := 64) (s := [u1]) (by rw [wk2]; exact e))
  clear k7 M6 h6
  go_wp2_with fail
  go_at_call 18
  refine (Drop_any w7 _ 2 4 _ h7).mono ?_
  rintro e w8 ⟨rfl, h8, k8⟩
  rw [dr2] at h8
  rw [dr1]
  have M8 : Mine w ⟨q, m4, bl4⟩ [] w8 := M7.step k8 (fun b hb => .inl (own_mono (fun e he => by cases he) hb))
  have i5 := i5.kept k8 l4
  have i6 := i6.kept k8 l5
  clear k8 M7 h7 l4 l5
  obtain ⟨z5, cap5, rfl, c5⟩ := i5
  obtain ⟨b5, rfl, -, hb5, c5⟩ := c5 (by decide)
  obtain ⟨z6, cap6, rfl, c6⟩ := i6
  obtain ⟨b6, rfl, -, hb6, c6⟩ := c6 (by decide)
  have x0 := c5 0 3 rfl
  have x1 := c5 1 5 rfl
  have y0 := c6 0 3 rfl
  clear c5 c6
  go_wp2_with fail
  go_at_call 20
  have a9 : Still w8 (w8.alloc (.cells #[.int .i64 59, .int .i64 0, .int .i64 0, .int .i64 0, .int .i64 0, .int .i64 0, .int .i64 0, .int .i64 4, .int .i64 0, .bool false, .bool false, .bool false] 42)) := (Kept.refl _ w8).alloc _
  have hw9 : ∀ o v, (w8.alloc (.cells #[.int .i64 59, .int .i64 0, .int .i64 0, .int .i64 0, .int .i64 0, .int .i64 0, .int .i64 0, .int .i64 4, .int .i64 0, .bool false, .bool false, .bool false] 42)).cell? ⟨w8.heap.size, o, none⟩ = some v → ∀ w', Still (w8.alloc (.cells #[.int .i64 59, .int .i64 0, .int .i64 0, .int .i64 0, .int .i64 0, .int .i64 0, .int .i64 0, .int .i64 4, .int .i64 0, .bool false, .bool false, .bool false] 42)) w' → w'.cell? ⟨w8.heap.size, o, none⟩ = some v := fun o v h w' k => k.cell h
  refine (Tags_ints _ _ 2 [] (h8.alloc _)).mono ?_
  rintro e w9 ⟨v9, rfl, i9, k9⟩
  have M9 := M8.on (a9.trans k9)
  have z0 := hw9 0 (.int .i64 59) (by simp) w9 k9
  have z1 := hw9 1 (.int .i64 0) (by simp) w9 k9
  have z2 := hw9 2 (.int .i64 0) (by simp) w9 k9
  have z3 := hw9 3 (.int .i64 0) (by simp) w9 k9
  have z4 := hw9 4 (.int .i64 0) (by simp) w9 k9
  have z5 := hw9 5 (.int .i64 0) (by simp) w9 k9
  have z6 := hw9 6 (.int .i64 0) (by simp) w9 k9
  have z7 := hw9 7 (.int .i64 4) (by simp) w9 k9
  have z8 := hw9 8 (.int .i64 0) (by simp) w9 k9
  have z9 := hw9 9 (.bool false) (by simp) w9 k9
  have z10 := hw9 10 (.bool false) (by simp) w9 k9
  have z11 := hw9 11 (.bool false) (by simp) w9 k9
  obtain ⟨zz, cap9, rfl, -⟩ := i9
  clear hw9 k9 a9 M8 h8
  have hk : ∀ z cap, Value.slice z (tags ([] : List En)).length cap = Value.slice z 0 cap := fun _ _ => rfl
  rw [hk]
  go_wp2_with fail
  go_at_call 22
  refine (Unit_any w9 xI).mono ?_
  rintro e w10 ⟨rfl, k10⟩
  have M10 := M9.on k10
  have hun : unitOf xI.kind = 3 := un1
  rw [hun]
  replace z0 := Kept.cell k10 z0 (fun e => e)
  replace z1 := Kept.cell k10 z1 (fun e => e)
  replace z2 := Kept.cell k10 z2 (fun e => e)
  replace z3 := Kept.cell k10 z3 (fun e => e)
  replace z4 := Kept.cell k10 z4 (fun e => e)
  replace z5 := Kept.cell k10 z5 (fun e => e)
  replace z6 := Kept.cell k10 z6 (fun e => e)
  replace z7 := Kept.cell k10 z7 (fun e => e)
  replace z8 := Kept.cell k10 z8 (fun e => e)
  replace z9 := Kept.cell k10 z9 (fun e => e)
  replace z10 := Kept.cell k10 z10 (fun e => e)
  replace z11 := Kept.cell k10 z11 (fun e => e)
  clear k10 M9
  go_wp2_with fail
  go_at_call 24
  refine (Latency_any w10 xI).mono ?_
  rintro e w11 ⟨rfl, k11⟩
  have M11 := M10.on k11
  rw [la1]
  go_wp2
  go_ret
  exact ⟨rfl, M11.still⟩
end Go.Proofs.Ytaeggnnijafooaa
