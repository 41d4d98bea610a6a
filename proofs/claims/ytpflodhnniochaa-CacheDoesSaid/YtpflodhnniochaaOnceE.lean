/-
  CacheOnce: what stands round the walk; where no cache may be.
-/
import Derived.Test.YtpflodhnniochaaOnceD
import Derived.Test.YtpflodhnniochaaCacheY
import Derived.Deep.Cut
namespace Go.Proofs.Ytpflodhnniochaa
set_option linter.unusedVariables false
open Go.RowKit Go.Maps

theorem New_oneone (w : World) (seed : BitVec 64) : Calls Try.prog 9 #[.int .i64 1, .int .i64 1, .int .i64 1, .int .i64 1, .int .u64 (U seed)] w fun e w' =>
    ∃ g, e = .returned (.pointer (some ⟨g.c, 0, none⟩)) ∧ Held w' g (newS 1 1 1 1 seed) ∧ Still w w' ∧ ∀ b, g.own b → w.heap.size ≤ b := New_1 w 1 1 1 seed (by decide) (by decide) (by decide)
set_option maxRecDepth 100000 in
set_option maxHeartbeats 8000000 in
theorem Once_bad (W : World) (a b c d : Int) (seed : BitVec 64) (lv : Value) (hbad : Bad a b c d) :
    Calls Try.prog 5 #[.agg (shapeC a b c d seed), lv] W fun e w' => e = .returned (.bool true) ∧ Below W.heap.size W w' := by
  unfold shapeC
  go_enter Try.func5, Try.ntmps5
  go_wp2_with fail
  go_at_call 8
  have E0 := env_start W (shapeC a b c d seed)
  unfold shapeC at E0
  refine (fixed_any _).mono ?_
  rintro e w1 ⟨rfl, k1⟩
  have E1 : Env W (shapeC a b c d seed) w1 := E0.below k1
  clear E0 k1
  obtain ⟨c0, c1, c2, c3, c4⟩ := E1.cells
  go_wp2_with fail
  go_at_call 9
  refine (New_bad _ a b c d seed hbad).mono ?_
  rintro e w' ⟨rfl, rfl⟩
  go_wp2_with fail
  go_at_call 9
  refine (New_oneone _ seed).mono ?_
  rintro e w2 ⟨g, rfl, h2, k2, ho⟩
  have hB : Below W.heap.size W w2 := (E1.still k2).1
  clear c0 c1 c2 c3 c4 E1 h2 k2 ho
  go_wp2
  go_ret
  exact ⟨rfl, hB⟩

/-- The law's blocks lie apart. -/
structure Apt (W : World) (g : G) (mt mp : Nat) : Prop where
  og : ∀ b, g.own b → W.heap.size < b
  at_ : W.heap.size < mt ∧ ¬ g.own mt
  ap : W.heap.size < mp ∧ ¬ g.own mp
  ne : mt ≠ mp
/-- The state of the world round the walk. -/
structure Wd (W : World) (sh : Array Value) (g : G) (mt mp : Nat) (s : St) (T P : BitVec 64 → Nat) (w : World) : Prop where
  env : Env W sh w
  held : Held w g s
  fr : Fr s
  tm : MapU w mt T
  pm : MapU w mp P
section
variable {W : World} {sh : Array Value} {g : G} {mt mp : Nat} {s : St} {T P : BitVec 64 → Nat} {w w' : World}
theorem MapU.still {b : Nat} {f : BitVec 64 → Nat} (h : MapU w b f) (k : Still w w') : MapU w' b f := h.kept (k.block b h.lt fun e => e)
theorem MapU.past {b : Nat} {f : BitVec 64 → Nat} {S : Nat → Prop} (h : MapU w b f) (k : Kept S w w') (hb : ¬ S b) : MapU w' b f := h.kept (k.block b h.lt hb)
theorem Wd.still (h : Wd W sh g mt mp s T P w) (k : Still w w') : Wd W sh g mt mp s T P w' := ⟨h.env.still k, h.held.still k, h.fr, h.tm.still k, h.pm.still k⟩
theorem Wd.alloc (h : Wd W sh g mt mp s T P w) (o : Obj) : Wd W sh g mt mp s T P (w.alloc o) := h.still ((Kept.refl _ w).alloc o)
theorem Wd.drew (h : Wd W sh g mt mp s T P w) : Wd W sh g mt mp s T P w.drew := h.still ((Kept.refl _ w).drew)
theorem Wd.drewN (h : Wd W sh g mt mp s T P w) (n : Nat) : Wd W sh g mt mp s T P (w.drewN n) := h.still ((Kept.refl _ w).drewN n)
theorem Wd.own (a : Apt W g mt mp) (h : Wd W sh g mt mp s T P w) {s' : St} (h' : Held w' g s') (hf : Fr s') (k : Kept g.own w w') : Wd W sh g mt mp s' T P w' :=
  ⟨h.env.kept k a.og, h', hf, h.tm.past k a.at_.2, h.pm.past k a.ap.2⟩
theorem turned_kept {b : Nat} (t : w.mapTurned w' b) : Kept (fun x => x = b) w w' := (Kept.refl _ w).turned t (.inl rfl)
theorem Env.one {b : Nat} (h : Env W sh w) (k : Kept (fun x => x = b) w w') (hb : W.heap.size < b) : Env W sh w' :=
  ⟨h.1.trans (k.below h.1.size (fun x hx e => by omega)), (k.block _ (Array.getElem?_eq_some_iff.1 h.2).1 (by omega)).trans h.2⟩
theorem Wd.turnT (a : Apt W g mt mp) (h : Wd W sh g mt mp s T P w) {T' : BitVec 64 → Nat} (t : w.mapTurned w' mt) (m : MapU w' mt T') : Wd W sh g mt mp s T' P w' :=
  ⟨h.env.one (turned_kept t) a.at_.1, h.held.kept (turned_kept t) (fun b hb e => a.at_.2 (e ▸ hb)), h.fr, m, h.pm.past (turned_kept t) (fun e => a.ne e.symm)⟩
theorem Wd.turnP (a : Apt W g mt mp) (h : Wd W sh g mt mp s T P w) {P' : BitVec 64 → Nat} (t : w.mapTurned w' mp) (m : MapU w' mp P') : Wd W sh g mt mp s T P' w' :=
  ⟨h.env.one (turned_kept t) a.ap.1, h.held.kept (turned_kept t) (fun b hb e => a.ap.2 (e ▸ hb)), h.fr, h.tm.past (turned_kept t) a.ne, m⟩
theorem Wd.putT (a : Apt W g mt mp) (h : Wd W sh g mt mp s T P w) {N : Nat} (hf : Few T N) (hN : N ≤ 1024) (A : BitVec 64) {n : Nat} (hn : n ≠ 0) (hn2 : n ≤ 2) :
    ∃ w', (Instr.mapUpdate 51 (.map (some mt)) (.int .u64 (U A)) (.int .i64 (n : Nat))).run Try.prog w = .ok () w' ∧ Wd W sh g mt mp s (updN T A n) P w' ∧ w.mapTurned w' mt := by
  obtain ⟨w', h1, h2, h3⟩ := h.tm.put hf hN A hn hn2
  exact ⟨w', h1, h.turnT a h3 h2, h3⟩
theorem Wd.putP (a : Apt W g mt mp) (h : Wd W sh g mt mp s T P w) {N : Nat} (hf : Few P N) (hN : N ≤ 1024) (A : BitVec 64) {n : Nat} (hn : n ≠ 0) (hn2 : n ≤ 2) :
    ∃ w', (Instr.mapUpdate 51 (.map (some mp)) (.int .u64 (U A)) (.int .i64 (n : Nat))).run Try.prog w = .ok () w' ∧ Wd W sh g mt mp s T (updN P A n) w' ∧ w.mapTurned w' mp := by
  obtain ⟨w', h1, h2, h3⟩ := h.pm.put hf hN A hn hn2
  exact ⟨w', h1, h.turnP a h3 h2, h3⟩
theorem Wd.dropT (a : Apt W g mt mp) (h : Wd W sh g mt mp s T P w) (A : BitVec 64) (ty : TypeId) :
    ∃ w', (Builtin.delete_ #[51, 22] ty #[.map (some mt), .int .u64 (U A)]).run Try.prog w = .ok (.tuple #[]) w' ∧ Wd W sh g mt mp s (updN T A 0) P w' ∧ w.mapTurned w' mt := by
  obtain ⟨w', h1, h2, h3⟩ := h.tm.drop A ty
  exact ⟨w', h1, h.turnT a h3 h2, h3⟩
theorem Wd.dropP (a : Apt W g mt mp) (h : Wd W sh g mt mp s T P w) (A : BitVec 64) (ty : TypeId) :
    ∃ w', (Builtin.delete_ #[51, 22] ty #[.map (some mp), .int .u64 (U A)]).run Try.prog w = .ok (.tuple #[]) w' ∧ Wd W sh g mt mp s T (updN P A 0) w' ∧ w.mapTurned w' mp := by
  obtain ⟨w', h1, h2, h3⟩ := h.pm.drop A ty
  exact ⟨w', h1, h.turnP a h3 h2, h3⟩
theorem nodup_le : ∀ (a b : List (BitVec 64)), a.Nodup → (∀ x ∈ a, x ∈ b) → a.length ≤ b.length
  | [], _, _, _ => Nat.zero_le _
  | x :: r, b, hn, hs => by
    obtain ⟨h1, h2⟩ := List.nodup_cons.1 hn
    have hx := hs x (by simp)
    have := nodup_le r (b.erase x) h2 fun y hy => (List.mem_erase_of_ne (fun e : y = x => h1 (by rw [← e]; exact hy))).2 (hs y (by simp [hy]))
    rw [List.length_erase_of_mem hx] at this
    have := List.length_pos_of_mem hx
    simp only [List.length_cons]
    omega
theorem Law.fewP (h : Law s T P) : Few P 8 := fun ka hn hk => by
  have := h.con.ok.ns.2
  obtain ⟨l, l1, l2, l3⟩ := law_num h
  have h8 := under_le s s.ns
  have := nodup_le ka l hn fun A hA => (l2 A).2 (hk A hA)
  omega
theorem Law.fewT (h : Law s T P) : Few T 512 := fun ka hn hk => Nat.le_trans (law_few h ka hn hk) h.con.ok.n_le.2
theorem Law.le2 (h : Law s T P) (A : BitVec 64) : T A ≤ 2 := by
  by_cases e : T A = 0
  · omega
  · obtain ⟨L, n, q1, q2⟩ := h.tA A e
    rw [q1, h.tB L n q2]
    exact vb_le _
theorem Law.le2P (h : Law s T P) (A : BitVec 64) : P A ≤ 2 := by
  by_cases e : P A = 0
  · omega
  · obtain ⟨i, q1, q2, q3⟩ := h.pA A e
    rw [q3, h.pB i q1 q2]
    exact vb_le _
theorem MapU.num {b : Nat} {f : BitVec 64 → Nat} (h : MapU w b f) : ∃ n, Num f n := by
  obtain ⟨D, ho, hr⟩ := h
  exact ⟨_, num_of hr (ho.entries lawU)⟩
end
theorem ask_sets (s : St) (L : BitVec 64) (wr : Bool) : (askS s L wr).1.sets = s.sets := by
  rcases ask_cases s L wr with ⟨n, _, e⟩ | ⟨_, i, _, _, _, e⟩ | ⟨_, _, i, _, _, e⟩ | ⟨_, _, e⟩ <;> rw [e] <;> rfl
end Go.Proofs.Ytpflodhnniochaa
