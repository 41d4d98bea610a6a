/-
  The reference's cache while it is made: some of its sets lie in memory.
-/
import Derived.Test.YtpflodhnniochaaDoesH
namespace Go.Proofs.Ytpflodhnniochaa
set_option linter.unusedVariables false
open Go.RowKit Go.Maps

theorem row_ofR {w : World} {base k n : Nat} {T : TypeId} {v : Value} {xs : List Value} {e : Nat → Nat → Value} (h : w.ownsRow base T k v n xs) (hn : 0 < n) (hx : ∀ i j, i < n → j < k → xs[i * k + j]? = some (e i j)) :
    ∃ b cap, v = .slice (some ⟨b, 0, none⟩) n cap ∧ base ≤ b ∧ Row w b T k n e := by
  obtain ⟨h1, h2 | ⟨g, cap, cur, r1, r2, r3, r4, r5, r6, r7⟩⟩ := h
  · omega
  · refine ⟨g, cap, r1, r2, cur, r3, ?_, fun i j hi hj => ?_⟩
    · rw [r6]; exact Nat.mul_le_mul_right k r4
    · have hlt : i * k + j < n * k := by
        have := Nat.mul_le_mul_right k (show i + 1 ≤ n from hi)
        rw [Nat.add_mul] at this
        omega
      have h3 := hx i j hi hj
      rw [← r7, List.getElem?_take, if_pos hlt, Array.getElem?_toList] at h3
      exact h3
def rowsV (row kr : Nat → Nat) (ways i : Nat) : List Value := (List.range i).map fun j => .slice (some ⟨row j, 0, none⟩) ways (kr j)
theorem rowsV_length (row kr : Nat → Nat) (ways i : Nat) : (rowsV row kr ways i).length = i := by simp [rowsV]
theorem rowsV_at (row kr : Nat → Nat) (ways : Nat) {i j : Nat} (h : j < i) : (rowsV row kr ways i)[j]? = some (.slice (some ⟨row j, 0, none⟩) ways (kr j)) := by simp [rowsV, h]
def at_ (f : Nat → Nat) (i x : Nat) : Nat → Nat := fun j => if j = i then x else f j
theorem at_same (f : Nat → Nat) (i x : Nat) : at_ f i x i = x := by simp [at_]
theorem at_other (f : Nat → Nat) {i j : Nat} (x : Nat) (h : j ≠ i) : at_ f i x j = f j := by simp [at_, h]
theorem rowsV_next (row kr : Nat → Nat) (ways i rb c : Nat) : rowsV (at_ row i rb) (at_ kr i c) ways (i + 1) = rowsV row kr ways i ++ [.slice (some ⟨rb, 0, none⟩) ways c] := by
  unfold rowsV
  rw [List.range_succ, List.map_append, List.map_singleton, at_same, at_same]
  congr 1
  refine List.map_congr_left fun j hj => ?_
  have : j ≠ i := Nat.ne_of_lt (List.mem_range.1 hj)
  rw [at_other _ _ this, at_other _ _ this]
/-- i sets are made. -/
structure NewAt (w : World) (B cb sb ks ns delay : Nat) (seed : BitVec 64) (ways i : Nat) (v : Value) (row kr : Nat → Nat) (q : Nat → Nat → Sl) (sq : Nat → Sl) : Prop where
  lo : B ≤ sb ∧ B ≤ cb ∧ sb ≠ cb
  c : w.heap[cb]? = some (.cells #[v, .slice (some ⟨sb, 0, none⟩) ns ks, .int .i64 (delay : Nat), .int .u64 (U seed)] 64 (0, 0))
  s : Row w sb 76 4 ns (slV sq)
  o : w.ownsRow B 61 1 v i (rowsV row kr ways i)
  vb : v.ownBlock ≠ some cb ∧ v.ownBlock ≠ some sb
  r : ∀ j, j < i → Row w (row j) 76 4 ways (slV (q j)) ∧ B ≤ row j ∧ row j ≠ cb ∧ row j ≠ sb ∧ v.ownBlock ≠ some (row j)
  inj : ∀ j k, j < i → k < i → row j = row k → j = k
section
variable {w w' w2 : World} {B cb sb ks ns delay : Nat} {seed : BitVec 64} {ways i : Nat} {v : Value} {row kr : Nat → Nat} {q : Nat → Nat → Sl} {sq : Nat → Sl}
theorem NewAt.keep (h : NewAt w B cb sb ks ns delay seed ways i v row kr q sq) (k : ∀ b, b < w.heap.size → B ≤ b → w'.heap[b]? = w.heap[b]?) : NewAt w' B cb sb ks ns delay seed ways i v row kr q sq := by
  refine ⟨h.lo, (k _ (Array.getElem?_eq_some_iff.1 h.c).1 h.lo.2.1).trans h.c, h.s.kept (k _ h.s.lt h.lo.1), ?_, h.vb, fun j hj => ?_, h.inj⟩
  · obtain ⟨h1, h2⟩ := h.o
    refine ⟨h1, ?_⟩
    rcases h2 with h2 | ⟨g, cap, cur, r1, r2, r3, r4⟩
    · exact .inl h2
    · exact .inr ⟨g, cap, cur, r1, r2, (k g (Array.getElem?_eq_some_iff.1 r3).1 r2).trans r3, r4⟩
  · obtain ⟨r1, r2⟩ := h.r j hj
    exact ⟨r1.kept (k _ r1.lt r2.1), r2⟩
theorem NewAt.still (h : NewAt w B cb sb ks ns delay seed ways i v row kr q sq) (k : Still w w') : NewAt w' B cb sb ks ns delay seed ways i v row kr q sq := h.keep fun b hb _ => k.block b hb fun e => e
theorem NewAt.cell0 (h : NewAt w B cb sb ks ns delay seed ways i v row kr q sq) : w.cell? ⟨cb, 0, none⟩ = some v ∧ w.frozen? ⟨cb, 0, none⟩ = false := by
  have hc := h.c
  exact ⟨by simp [World.cell?, hc], by simp [World.frozen?, hc]⟩
/-- One more set: its row lies in a new block, its slice is appended and laid into the struct. -/
theorem NewAt.next (h : NewAt w B cb sb ks ns delay seed ways i v row kr q sq) {rb c ga cap : Nat} (hB : B ≤ w.heap.size) (hrb : w.heap.size ≤ rb) (hrb2 : rb < w'.heap.size) (k1 : Still w w') (hrow : Row w' rb 76 4 ways (slV (q i)))
    (hg : w'.grownBy w2 v.ownBlock) (ho : w2.ownsRow B 61 1 (.slice (some ⟨ga, 0, none⟩) (i + 1) cap) (i + 1) (rowsV row kr ways i ++ [.slice (some ⟨rb, 0, none⟩) ways c])) (hga : v.ownBlock = some ga ∨ ga = w'.heap.size) :
    NewAt (w2.setCell ⟨cb, 0, none⟩ (.slice (some ⟨ga, 0, none⟩) (i + 1) cap)) B cb sb ks ns delay seed ways (i + 1) (.slice (some ⟨ga, 0, none⟩) (i + 1) cap) (at_ row i rb) (at_ kr i c) q sq := by
  have hcl : cb < w.heap.size := (Array.getElem?_eq_some_iff.1 h.c).1
  have hsl := h.s.lt
  have hsz := k1.size
  have hvb : ∀ p, v.ownBlock = some p → p < w.heap.size := fun p hp => (World.ownsRow.lt h.o p hp).2
  have hne : ∀ b, b < w'.heap.size → v.ownBlock ≠ some b → b ≠ ga := fun b hb hv e => by
    rcases hga with hga | hga
    · exact hv (by rw [hga, e])
    · omega
  have hgc : ga ≠ cb := (hne cb (by omega) h.vb.1).symm
  have hk : ∀ b, b < w.heap.size → v.ownBlock ≠ some b → b ≠ cb → (w2.setCell ⟨cb, 0, none⟩ (.slice (some ⟨ga, 0, none⟩) (i + 1) cap)).heap[b]? = w.heap[b]? := fun b hb hv hc => by
    rw [heap_setCell_ne _ _ hc, hg.block b (by omega) (fun e => hv e.symm), k1.block b hb (fun e => e)]
  have hrv : v.ownBlock ≠ some rb := fun e => by have := hvb _ e; omega
  have hrk : (w2.setCell ⟨cb, 0, none⟩ (.slice (some ⟨ga, 0, none⟩) (i + 1) cap)).heap[rb]? = w'.heap[rb]? := by
    rw [heap_setCell_ne _ _ (by show rb ≠ cb; omega), hg.block rb hrb2 (fun e => hrv e.symm)]
  refine ⟨h.lo, ?_, h.s.kept (hk sb hsl h.vb.2 h.lo.2.2), ?_, ⟨fun e => hgc (Option.some.inj e), fun e => hne sb (by omega) h.vb.2 (Option.some.inj e).symm⟩, fun j hj => ?_, fun j k hj hk2 e => ?_⟩
  · refine heap_setCell_same _ cb 0 _ _ _ (((hg.block cb (by omega) (fun e => h.vb.1 e.symm)).trans (k1.block cb hcl (fun e => e))).trans h.c)
  · rw [rowsV_next]
    obtain ⟨h1, h2⟩ := ho
    refine ⟨h1, ?_⟩
    rcases h2 with h2 | ⟨g2, cap2, cur, r1, r2, r3, r4⟩
    · cases h2.1
    · simp only [Value.slice.injEq, Option.some.injEq, Addr.mk.injEq, true_and, and_true] at r1
      obtain ⟨rfl, rfl⟩ := r1
      exact .inr ⟨ga, cap, cur, rfl, r2, (heap_setCell_ne _ _ hgc).trans r3, r4⟩
  · by_cases e : j = i
    · subst e
      rw [at_same]
      exact ⟨hrow.kept hrk, by omega, by omega, by omega, fun e => hne rb hrb2 hrv (Option.some.inj e).symm⟩
    · have hji : j < i := by omega
      obtain ⟨r1, r2, r3, r4, r5⟩ := h.r j hji
      rw [at_other _ _ e]
      exact ⟨r1.kept (hk _ r1.lt r5 r3), r2, r3, r4, fun e => hne (row j) (by have := r1.lt; omega) r5 (Option.some.inj e).symm⟩
  · by_cases e1 : j = i
    · by_cases e2 : k = i
      · rw [e1, e2]
      · have hki : k < i := by omega
        rw [e1, at_same, at_other _ _ e2] at e
        have := (h.r k hki).1.lt
        omega
    · have hji : j < i := by omega
      by_cases e2 : k = i
      · rw [e2, at_same, at_other _ _ e1] at e
        have := (h.r j hji).1.lt
        omega
      · rw [at_other _ _ e1, at_other _ _ e2] at e
        exact h.inj j k hji (by omega) e
end
/-- All sets are made. -/
theorem NewAt.done {w : World} {B cb sb ks : Nat} {s : St} {v : Value} {row kr : Nat → Nat} (h : NewAt w B cb sb ks s.ns s.delay s.seed s.ways s.sets v row kr (setQ s) s.sl) (hn : 0 < s.sets) :
    ∃ g : R, g.c = cb ∧ HeldR w g s ∧ ∀ b, g.own s.sets b → B ≤ b := by
  obtain ⟨ab, ka, rfl, hab, ha⟩ := row_ofR (w := w) (k := 1) (T := 61) (e := fun i _ => .slice (some ⟨row i, 0, none⟩) s.ways (kr i)) h.o hn (fun i j hi hj => by
    obtain rfl : j = 0 := by omega
    rw [Nat.mul_one, Nat.add_zero]
    exact rowsV_at row kr s.ways hi)
  have h1 : cb ≠ ab := fun e => h.vb.1 (by rw [e]; rfl)
  have h2 : ab ≠ sb := fun e => h.vb.2 (by rw [← e]; rfl)
  have h3 : ∀ i, i < s.sets → ab ≠ row i := fun i hi e => (h.r i hi).2.2.2.2 (by rw [← e]; rfl)
  refine ⟨⟨cb, ab, sb, row, ka, ks, kr⟩, rfl, ⟨⟨h1, h.lo.2.2.symm, h2, fun i hi => (h.r i hi).2.2.1.symm, h3, fun i hi => (h.r i hi).2.2.2.1.symm, h.inj⟩, h.c, ha, fun i hi => (h.r i hi).1, h.s⟩, ?_⟩
  rintro b (rfl | rfl | rfl | ⟨i, hi, rfl⟩)
  · exact h.lo.2.1
  · exact hab
  · exact h.lo.1
  · exact (h.r i hi).2.1
end Go.Proofs.Ytpflodhnniochaa
