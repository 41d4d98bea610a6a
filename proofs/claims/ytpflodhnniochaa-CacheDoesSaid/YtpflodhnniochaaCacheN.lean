/-
  Flush at any number of lines that are written.
-/
import Derived.Test.YtpflodhnniochaaCacheI
import Derived.Test.YtpflodhnniochaaSortI
namespace Go.Proofs.Ytpflodhnniochaa
set_option linter.unusedVariables false
open Go.RowKit Go.Sort

def uArr (l : List (BitVec 64)) : Array Int := (l.map U).toArray
theorem uArr_size (l : List (BitVec 64)) : (uArr l).size = l.length := by simp [uArr]
theorem uArr_el (l : List (BitVec 64)) {i : Nat} (h : i < l.length) : el (uArr l) i = U l[i] := by simp [el, uArr, h]
/-- The row that a call hands back. -/
def OutRow (w : World) (lo : Nat) (v : Value) (L : List (BitVec 64)) : Prop := (L = [] ∧ v = .slice none 0 0) ∨ ∃ gb cap, v = .slice (some ⟨gb, 0, none⟩) L.length cap ∧ lo ≤ gb ∧ RowI w gb (uArr L)
theorem perm_back {l : List (BitVec 64)} {d : Array Int} (h : PermIn 0 (uArr l).size (uArr l) d) : ∃ L : List (BitVec 64), L.Perm l ∧ d = uArr L := by
  obtain ⟨h1, h2, h3⟩ := h
  have e1 : d.extract 0 (uArr l).size = d := by rw [← h1]; simp
  have e2 : (uArr l).extract 0 (uArr l).size = uArr l := by simp
  rw [e1, e2] at h3
  have h4 : d.toList.Perm (l.map U) := by simpa [uArr] using h3
  refine ⟨d.toList.map B, ?_, ?_⟩
  · have := h4.map B
    rw [List.map_map] at this
    have e : l.map (B ∘ U) = l := by
      conv => rhs; rw [← List.map_id l]
      exact List.map_congr_left fun x _ => B_U x
    rwa [e] at this
  · unfold uArr
    rw [List.map_map]
    have e : d.toList.map (U ∘ B) = d.toList := by
      conv => rhs; rw [← List.map_id d.toList]
      refine List.map_congr_left fun x hx => ?_
      obtain ⟨y, -, rfl⟩ := List.mem_map.1 (h4.mem_iff.1 hx)
      show U (B (U y)) = U y
      rw [B_U]
    rw [e]
def Rises (L : List (BitVec 64)) : Prop := ∀ i j, i < j → (hj : j < L.length) → (hi : i < L.length) → L[i].toNat ≤ L[j].toNat
theorem rises_of {L : List (BitVec 64)} (h : SortedIn ltInt 0 (uArr L).size (uArr L)) : Rises L := by
  intro i j hij hj hi
  have := h i j (Nat.zero_le _) hij (by rw [uArr_size]; exact hj)
  have e1 : (uArr L)[i]! = U L[i] := uArr_el L hi
  have e2 : (uArr L)[j]! = U L[j] := uArr_el L hj
  rw [e1, e2] at this
  simp only [ltInt, decide_eq_false_iff_not] at this
  unfold U at this
  omega
theorem rowI_of_owns {w : World} {lo gb cap : Nat} {t : TypeId} {L : List (BitVec 64)} (h : w.ownsRow lo t 1 (.slice (some ⟨gb, 0, none⟩) L.length cap) L.length (uCells L)) : lo ≤ gb ∧ RowI w gb (uArr L) := by
  obtain ⟨h1, h2 | ⟨g, cap', cur, h2, h3, h4, h5, h6, h7, h8⟩⟩ := h
  · cases h2.1
  · simp only [Value.slice.injEq, Option.some.injEq, Addr.mk.injEq, true_and, and_true] at h2
    obtain ⟨rfl, rfl⟩ := h2
    refine ⟨h3, cur, t, h4, by rw [uArr_size]; omega, fun i hi => ?_⟩
    rw [uArr_size] at hi
    have e : (cur.toList.take (L.length * 1))[i]? = (uCells L)[i]? := by rw [h8]
    rw [List.getElem?_take, if_pos (by omega), Array.getElem?_toList] at e
    rw [e, uArr_el L hi]
    simp [uCells, hi]
theorem out_of {w : World} {lo : Nat} {t : TypeId} {v : Value} {l : List (BitVec 64)} (h : w.ownsRow lo t 1 v l.length (uCells l)) (hn : l.length = 0 → v = .slice none 0 0) : OutRow w lo v l := by
  by_cases h0 : l.length = 0
  · exact .inl ⟨List.length_eq_zero_iff.1 h0, hn h0⟩
  · obtain ⟨gb, cap, rfl, -, -⟩ := World.ownsRow.form h (by omega)
    obtain ⟨a, b⟩ := rowI_of_owns h
    exact .inr ⟨gb, cap, rfl, a, b⟩
theorem OutRow.kept {w w' : World} {lo : Nat} {v : Value} {L : List (BitVec 64)} {S : Nat → Prop} (h : OutRow w lo v L) (k : Kept S w w') (hs : ∀ b, lo ≤ b → ¬ S b) : OutRow w' lo v L := by
  rcases h with h | ⟨gb, cap, h1, h2, h3⟩
  · exact .inl h
  · exact .inr ⟨gb, cap, h1, h2, h3.kept (k.block gb h3.lt (hs gb h2))⟩
/-- What is done to the row that was collected: it is sorted. -/
theorem SortOut (w : World) (lo : Nat) (v : Value) (L : List (BitVec 64)) (h : OutRow w lo v L) (hl : L.length < 1000000) :
    Calls Try.prog 31 #[v] w fun e w' => e = .returned (.tuple #[]) ∧ ∃ L', L'.Perm L ∧ Rises L' ∧ OutRow w' lo v L' ∧ Kept (fun x => lo ≤ x) w w' := by
  rcases h with ⟨rfl, rfl⟩ | ⟨gb, cap, rfl, hlo, hr⟩
  · refine (Sort_0 w).mono ?_
    rintro e w' ⟨rfl, rfl⟩
    exact ⟨rfl, [], List.Perm.refl _, fun i j _ hj => absurd hj (Nat.not_lt_zero _), .inl ⟨rfl, rfl⟩, Kept.refl _ _⟩
  · have hs := Sort_any w gb cap (uArr L) hr (by rw [uArr_size]; exact hl)
    rw [uArr_size] at hs
    refine hs.mono ?_
    rintro e w' ⟨rfl, d', p1, s1, r1, k1⟩
    rw [← uArr_size L] at p1 s1
    obtain ⟨L', p2, rfl⟩ := perm_back p1
    have hsz : (uArr L').size = (uArr L).size := p1.1
    rw [← hsz] at s1
    exact ⟨rfl, L', p2, rises_of s1, .inr ⟨gb, cap, by rw [p2.length_eq], hlo, r1⟩, k1.mono (fun x e => by subst e; exact hlo)⟩
set_option maxRecDepth 100000 in
set_option maxHeartbeats 4000000 in
theorem Flush_all (w : World) (g : G) (s : St) (h : Held w g s) :
    Calls Try.prog 20 #[.pointer (some ⟨g.c, 0, none⟩)] w fun e w' =>
      ∃ v L, e = .returned v ∧ L.Perm (outS s s.n) ∧ Rises L ∧ OutRow w' w.heap.size v L ∧ Held w' g (flushS s) ∧ Kept g.own w w' := by
  obtain ⟨i0, hi, hz0, hz1, hz2⟩ := info_parts infoU
  have c4 := h.cf.c4
  go_enter Try.func20, Try.ntmps20
  go_wp2
  go_loopw [3, 11] (fun ov iv wr => ∃ k : Nat, k ≤ s.n ∧ iv = .int .i64 k ∧ Still w wr ∧ wr.ownsRow w.heap.size 22 1 ov (outS s k).length (uCells (outS s k)) ∧ ((outS s k).length = 0 → ov = .slice none 0 0)) (fun _ iv _ => s.n - (intOf iv).toNat)
  case atStart => exact ⟨0, Nat.zero_le _, rfl, Kept.refl _ _, World.ownsRow_nil _ _ _ _, fun _ => rfl⟩
  case round =>
    obtain ⟨k, hk, rfl, hst, ho, hnil⟩ := hrel
    have hh := h.still hst
    by_cases hlt : k < s.n
    · have hn512 := h.ok.n_le.2
      have hms := meas_succ2 hlt
      have hk1 : k + 1 ≤ s.n := hlt
      have hb : 0 ≤ (k : Int) := by omega
      have hb2 : ((k : Nat) : Int) < (s.n : Nat) := by omega
      have e0 := hh.a.cell k 0 hlt (by decide)
      have e1 := hh.a.cell k 1 hlt (by decide)
      have e2 := hh.a.cell k 2 hlt (by decide)
      simp only [plV, Nat.add_zero] at e0 e1 e2
      have hlen := out_length s k
      have hst' : outS s (k + 1) = outS s k ++ (if (s.pl k).is = true ∧ (s.pl k).written = true then [(s.pl k).line <<< 6] else []) := rfl
      by_cases hc : (s.pl k).is = true ∧ (s.pl k).written = true
      · obtain ⟨i1, i2⟩ := hc
        rw [if_pos ⟨i1, i2⟩] at hst'
        have hst' := hide hst'
        rw [i1] at e1
        rw [i2] at e2
        have hbw : w.heap.size ≤ wr.heap.size := hst.size
        have q1 : (outS s k).length + 1 ≤ maxLen := by rw [maxLen_is]; omega
        have q2 : ((outS s k).length + 1) * 8 ≤ 140737488355328 := by omega
        have q3 : w.heap.size ≤ wr.heap.size + 1 + 1 := by omega
        go_wp2_with (at_builtin; refine wpList_append_own_at _ rfl _ _ 44 rfl w.heap.size 22 i0 (.int .u64 0) 1 8 Try.underlying44 hi hz0 hz1 hz2 rfl (by decide) _ _ _ rfl ((ho.alloc _).alloc _) ⟨wr.heap.size + 1, 0, none⟩ 1 1 [.int .u64 (U ((s.pl k).line <<< 6))] rfl rfl (cell_two _ _ _ _) (fun u hu => by simp at hu; subst hu; rfl) q1 q2 (by simp only [World.size_alloc]; exact q3) ?_; intro v' w1 hown' hgrow hnil' hloc)
        have hst2 : Still w w1 := ((hst.alloc _).alloc _).grown hgrow (fun p hp => .inr (World.ownsRow.lt ho p hp).1)
        have hl : Hid ((outS s (k + 1)).length = (outS s k).length + 1 ∧ uCells (outS s (k + 1)) = uCells (outS s k) ++ [.int .u64 (U ((s.pl k).line <<< 6))]) := hide (by rw [hst'.out]; simp [uCells])
        clear hgrow hnil' hloc hnil
        go_roundw
        case rel => exact ⟨k + 1, hk1, by simp, hst2, by rw [hl.out.1, hl.out.2]; exact hown', fun e => by rw [hl.out.1] at e; cases e⟩
        case measure => exact hms
      · rw [if_neg hc, List.append_nil] at hst'
        have hst' := hide hst'
        cases i1 : (s.pl k).is with
        | false =>
          rw [i1] at e1
          go_wp2
          go_roundw
          case rel => exact ⟨k + 1, hk1, by simp, hst.alloc _, by rw [hst'.out]; exact ho.alloc _, by rw [hst'.out]; exact hnil⟩
          case measure => exact hms
        | true =>
          have i2 : (s.pl k).written = false := by
            cases e : (s.pl k).written
            · rfl
            · exact absurd ⟨i1, e⟩ hc
          rw [i1] at e1
          rw [i2] at e2
          go_wp2
          go_roundw
          case rel => exact ⟨k + 1, hk1, by simp, hst.alloc _, by rw [hst'.out]; exact ho.alloc _, by rw [hst'.out]; exact hnil⟩
          case measure => exact hms
    · obtain rfl : k = s.n := by omega
      have hor := out_of ho hnil
      have hlen := out_length s s.n
      have hn512 := h.ok.n_le.2
      have hso := SortOut _ _ _ _ hor (by omega)
      replace hso := hide hso
      clear ho hnil hor
      go_wp2_with fail
      refine hso.out.mono ?_
      rintro e w5 ⟨rfl, L', p5, r5, o5, k5⟩
      have h5 := hh.kept k5 (fun b hb => by have := h.lt hb; omega)
      have hK5 : Kept g.own w w5 := (hst.start (k5.mono (fun x hx => .inr hx))).mono (fun x e => e.elim)
      obtain ⟨w6, w7, w8, r1, r2, r3, c5, c6, h8, hK8⟩ := flush_steps h5
      have hKf := hK5.trans hK8
      have ho8 : OutRow w8 w.heap.size _ L' := o5.kept hK8 (fun b hb hw => absurd (h.lt hw) (Nat.not_lt.2 hb))
      replace ho8 := hide ho8
      have c4 := h5.cf.c4
      have c50 := h5.cf.c5
      clear o5 hso
      go_wp2_with (first
        | refine wpList_clear rfl _ 55 rfl _ rfl r1 ?_
        | refine wpList_clear rfl _ 56 rfl _ rfl r2 ?_
        | refine wpList_clear rfl _ 57 rfl _ rfl r3 ?_)
      go_ret
      exact ⟨_, L', rfl, p5, r5, ho8.out, h8, hKf⟩
end Go.Proofs.Ytpflodhnniochaa
