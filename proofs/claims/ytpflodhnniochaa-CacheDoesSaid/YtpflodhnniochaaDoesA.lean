/-
  The reference's cache in memory, said of the plain state of the program's cache; power, find, empty.
-/
import Derived.Test.YtpflodhnniochaaOnceE
namespace Go.Proofs.Ytpflodhnniochaa
set_option linter.unusedVariables false
open Go.RowKit Go.Maps

/-- The blocks of the reference's cache. -/
structure R where
  c : Nat
  a : Nat
  s : Nat
  row : Nat → Nat
  ka : Nat
  ks : Nat
  kr : Nat → Nat
def R.own (g : R) (n : Nat) (k : Nat) : Prop := k = g.c ∨ k = g.a ∨ k = g.s ∨ ∃ i, i < n ∧ k = g.row i
structure ApartR (g : R) (n : Nat) : Prop where
  ca : g.c ≠ g.a
  cs : g.c ≠ g.s
  as_ : g.a ≠ g.s
  cr : ∀ i, i < n → g.c ≠ g.row i
  ar : ∀ i, i < n → g.a ≠ g.row i
  sr : ∀ i, i < n → g.s ≠ g.row i
  rr : ∀ i j, i < n → j < n → g.row i = g.row j → i = j
/-- A set's places as lines. -/
def setQ (s : St) (i : Nat) (j : Nat) : Sl := ⟨(s.pl (i * s.ways + j)).line, (s.pl (i * s.ways + j)).is, (s.pl (i * s.ways + j)).written, 0⟩
def cR (g : R) (s : St) : Array Value := #[.slice (some ⟨g.a, 0, none⟩) s.sets g.ka, .slice (some ⟨g.s, 0, none⟩) s.ns g.ks, .int .i64 (s.delay : Nat), .int .u64 (U s.seed)]
def aR (g : R) (s : St) (i _j : Nat) : Value := .slice (some ⟨g.row i, 0, none⟩) s.ways (g.kr i)
structure HeldR (w : World) (g : R) (s : St) : Prop where
  ap : ApartR g s.sets
  c : w.heap[g.c]? = some (.cells (cR g s) 64 (0, 0))
  a : Row w g.a 61 1 s.sets (aR g s)
  r : ∀ i, i < s.sets → Row w (g.row i) 76 4 s.ways (slV (setQ s i))
  s : Row w g.s 76 4 s.ns (slV s.sl)
theorem HeldR.lt {w : World} {g : R} {s : St} (h : HeldR w g s) {k : Nat} (hk : g.own s.sets k) : k < w.heap.size := by
  rcases hk with rfl | rfl | rfl | ⟨i, hi, rfl⟩
  · exact (Array.getElem?_eq_some_iff.1 h.c).1
  · exact h.a.lt
  · exact h.s.lt
  · exact (h.r i hi).lt
theorem HeldR.keep {w w' : World} {g : R} {s : St} (h : HeldR w g s) (k : ∀ b, g.own s.sets b → w'.heap[b]? = w.heap[b]?) : HeldR w' g s :=
  ⟨h.ap, (k _ (.inl rfl)).trans h.c, h.a.kept (k _ (.inr (.inl rfl))), fun i hi => (h.r i hi).kept (k _ (.inr (.inr (.inr ⟨i, hi, rfl⟩)))), h.s.kept (k _ (.inr (.inr (.inl rfl))))⟩
theorem HeldR.kept {w w' : World} {g : R} {s : St} {S : Nat → Prop} (h : HeldR w g s) (k : Kept S w w') (hs : ∀ b, g.own s.sets b → ¬ S b) : HeldR w' g s :=
  h.keep fun b hb => k.block b (h.lt hb) (hs b hb)
theorem HeldR.still {w w' : World} {g : R} {s : St} (h : HeldR w g s) (k : Still w w') : HeldR w' g s := h.kept k (fun _ _ e => e)
theorem HeldR.drew {w : World} {g : R} {s : St} (h : HeldR w g s) : HeldR w.drew g s := h.keep fun _ _ => rfl
theorem HeldR.drewN {w : World} {g : R} {s : St} (h : HeldR w g s) (n : Nat) : HeldR (w.drewN n) g s := h.keep fun _ _ => rfl
theorem HeldR.alloc {w : World} {g : R} {s : St} (h : HeldR w g s) (o : Obj) : HeldR (w.alloc o) g s := h.keep fun b hb => Below.heap_alloc w o b (h.lt hb)
/-- The struct's cells. -/
structure RFacts (w : World) (g : R) (s : St) : Prop where
  c0 : w.cell? ⟨g.c, 0, none⟩ = some (.slice (some ⟨g.a, 0, none⟩) s.sets g.ka)
  c1 : w.cell? ⟨g.c, 1, none⟩ = some (.slice (some ⟨g.s, 0, none⟩) s.ns g.ks)
  c2 : w.cell? ⟨g.c, 2, none⟩ = some (.int .i64 (s.delay : Nat))
  c3 : w.cell? ⟨g.c, 3, none⟩ = some (.int .u64 (U s.seed))
theorem HeldR.cf {w : World} {g : R} {s : St} (h : HeldR w g s) : RFacts w g s := by
  have hc := h.c
  constructor <;> simp [World.cell?, hc, cR]
theorem HeldR.fz {w : World} {g : R} {s : St} (h : HeldR w g s) (o : Nat) : w.frozen? ⟨g.c, o, none⟩ = false := by simp [World.frozen?, h.c]
/-- Only these parts of the state lie in the reference's memory. -/
theorem HeldR.same {w : World} {g : R} {s s' : St} (h : HeldR w g s) (h1 : s'.sets = s.sets) (h2 : s'.ways = s.ways) (h3 : s'.delay = s.delay) (h4 : s'.seed = s.seed) (h5 : s'.ns = s.ns) (h6 : s'.pl = s.pl) (h7 : s'.sl = s.sl) : HeldR w g s' := by
  obtain ⟨a, b, c, d, e, p, f, q⟩ := s
  obtain ⟨a', b', c', d', e', p', f', q'⟩ := s'
  simp only at h1 h2 h3 h4 h5 h6 h7
  subst h1 h2 h3 h4 h5 h6 h7
  exact ⟨h.ap, h.c, h.a, h.r, h.s⟩

/-! Finding. -/
def findQ (q : Nat → Sl) (L : BitVec 64) : Nat → Nat → Option Nat
  | _, 0 => none
  | i, k + 1 => if (q i).is = true ∧ (q i).line = L then some i else findQ q L (i + 1) k
def freeQ (q : Nat → Sl) : Nat → Nat → Option Nat
  | _, 0 => none
  | i, k + 1 => if (q i).is = false then some i else freeQ q (i + 1) k
theorem findQ_slots (s : St) (L : BitVec 64) : ∀ k i, findQ s.sl L i k = findS s L i k
  | 0, _ => rfl
  | k + 1, i => by rw [findQ, findS, findQ_slots s L k]
theorem freeQ_slots (s : St) : ∀ k i, freeQ s.sl i k = freeS s i k
  | 0, _ => rfl
  | k + 1, i => by rw [freeQ, freeS, freeQ_slots s k]
/-- A place, or -1. -/
def optV (o : Option Nat) : Value := match o with | some i => .int .i64 (i : Nat) | none => .int .i64 (-1)
theorem Find_any (w : World) (b : Nat) (T : TypeId) (len cap : Nat) (q : Nat → Sl) (L : BitVec 64) (h : Row w b T 4 len (slV q)) (hl : len ≤ 8) :
    Calls Try.prog 28 #[.slice (some ⟨b, 0, none⟩) len cap, .int .u64 (U L)] w fun e w' => e = .returned (optV (findQ q L 0 len)) ∧ w = w' := by
  go_enter Try.func28, Try.ntmps28
  go_wp2
  go_loop [5] (fun iv => ∃ k : Nat, k ≤ len ∧ iv = .int .i64 k ∧ findQ q L 0 len = findQ q L k (len - k)) (fun iv => len - (intOf iv).toNat)
  case atStart => exact ⟨0, Nat.zero_le _, rfl, rfl⟩
  case round =>
    obtain ⟨k, hk, rfl, hf⟩ := hrel
    replace hf := hide hf
    by_cases hlt : k < len
    · have hms := meas_succ2 hlt
      have hk1 : k + 1 ≤ len := hlt
      have hb : 0 ≤ (k : Int) := by omega
      have hb2 : (k : Int) < (len : Int) := by omega
      have e0 := h.cell k 0 hlt (by decide)
      have e1 := h.cell k 1 hlt (by decide)
      simp only [slV, Nat.add_zero] at e0 e1
      by_cases his : (q k).is = true ∧ (q k).line = L
      · obtain ⟨i1, i2⟩ := his
        have e : Hid (findQ q L 0 len = some k) := hide (by rw [hf.out, show len - k = (len - k - 1) + 1 by omega, findQ, if_pos ⟨i1, i2⟩])
        rw [i1] at e1
        rw [i2] at e0
        go_wp2
        go_ret
        rw [e.out]
        exact ⟨rfl, rfl⟩
      · have hf2 : Hid (findQ q L 0 len = findQ q L (k + 1) (len - (k + 1))) := hide (by
          rw [hf.out, show len - k = (len - (k + 1)) + 1 by omega, findQ, if_neg his])
        cases i1 : (q k).is with
        | false =>
          rw [i1] at e1
          go_wp2
          go_round
          case rel => exact ⟨k + 1, hk1, by simp, hf2.out⟩
          case measure => exact hms
        | true =>
          have i2 : ¬ U (q k).line = U L := fun e => his ⟨i1, U_inj.1 e⟩
          have i3 : (U (q k).line == U L) = false := by simpa using i2
          rw [i1] at e1
          go_wp2
          go_round
          case rel => exact ⟨k + 1, hk1, by simp, hf2.out⟩
          case measure => exact hms
    · obtain rfl : k = len := by omega
      have hf2 : Hid (findQ q L 0 k = none) := hide (by rw [hf.out, Nat.sub_self, findQ])
      go_wp2
      go_ret
      rw [hf2.out]
      exact ⟨rfl, rfl⟩
theorem Empty_any (w : World) (b : Nat) (T : TypeId) (len cap : Nat) (q : Nat → Sl) (h : Row w b T 4 len (slV q)) (hl : len ≤ 8) :
    Calls Try.prog 29 #[.slice (some ⟨b, 0, none⟩) len cap] w fun e w' => e = .returned (optV (freeQ q 0 len)) ∧ w = w' := by
  go_enter Try.func29, Try.ntmps29
  go_wp2
  go_loop [3] (fun iv => ∃ k : Nat, k ≤ len ∧ iv = .int .i64 k ∧ freeQ q 0 len = freeQ q k (len - k)) (fun iv => len - (intOf iv).toNat)
  case atStart => exact ⟨0, Nat.zero_le _, rfl, rfl⟩
  case round =>
    obtain ⟨k, hk, rfl, hf⟩ := hrel
    replace hf := hide hf
    by_cases hlt : k < len
    · have hms := meas_succ2 hlt
      have hk1 : k + 1 ≤ len := hlt
      have hb : 0 ≤ (k : Int) := by omega
      have hb2 : (k : Int) < (len : Int) := by omega
      have e1 := h.cell k 1 hlt (by decide)
      simp only [slV] at e1
      cases i1 : (q k).is with
      | false =>
        have e : Hid (freeQ q 0 len = some k) := hide (by rw [hf.out, show len - k = (len - k - 1) + 1 by omega, freeQ, if_pos i1])
        rw [i1] at e1
        go_wp2
        go_ret
        rw [e.out]
        exact ⟨rfl, rfl⟩
      | true =>
        have hf2 : Hid (freeQ q 0 len = freeQ q (k + 1) (len - (k + 1))) := hide (by
          rw [hf.out, show len - k = (len - (k + 1)) + 1 by omega, freeQ, if_neg (by rw [i1]; decide)])
        rw [i1] at e1
        go_wp2
        go_round
        case rel => exact ⟨k + 1, hk1, by simp, hf2.out⟩
        case measure => exact hms
    · obtain rfl : k = len := by omega
      have hf2 : Hid (freeQ q 0 k = none) := hide (by rw [hf.out, Nat.sub_self, freeQ])
      go_wp2
      go_ret
      rw [hf2.out]
      exact ⟨rfl, rfl⟩
/-- A line's set. -/
theorem set_lt {s : St} (h : Ok s) (L : BitVec 64) : (L % s.m).toNat < s.sets := by
  have h1 := h.sets_le
  unfold St.m
  have e : (BitVec.ofNat 64 s.sets).toNat = s.sets := by rw [BitVec.toNat_ofNat]; exact Nat.mod_eq_of_lt (by omega)
  rw [BitVec.toNat_umod, e]
  exact Nat.mod_lt _ (by omega)
theorem Set_any (w : World) (g : R) (s : St) (L : BitVec 64) (h : HeldR w g s) (hok : Ok s) :
    Calls Try.prog 27 #[.pointer (some ⟨g.c, 0, none⟩), .int .u64 (U L)] w fun e w' => e = .returned (aR g s (L % s.m).toNat 0) ∧ Still w w' := by
  have hz := m_ne hok
  have c0 := h.cf.c0
  have hi := set_lt hok L
  have e0 := h.a.cell (L % s.m).toNat 0 hi (by decide)
  have hU : U (L % BitVec.ofNat 64 s.sets) = (((L % s.m).toNat : Nat) : Int) := rfl
  simp only [Nat.mul_one, Nat.add_zero] at e0
  generalize (L % s.m).toNat = i at hi e0 hU ⊢
  have hb : 0 ≤ (i : Int) := by omega
  have hb2 : (i : Int) < (s.sets : Int) := by omega
  have hsl := hok.sets_le
  have hsl2 : (s.sets : Int) ≤ 64 := by omega
  go_enter Try.func27, Try.ntmps27
  go_wp2
  go_quiet (fail)
  go_wp2
  go_ret
  exact ⟨rfl, (Kept.refl _ w).drewN _⟩
end Go.Proofs.Ytpflodhnniochaa
