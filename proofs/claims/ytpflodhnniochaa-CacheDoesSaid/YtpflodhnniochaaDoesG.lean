/-
  The reference's cache: Flush.
-/
import Derived.Test.YtpflodhnniochaaDoesF
namespace Go.Proofs.Ytpflodhnniochaa
set_option linter.unusedVariables false
open Go.RowKit Go.Maps

theorem infoLn : (Try.prog.info? 76).map (fun i => (i.zero, i.size, i.bytes)) = some (some (.agg #[.int .u64 0, .bool false, .bool false, .int .i64 0]), 4, 24) := by kernel_rfl
def mkL (v v' : Value) : Sem Value := Instr.makeSlice 61 v v'
theorem mkL_eq (v v' : Value) : Instr.makeSlice 61 v v' = mkL v v' := rfl
theorem run_mkL (w : World) {n : Nat} (hn : n ≤ 512) : (mkL (.int .i64 (n : Int)) (.int .i64 (n : Int))).run Try.prog w = .ok (.slice (some ⟨w.heap.size, 0, none⟩) n n) (w.alloc (.cells (zS n) 76)) := by
  obtain ⟨i0, hi, hz0, hz1, hz2⟩ := info_parts infoLn
  have h := run_make (P := Try.prog) w 61 76 i0 _ Try.underlying61 hi hz0 .i64 .i64 n n (by omega) (Int.le_refl _) (by rw [hz2]; omega) (by omega)
  rw [hz1] at h
  simp only [Int.toNat_natCast] at h
  exact h
theorem row_zL {w : World} {b n : Nat} (h : w.heap[b]? = some (.cells (zS n) 76 (0, 0))) : Row w b 76 4 n (slV fun _ => ⟨0#64, false, false, 0⟩) := by
  refine ⟨_, h, by simp [zS, size_madeCells], fun i j hi hj => ?_⟩
  unfold zS
  rw [made_at _ n 4 i j rfl hi hj]
  rcases (by omega : j = 0 ∨ j = 1 ∨ j = 2 ∨ j = 3) with rfl | rfl | rfl | rfl <;> rfl
/-- The first places are cleared. -/
def zeroTo (s : St) (n : Nat) : St := { s with pl := fun j => if j < n then ⟨0#64, false, false⟩ else s.pl j }
theorem zero_start (s : St) : zeroTo s 0 = s := by
  obtain ⟨a, b, c, d, e, p, f, q⟩ := s
  simp [zeroTo]
theorem zero_next (s : St) (n : Nat) : setPl (zeroTo s n) n ⟨0#64, false, false⟩ = zeroTo s (n + 1) := by
  obtain ⟨a, b, c, d, e, p, f, q⟩ := s
  simp only [zeroTo, setPl, St.mk.injEq, true_and, and_true]
  funext j
  by_cases h : j = n
  · subst h; simp
  · rw [if_neg h]
    by_cases h2 : j < n
    · rw [if_pos h2, if_pos (by omega)]
    · rw [if_neg h2, if_neg (by omega)]
theorem zero_at (s : St) (n : Nat) : (zeroTo s n).pl n = s.pl n := by simp [zeroTo]
theorem rowAll2 {w : World} {g : R} {s : St} {i j : Nat} (h : HeldR w g s) (hi : i < s.sets) (hj : j < s.ways) :
    w.cell? ⟨g.row i, j * 4, none⟩ = some (.int .u64 (U (s.pl (i * s.ways + j)).line)) ∧ w.cell? ⟨g.row i, j * 4 + 1, none⟩ = some (.bool (s.pl (i * s.ways + j)).is) ∧ w.cell? ⟨g.row i, j * 4 + 2, none⟩ = some (.bool (s.pl (i * s.ways + j)).written) ∧ w.cell? ⟨g.row i, j * 4 + 3, none⟩ = some (.int .i64 0) ∧ ∀ o, w.frozen? ⟨g.row i, o, none⟩ = false :=
  ⟨(h.r i hi).cell j 0 hj (by decide), (h.r i hi).cell j 1 hj (by decide), (h.r i hi).cell j 2 hj (by decide), (h.r i hi).cell j 3 hj (by decide), (h.r i hi).frozen⟩
theorem HeldR.setAt {w : World} {g : R} {s : St} (h : HeldR w g s) {i : Nat} (hi : i < s.sets) : w.cell? ⟨g.a, i, none⟩ = some (.slice (some ⟨g.row i, 0, none⟩) s.ways (g.kr i)) := by
  have := h.a.cell i 0 hi (by decide)
  simp only [Nat.mul_one, Nat.add_zero] at this
  exact this
/-- The written lines, put in one by one. -/
def insA (s : St) : Nat → List (BitVec 64)
  | 0 => []
  | k + 1 => if (s.pl k).is = true ∧ (s.pl k).written = true then insU ((s.pl k).line <<< 6) (insA s k) else insA s k
theorem insA_length (s : St) : ∀ k, (insA s k).length ≤ k
  | 0 => Nat.le_refl _
  | k + 1 => by
    have := insA_length s k
    rw [insA]
    split
    · rw [insU_length]; omega
    · omega
theorem insA_perm (s : St) : ∀ k, (insA s k).Perm (outS s k)
  | 0 => List.Perm.refl _
  | k + 1 => by
    rw [insA, outS]
    split
    · exact (insU_perm _ _).trans (((insA_perm s k).cons _).trans (List.perm_append_comm (l₁ := [(s.pl k).line <<< 6]) (l₂ := outS s k)))
    · rw [List.append_nil]; exact insA_perm s k
theorem Owns.mono {w : World} {base B n size : Nat} {e : TypeId} {v : Value} {xs : List Value} (h : w.ownsRow base e size v n xs) (hB : B ≤ base) : w.ownsRow B e size v n xs := by
  obtain ⟨h1, h2⟩ := h
  refine ⟨h1, ?_⟩
  rcases h2 with h2 | ⟨g, cap, cur, r1, r2, r3⟩
  · exact .inl h2
  · exact .inr ⟨g, cap, cur, r1, Nat.le_trans hB r2, r3⟩
theorem Owns.still {w w' : World} {base n size : Nat} {e : TypeId} {v : Value} {xs : List Value} (h : w.ownsRow base e size v n xs) (k : Still w w') : w'.ownsRow base e size v n xs := Owns.kept h k (fun _ _ e => e)
theorem zero_place {w0 w : World} {g : R} {s : St} {i k lo : Nat} {v : Value} {L : List (BitVec 64)} (h : HeldR w g (zeroTo s (i * s.ways + k))) (K : Kept (g.own s.sets) w0 w) (o : w.ownsRow w0.heap.size 22 1 v L.length (uCells L)) (hi : i < s.sets) (hk : k < s.ways) (hlt0 : ∀ b, g.own s.sets b → b < w0.heap.size) :
    HeldR ((((w.setCell ⟨g.row i, k * 4, none⟩ (.int .u64 0)).setCell ⟨g.row i, k * 4 + 1, none⟩ (.bool false)).setCell ⟨g.row i, k * 4 + 2, none⟩ (.bool false)).setCell ⟨g.row i, k * 4 + 3, none⟩ (.int .i64 0)) g (zeroTo s (i * s.ways + (k + 1))) ∧ Kept (g.own s.sets) w0 ((((w.setCell ⟨g.row i, k * 4, none⟩ (.int .u64 0)).setCell ⟨g.row i, k * 4 + 1, none⟩ (.bool false)).setCell ⟨g.row i, k * 4 + 2, none⟩ (.bool false)).setCell ⟨g.row i, k * 4 + 3, none⟩ (.int .i64 0)) ∧ ((((w.setCell ⟨g.row i, k * 4, none⟩ (.int .u64 0)).setCell ⟨g.row i, k * 4 + 1, none⟩ (.bool false)).setCell ⟨g.row i, k * 4 + 2, none⟩ (.bool false)).setCell ⟨g.row i, k * 4 + 3, none⟩ (.int .i64 0)).ownsRow w0.heap.size 22 1 v L.length (uCells L) := by
  have hor : g.own s.sets (g.row i) := .inr (.inr (.inr ⟨i, hi, rfl⟩))
  have h1 := h.newP (i := i) (k := k) hi hk 0#64 false false
  have e : setPl (zeroTo s (i * s.ways + k)) (i * (zeroTo s (i * s.ways + k)).ways + k) ⟨0#64, false, false⟩ = zeroTo s (i * s.ways + (k + 1)) := zero_next s (i * s.ways + k)
  rw [e] at h1
  have hK : Kept (g.own s.sets) w ((((w.setCell ⟨g.row i, k * 4, none⟩ (.int .u64 0)).setCell ⟨g.row i, k * 4 + 1, none⟩ (.bool false)).setCell ⟨g.row i, k * 4 + 2, none⟩ (.bool false)).setCell ⟨g.row i, k * 4 + 3, none⟩ (.int .i64 0)) := ((((Kept.refl _ w).setCell _ _ (.inl hor)).setCell _ _ (.inl hor)).setCell _ _ (.inl hor)).setCell _ _ (.inl hor)
  exact ⟨h1, K.trans hK, Owns.kept o hK (fun b hb hw => absurd (hlt0 b hw) (Nat.not_lt.2 hb))⟩
theorem flush_end {w0 w : World} {g : R} {s : St} {v : Value} {L : List (BitVec 64)} (h : HeldR w g (zeroTo s (s.sets * s.ways))) (K : Kept (g.own s.sets) w0 w) (o : w.ownsRow w0.heap.size 22 1 v L.length (uCells L)) (hlt0 : ∀ b, g.own s.sets b → b < w0.heap.size) :
    HeldR ((w.setCell ⟨g.c, 1, none⟩ (.slice (some ⟨w.heap.size, 0, none⟩) s.ns s.ns)).alloc (.cells (zS s.ns) 76)) { g with s := w.heap.size, ks := s.ns } (flushS s) ∧
    Kept (g.own s.sets) w0 ((w.setCell ⟨g.c, 1, none⟩ (.slice (some ⟨w.heap.size, 0, none⟩) s.ns s.ns)).alloc (.cells (zS s.ns) 76)) ∧
    ((w.setCell ⟨g.c, 1, none⟩ (.slice (some ⟨w.heap.size, 0, none⟩) s.ns s.ns)).alloc (.cells (zS s.ns) 76)).ownsRow w0.heap.size 22 1 v L.length (uCells L) ∧
    (∀ b, R.own { g with s := w.heap.size, ks := s.ns } s.sets b → g.own s.sets b ∨ w0.heap.size ≤ b) := by
  have hw : ∀ b, g.own s.sets b → b < w.heap.size := fun b hb => h.lt hb
  have hc := hw _ (.inl rfl)
  have ha := hw _ (.inr (.inl rfl))
  have hr : ∀ i, i < s.sets → g.row i < w.heap.size := fun i hi => hw _ (.inr (.inr (.inr ⟨i, hi, rfl⟩)))
  have hsz : (w.setCell ⟨g.c, 1, none⟩ (.slice (some ⟨w.heap.size, 0, none⟩) s.ns s.ns)).heap.size = w.heap.size := by simp [World.setCell]
  have hback : ∀ b, b < w.heap.size → b ≠ g.c → ((w.setCell ⟨g.c, 1, none⟩ (.slice (some ⟨w.heap.size, 0, none⟩) s.ns s.ns)).alloc (.cells (zS s.ns) 76)).heap[b]? = w.heap[b]? := fun b hb hne => by
    rw [Below.heap_alloc _ _ b (by rw [hsz]; exact hb), heap_setCell_ne _ _ hne]
  have hK1 : Kept (g.own s.sets) w (w.setCell ⟨g.c, 1, none⟩ (.slice (some ⟨w.heap.size, 0, none⟩) s.ns s.ns)) := (Kept.refl _ w).setCell _ _ (.inl (.inl rfl))
  refine ⟨⟨⟨h.ap.ca, by show g.c ≠ w.heap.size; omega, by show g.a ≠ w.heap.size; omega, h.ap.cr, h.ap.ar, fun i hi => by have := hr i hi; show w.heap.size ≠ g.row i; omega, h.ap.rr⟩, ?_, ?_, fun i hi => ?_, ?_⟩, ?_, ?_, ?_⟩
  · rw [Below.heap_alloc _ _ _ (by rw [hsz]; exact hc)]
    exact heap_setCell_same _ g.c 1 _ _ _ h.c
  · exact h.a.kept (hback _ ha h.ap.ca.symm)
  · refine ((h.r i hi).kept (hback _ (hr i hi) (h.ap.cr i hi).symm)).same fun a b ha hb => ?_
    have hn : i * s.ways + a < s.sets * s.ways := set_n (s := s) hi (show a < s.ways from ha)
    have e : setQ (zeroTo s (s.sets * s.ways)) i a = setQ (flushS s) i a := by
      unfold setQ zeroTo flushS
      simp only []
      rw [if_pos hn]
    show slV (setQ (zeroTo s (s.sets * s.ways)) i) a b = slV (setQ (flushS s) i) a b
    unfold slV
    rw [e]
  · refine row_zL ?_
    have := heap_alloc_new (w.setCell ⟨g.c, 1, none⟩ (.slice (some ⟨w.heap.size, 0, none⟩) s.ns s.ns)) (.cells (zS s.ns) 76)
    rwa [hsz] at this
  · exact (K.trans hK1).alloc _
  · exact (Owns.kept o hK1 (fun b hb hw => absurd (hlt0 b hw) (Nat.not_lt.2 hb))).alloc _
  · rintro b (rfl | rfl | rfl | ⟨i, hi, rfl⟩)
    · exact .inl (.inl rfl)
    · exact .inl (.inr (.inl rfl))
    · exact .inr K.size
    · exact .inl (.inr (.inr (.inr ⟨i, hi, rfl⟩)))
attribute [local go_sem ↓] mkL_eq
set_option maxRecDepth 100000 in
set_option maxHeartbeats 8000000 in
theorem FlushR_any (w : World) (g : R) (s : St) (h : HeldR w g s) (hok : Ok s) :
    Calls Try.prog 21 #[.pointer (some ⟨g.c, 0, none⟩)] w fun e w' =>
      ∃ v g', e = .returned v ∧ w'.ownsRow w.heap.size 22 1 v (insA s s.n).length (uCells (insA s s.n)) ∧ g'.c = g.c ∧ (∀ b, g'.own s.sets b → g.own s.sets b ∨ w.heap.size ≤ b) ∧ HeldR w' g' (flushS s) ∧ Kept (g.own s.sets) w w' := by
  have hlt0 : ∀ b, g.own s.sets b → b < w.heap.size := fun b hb => h.lt hb
  replace hlt0 := hide hlt0
  have hsl := hok.sets_le
  have hwl := hok.ways
  have hnl := hok.n_le.2
  replace hok := hide hok
  go_enter Try.func21, Try.ntmps21
  go_wp2_with fail
  go_loopw [3, 4] (fun ov iv wr => ∃ i : Nat, i ≤ s.sets ∧ iv = .int .i64 i ∧ HeldR wr g (zeroTo s (i * s.ways)) ∧ Kept (g.own s.sets) w wr ∧ wr.ownsRow w.heap.size 22 1 ov (insA s (i * s.ways)).length (uCells (insA s (i * s.ways)))) (fun _ iv _ => s.sets - (intOf iv).toNat)
  case atStart => exact ⟨0, Nat.zero_le _, rfl, by rw [Nat.zero_mul, zero_start]; exact h.alloc _, (Kept.refl _ _).alloc _, by rw [Nat.zero_mul]; exact World.ownsRow_made w #[] 0 (Nat.le_refl _) (Nat.zero_le _) rfl⟩
  case round =>
    obtain ⟨i, hi, rfl, hh, hK, ho⟩ := hrel
    by_cases hlt : i < s.sets
    · have hms := hide (meas_succ2 hlt)
      have hi1 : i + 1 ≤ s.sets := hlt
      have hb : 0 ≤ (i : Int) := by omega
      have hb2 : (i : Int) < (s.sets : Int) := by omega
      have c0 : wr.cell? ⟨g.c, 0, none⟩ = some (.slice (some ⟨g.a, 0, none⟩) s.sets g.ka) := hh.cf.c0
      go_wp2_with fail
      clear c0
      go_loopw [3, 5] (fun ov kv wr => ∃ k : Nat, k ≤ s.ways ∧ kv = .int .i64 k ∧ HeldR wr g (zeroTo s (i * s.ways + k)) ∧ Kept (g.own s.sets) w wr ∧ wr.ownsRow w.heap.size 22 1 ov (insA s (i * s.ways + k)).length (uCells (insA s (i * s.ways + k)))) (fun _ kv _ => s.ways - (intOf kv).toNat)
      case atStart => exact ⟨0, Nat.zero_le _, rfl, hh, hK, ho⟩
      case round =>
        clear hh hK ho
        obtain ⟨k, hk, rfl, hh, hK, ho⟩ := hrel
        have c0 : wr.cell? ⟨g.c, 0, none⟩ = some (.slice (some ⟨g.a, 0, none⟩) s.sets g.ka) := hh.cf.c0
        have ca : wr.cell? ⟨g.a, i, none⟩ = some (.slice (some ⟨g.row i, 0, none⟩) s.ways (g.kr i)) := hh.setAt hlt
        by_cases hkl : k < s.ways
        · have hms2 := hide (meas_succ2 hkl)
          have hk1 : k + 1 ≤ s.ways := hkl
          have hkb : 0 ≤ (k : Int) := by omega
          have hkb2 : (k : Int) < (s.ways : Int) := by omega
          have hin : i * s.ways + k < s.n := set_n hlt hkl
          obtain ⟨e0, e1, e2, e3, e9⟩ := rowAll2 hh hlt hkl
          have hpl : (zeroTo s (i * s.ways + k)).pl (i * (zeroTo s (i * s.ways + k)).ways + k) = s.pl (i * s.ways + k) := zero_at s _
          rw [hpl] at e0 e1 e2
          have hlen := insA_length s (i * s.ways + k)
          have hlen6 : (insA s (i * s.ways + k)).length ≤ 600 := by omega
          have hor : g.own s.sets (g.row i) := .inr (.inr (.inr ⟨i, hlt, rfl⟩))
          have hgr : g.row i < wr.heap.size := hh.lt hor
          have hgc : g.c < wr.heap.size := hh.lt (.inl rfl)
          have hga : g.a < wr.heap.size := hh.lt (.inr (.inl rfl))
          replace hor := hide hor
          clear hpl
          by_cases hc : (s.pl (i * s.ways + k)).is = true ∧ (s.pl (i * s.ways + k)).written = true
          · have hin1 : Hid (insA s (i * s.ways + (k + 1)) = insU ((s.pl (i * s.ways + k)).line <<< 6) (insA s (i * s.ways + k))) := hide (by
              rw [show i * s.ways + (k + 1) = i * s.ways + k + 1 from rfl, insA, if_pos hc])
            obtain ⟨i1, i2⟩ := hc
            rw [i1] at e1
            rw [i2] at e2
            obtain ⟨L, hL⟩ : ∃ L, (s.pl (i * s.ways + k)).line = L := ⟨_, rfl⟩
            rw [hL] at e0 hin1
            have ho1 := hide ho
            go_wp2_with fail
            go_at_call 32
            refine (Insert_any _ w.heap.size _ _ _ (ho1.out.alloc _) hlen6).mono ?_
            rintro e w8 ⟨v8, rfl, o8, k8⟩
            rw [mul64] at o8
            have o8 := Owns.mono o8 (by rw [World.size_alloc]; exact Nat.le_succ_of_le hK.size)
            have k8' : Still wr w8 := ((Kept.refl _ wr).alloc _).trans k8
            have h8 := hh.still k8'
            have K8 := hK.still k8'
            have hz := zero_place (lo := 0) h8 K8 o8 hlt hkl hlt0.out
            have c0 : w8.cell? ⟨g.c, 0, none⟩ = some (.slice (some ⟨g.a, 0, none⟩) s.sets g.ka) := h8.cf.c0
            have ca : w8.cell? ⟨g.a, i, none⟩ = some (.slice (some ⟨g.row i, 0, none⟩) s.ways (g.kr i)) := h8.setAt hlt
            obtain ⟨f0, f1, f2, f3, f9⟩ := rowAll2 h8 hlt hkl
            replace hz := hide hz
            clear o8 k8 k8' hh hK ho ho1 e0 e1 e2 e3 e9 i1 i2 hL h8 K8 hgr hgc hga
            go_wp2_with fail
            go_roundw
            case rel => exact ⟨k + 1, hk1, by simp, hz.out.1, hz.out.2.1, by rw [hin1.out]; exact hz.out.2.2⟩
            case measure => exact hms2.out
          · have hin1 : Hid (insA s (i * s.ways + (k + 1)) = insA s (i * s.ways + k)) := hide (by
              rw [show i * s.ways + (k + 1) = i * s.ways + k + 1 from rfl, insA, if_neg hc])
            have hz := zero_place (lo := 0) hh hK ho hlt hkl hlt0.out
            obtain ⟨L, hL⟩ : ∃ L, (s.pl (i * s.ways + k)).line = L := ⟨_, rfl⟩
            obtain ⟨bi, hbi⟩ : ∃ bi, (s.pl (i * s.ways + k)).is = bi := ⟨_, rfl⟩
            obtain ⟨bw, hbw⟩ : ∃ bw, (s.pl (i * s.ways + k)).written = bw := ⟨_, rfl⟩
            rw [hL] at e0
            rw [hbi] at e1 hc
            rw [hbw] at e2 hc
            replace hz := hide hz
            clear hh hK ho hL hbi hbw
            cases bi
            · go_wp2_with fail
              go_roundw
              case rel => exact ⟨k + 1, hk1, by simp, hz.out.1.alloc _, hz.out.2.1.alloc _, by rw [hin1.out]; exact hz.out.2.2.alloc _⟩
              case measure => exact hms2.out
            · cases bw
              · go_wp2_with fail
                go_roundw
                case rel => exact ⟨k + 1, hk1, by simp, hz.out.1.alloc _, hz.out.2.1.alloc _, by rw [hin1.out]; exact hz.out.2.2.alloc _⟩
                case measure => exact hms2.out
              · exact absurd ⟨rfl, rfl⟩ hc
        · obtain rfl : k = s.ways := by omega
          have hnx : i * s.ways + s.ways = (i + 1) * s.ways := by rw [Nat.add_mul, Nat.one_mul]
          rw [hnx] at hh ho
          replace hh := hide hh
          replace ho := hide ho
          clear hnx
          go_wp2_with fail
          go_roundw
          case rel => exact ⟨i + 1, hi1, by simp, hh.out, hK, ho.out⟩
          case measure => exact hms.out
    · obtain rfl : i = s.sets := by omega
      have c0 : wr.cell? ⟨g.c, 0, none⟩ = some (.slice (some ⟨g.a, 0, none⟩) s.sets g.ka) := hh.cf.c0
      have c1 : wr.cell? ⟨g.c, 1, none⟩ = some (.slice (some ⟨g.s, 0, none⟩) s.ns g.ks) := hh.cf.c1
      have cz := hh.fz
      have hgc : g.c < wr.heap.size := hh.lt (.inl rfl)
      have hmk : (mkL (.int .i64 (s.ns : Int)) (.int .i64 (s.ns : Int))).run Try.prog wr = .ok (.slice (some ⟨wr.heap.size, 0, none⟩) s.ns s.ns) (wr.alloc (.cells (zS s.ns) 76)) := run_mkL wr (by have := hok.out.ns.2; omega)
      have hfin := hide (flush_end hh hK ho hlt0.out)
      clear hh hK ho
      go_wp2_with fail
      go_ret
      exact ⟨_, { g with s := wr.heap.size, ks := s.ns }, rfl, hfin.out.2.2.1, rfl, hfin.out.2.2.2, hfin.out.1, hfin.out.2.1⟩
end Go.Proofs.Ytpflodhnniochaa
