/-
  The law's own helpers: sameDone, sameList.
-/
import Derived.Test.YtpflodhnniochaaDoesK
import Derived.Test.YtpflodhnniochaaOnceF
namespace Go.Proofs.Ytpflodhnniochaa
set_option linter.unusedVariables false
open Go.RowKit Go.Maps

theorem insU_sorted {n : BitVec 64} : ∀ {l : List (BitVec 64)}, l.Pairwise (fun a b => a.toNat ≤ b.toNat) → (insU n l).Pairwise (fun a b => a.toNat ≤ b.toNat)
  | [], _ => by simp [insU]
  | x :: r, h => by
    obtain ⟨h1, h2⟩ := List.pairwise_cons.1 h
    rw [insU]
    split
    · rename_i e
      refine List.pairwise_cons.2 ⟨fun y hy => ?_, h⟩
      rcases List.mem_cons.1 hy with rfl | hy
      · omega
      · have := h1 y hy; omega
    · rename_i e
      refine List.pairwise_cons.2 ⟨fun y hy => ?_, insU_sorted h2⟩
      rcases List.mem_cons.1 ((insU_perm n r).mem_iff.1 hy) with rfl | hy
      · omega
      · exact h1 y hy
theorem insA_sorted (s : St) : ∀ k, (insA s k).Pairwise (fun a b => a.toNat ≤ b.toNat)
  | 0 => List.Pairwise.nil
  | k + 1 => by
    rw [insA]
    split
    · exact insU_sorted (insA_sorted s k)
    · exact insA_sorted s k
theorem flush_same {s : St} {L : List (BitVec 64)} (hp : L.Perm (outS s s.n)) (hr : Rises L) : L = insA s s.n :=
  List.Perm.eq_of_pairwise (fun a b _ _ h1 h2 => BitVec.eq_of_toNat_eq (Nat.le_antisymm h1 h2)) (List.pairwise_iff_getElem.2 fun i j hi hj hij => hr i j hij hj hi) (insA_sorted s s.n) (hp.trans (insA_perm s s.n).symm)
theorem rowI_cell {w : World} {b : Nat} {d : Array Int} (h : RowI w b d) {i : Nat} (hi : i < d.size) : w.cell? ⟨b, i, none⟩ = some (.int .u64 (el d i)) := by
  obtain ⟨cs, t, h1, h2, h3⟩ := h
  simp [World.cell?, h1, h3 i hi]
/-- A slice of numbers. -/
def NumsAt (w : World) (v : Value) (L : List (BitVec 64)) : Prop := ∃ z cap, v = .slice z L.length cap ∧ (0 < L.length → ∃ b, z = some ⟨b, 0, none⟩ ∧ ∀ i, (h : i < L.length) → w.cell? ⟨b, i, none⟩ = some (.int .u64 (U L[i])))
theorem nums_of_out {w : World} {lo : Nat} {v : Value} {L : List (BitVec 64)} (h : OutRow w lo v L) : NumsAt w v L := by
  rcases h with ⟨rfl, rfl⟩ | ⟨gb, cap, rfl, -, hr⟩
  · exact ⟨none, 0, rfl, fun e => absurd e (Nat.lt_irrefl _)⟩
  · refine ⟨_, cap, rfl, fun _ => ⟨gb, rfl, fun i hi => ?_⟩⟩
    rw [← uArr_el L hi]
    exact rowI_cell hr (by rw [uArr_size]; exact hi)
theorem nums_of_owns {w : World} {lo : Nat} {v : Value} {L : List (BitVec 64)} (h : w.ownsRow lo 22 1 v L.length (uCells L)) : NumsAt w v L := by
  obtain ⟨z, cap, rfl, hc⟩ := owns_any h
  refine ⟨z, cap, rfl, fun h0 => ?_⟩
  obtain ⟨b, e, hc⟩ := hc h0
  exact ⟨b, e, fun i hi => hc i _ (uCells_at hi)⟩
set_option maxRecDepth 100000 in
theorem SameList_any (w : World) (va vb : Value) (L : List (BitVec 64)) (ha : NumsAt w va L) (hb : NumsAt w vb L) (hl : L.length ≤ 600) :
    Calls Try.prog 22 #[va, vb] w fun e w' => e = .returned (.bool true) ∧ Still w w' := by
  obtain ⟨z, zc, rfl, hca⟩ := ha
  obtain ⟨y, yc, rfl, hcb⟩ := hb
  replace hca := hide hca
  replace hcb := hide hcb
  go_enter Try.func22, Try.ntmps22
  go_wp2_with fail
  go_loopw [5] (fun iv wr => ∃ k : Nat, k ≤ L.length ∧ iv = .int .i64 k ∧ Still w wr) (fun iv _ => L.length - (intOf iv).toNat)
  case atStart => exact ⟨0, Nat.zero_le _, rfl, Kept.refl _ _⟩
  case round =>
    obtain ⟨k, hk, rfl, kw⟩ := hrel
    by_cases hlt : k < L.length
    · obtain ⟨a, rfl, hcs⟩ := hca.out (by omega)
      obtain ⟨b, rfl, hct⟩ := hcb.out (by omega)
      have hms := hide (meas_succ2 hlt)
      have hk1 : k + 1 ≤ L.length := hlt
      have hb : 0 ≤ (k : Int) := by omega
      have hb2 : (k : Int) < (L.length : Int) := by omega
      have x0 := kw.cell (hcs k hlt) (fun e => e)
      have y0 := kw.cell (hct k hlt) (fun e => e)
      clear hca hcb hcs hct
      go_wp2_with fail
      go_quiet (fail)
      go_wp2
      go_roundw
      case rel => exact ⟨k + 1, hk1, by simp, kw.drewN _⟩
      case measure => exact hms.out
    · obtain rfl : k = L.length := by omega
      clear hca hcb
      go_wp2
      go_ret
      exact ⟨rfl, kw⟩
theorem neC (w : World) (x y : Int) (b : Bool) : (binOp .neq 79 (.agg #[.int .u64 x, .int .u64 y, .bool b]) (.agg #[.int .u64 x, .int .u64 y, .bool b])).run Try.prog w = .ok (.bool false) w := by
  have e : (Op.equalIn 10000 79 (.agg #[.int .u64 x, .int .u64 y, .bool b]) (.agg #[.int .u64 x, .int .u64 y, .bool b])).run Try.prog w = .ok true w := by
    go_simp
  simp only [binOp]
  simp [Op.equal, Op.maxDepth, e]
set_option maxRecDepth 100000 in
theorem SameDone_any (w : World) (b1 b2 : Nat) (va vb : Value) (ds : List Dn) (ha : w.ownsRow b1 40 3 va ds.length (dnCells ds)) (hb : w.ownsRow b2 79 3 vb ds.length (dnCells ds)) (hl : ds.length ≤ 8) :
    Calls Try.prog 15 #[va, vb] w fun e w' => e = .returned (.bool true) ∧ Still w w' := by
  obtain ⟨z, zc, rfl, hca⟩ := owns_any ha
  obtain ⟨y, yc, rfl, hcb⟩ := owns_any hb
  replace hca := hide hca
  replace hcb := hide hcb
  clear ha hb
  go_enter Try.func15, Try.ntmps15
  go_wp2_with fail
  go_loopw [5] (fun iv wr => ∃ k : Nat, k ≤ ds.length ∧ iv = .int .i64 k ∧ Still w wr) (fun iv _ => ds.length - (intOf iv).toNat)
  case atStart => exact ⟨0, Nat.zero_le _, rfl, Kept.refl _ _⟩
  case round =>
    obtain ⟨k, hk, rfl, kw⟩ := hrel
    by_cases hlt : k < ds.length
    · obtain ⟨a, rfl, hcs⟩ := hca.out (by omega)
      obtain ⟨b, rfl, hct⟩ := hcb.out (by omega)
      have hms := hide (meas_succ2 hlt)
      have hk1 : k + 1 ≤ ds.length := hlt
      have hb : 0 ≤ (k : Int) := by omega
      have hb2 : (k : Int) < (ds.length : Int) := by omega
      have hd := List.getElem?_eq_getElem hlt
      generalize ds[k] = d at hd
      have x0 := kw.cell (hcs _ _ (dn_at ds k d hd).1) (fun e => e)
      have x1 := kw.cell (hcs _ _ (dn_at ds k d hd).2) (fun e => e)
      have x2 := kw.cell (hcs _ _ (dn_at3 ds k d hd)) (fun e => e)
      have y0 := kw.cell (hct _ _ (dn_at ds k d hd).1) (fun e => e)
      have y1 := kw.cell (hct _ _ (dn_at ds k d hd).2) (fun e => e)
      have y2 := kw.cell (hct _ _ (dn_at3 ds k d hd)) (fun e => e)
      have hne := fun w => neC w (U d.at_) (U d.out) d.written
      clear hca hcb hcs hct hd
      go_wp2_with fail
      go_quiet (fail)
      go_wp2
      go_roundw
      case rel => exact ⟨k + 1, hk1, by simp, kw.drewN _⟩
      case measure => exact hms.out
    · obtain rfl : k = ds.length := by omega
      clear hca hcb
      go_wp2
      go_ret
      exact ⟨rfl, kw⟩
end Go.Proofs.Ytpflodhnniochaa
