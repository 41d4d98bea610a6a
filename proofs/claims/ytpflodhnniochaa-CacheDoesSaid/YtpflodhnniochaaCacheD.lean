/-
  Walks: Has; Under.
-/
import Derived.Test.YtpflodhnniochaaCacheC
import Derived.Deep.QuietTactic
import Derived.BigQuiet
namespace Go.Proofs.Ytpflodhnniochaa
set_option linter.unusedVariables false
open Go.RowKit Go.Maps

theorem Kept.drewN {S : Nat → Prop} {a b : World} (h : Kept S a b) (n : Nat) : Kept S a (b.drewN n) := ⟨h.os, h.tape, h.output, h.size, h.block⟩
theorem meas_succ2 {k n : Nat} (h : k < n) : n - (intOf (Value.int .i64 ((k : Int) + 1))).toNat < n - (intOf (Value.int .i64 (k : Int))).toNat := by
  show n - ((k : Int) + 1).toNat < n - (k : Int).toNat
  omega
/-- Is a line there, and written? -/
def hasS (s : St) (L : BitVec 64) : Bool × Bool :=
  match s.wh L with
  | some n => (true, (s.pl n).written)
  | none => (false, false)
set_option maxRecDepth 100000 in
set_option maxHeartbeats 2000000 in
theorem Has_any (w : World) (g : G) (s : St) (x : BitVec 64) (h : Held w g s) :
    Calls Try.prog 16 #[.pointer (some ⟨g.c, 0, none⟩), .int .u64 (U x)] w fun e w' =>
      e = .returned (.tuple #[.bool (hasS s (x / 64#64)).1, .bool (hasS s (x / 64#64)).2]) ∧ Still w w' := by
  have hlt := h.lt (.inl rfl)
  go_enter Try.func16, Try.ntmps16
  go_wp2_with fail
  go_region_held3 (fun w' => Same g s w w' ∧ w'.cell? ⟨g.c, 5, none⟩ = some (.map (some g.m)) ∧ (Instr.lookup 56 (.map (some g.m)) (kv s.m (x / 64#64)) true).run Try.prog w' = .ok (.tuple #[.int .i64 (((s.wh (x / 64#64)).getD 0 : Nat) : Int), .bool (s.wh (x / 64#64)).isSome]) w')
    (first | assumption | exact (Same.start h).look _ | exact (Same.more (And.left (by assumption)) hm).look _)
    (first
    | (go_at_call 26; refine (key_any _ g s _ (And.left (a := Same g s w _) (by assumption)).2).mono ?_; rintro e w' ⟨rfl, hm⟩))
  obtain ⟨hst, hh⟩ := And.left (a := Same g s w _) (by assumption)
  rename_i hall
  clear hall
  cases hwh : s.wh (x / 64#64) with
  | some n =>
    obtain ⟨hn1, hn2, hn3⟩ := h.ok.wh _ _ hwh
    have c4 := hh.cf.c4
    have d2 := hh.a.cell n 2 hn1 (by decide)
    simp only [plV] at d2
    have hb : ¬ ((n : Nat) : Int) < 0 := by omega
    have hb2 : ((n : Nat) : Int) < (s.n : Nat) := by omega
    have hans : Hid (hasS s (x / 64#64) = (true, (s.pl n).written)) := hide (by simp only [hasS, hwh])
    simp only [Option.isSome_some, Option.getD_some]
    go_wp2_with fail
    go_quiet (fail)
    go_wp2
    go_ret2
    rw [hans.out]
    exact ⟨rfl, hst.drewN _⟩
  | none =>
    have hans : Hid (hasS s (x / 64#64) = (false, false)) := hide (by simp only [hasS, hwh])
    simp only [Option.isSome_none, Option.getD_none]
    go_wp2_with fail
    go_quiet (fail)
    go_wp2
    go_ret2
    rw [hans.out]
    exact ⟨rfl, hst.drewN _⟩

/-- How many slots ahead of k are under way. -/
def underS (s : St) : Nat → Nat
  | 0 => 0
  | k + 1 => underS s k + (if (s.sl k).is then 1 else 0)
theorem under_le (s : St) : ∀ k, underS s k ≤ k
  | 0 => Nat.le_refl _
  | k + 1 => by have := under_le s k; rw [underS]; split <;> omega
set_option maxRecDepth 100000 in
set_option maxHeartbeats 2000000 in
theorem Under_any (w : World) (g : G) (s : St) (h : Held w g s) :
    Calls Try.prog 18 #[.pointer (some ⟨g.c, 0, none⟩)] w fun e w' => e = .returned (.int .i64 (underS s s.ns : Nat)) ∧ Still w w' := by
  have c6 := h.cf.c6
  go_enter Try.func18, Try.ntmps18
  go_wp2
  go_loopw [3, 11] (fun nv iv wr => ∃ k : Nat, k ≤ s.ns ∧ iv = .int .i64 k ∧ nv = .int .i64 (underS s k : Nat) ∧ Still w wr) (fun _ iv _ => s.ns - (intOf iv).toNat)
  case atStart => exact ⟨0, Nat.zero_le _, rfl, rfl, Kept.refl _ _⟩
  case round =>
    obtain ⟨k, hk, rfl, rfl, hst⟩ := hrel
    by_cases hlt : k < s.ns
    · have hh := h.still hst
      have hw1 := wrap_succ' hlt h.ok.ns.2
      have hms := meas_succ' hlt hw1
      have e0 := hh.s.cell k 0 hlt (by decide)
      have e1 := hh.s.cell k 1 hlt (by decide)
      have e2 := hh.s.cell k 2 hlt (by decide)
      have e3 := hh.s.cell k 3 hlt (by decide)
      simp only [slV, Nat.add_zero] at e0 e1 e2 e3
      have hb : 0 ≤ (k : Int) := by omega
      have hb2 : ((k : Nat) : Int) < (s.ns : Nat) := by omega
      have hu := under_le s k
      have hn8 := h.ok.ns.2
      have hw2 : wrap64 ((underS s k : Nat) + 1 : Int) = ((underS s k + 1 : Nat) : Int) := by unfold wrap64; omega
      cases i1 : (s.sl k).is <;> rw [i1] at e1
      all_goals
        go_wp2
        go_roundw
        case rel => exact ⟨k + 1, by omega, by first | rfl | simp [hw1], by first | (simp [underS, i1]; done) | simp [underS, i1, hw2], hst.alloc _⟩
        case measure => first | exact hms | exact meas_succ2 hlt
    · obtain rfl : k = s.ns := by omega
      go_wp2
      go_ret
      exact ⟨rfl, hst⟩
end Go.Proofs.Ytpflodhnniochaa
