/-
  slices.Sort at uint64: the row becomes a sorted permutation of what it was.
-/
import Derived.Test.YtpflodhnniochaaSortH
namespace Go.Proofs.Ytpflodhnniochaa
set_option linter.unusedVariables false
open Go.RowKit Go.Sort
set_option maxRecDepth 100000 in
theorem Sort_any (w : World) (b c : Nat) (d : Array Int) (h : RowI w b d) (hsz : d.size < 1000000) :
    Calls Try.prog 31 #[.slice (some ⟨b, 0, none⟩) d.size c] w fun r w' => r = .returned (.tuple #[]) ∧ ∃ d', PermIn 0 d.size d d' ∧ SortedIn ltInt 0 d.size d' ∧ Turns w w' b d' := by
  obtain ⟨n, hn⟩ : ∃ n, n = d.size := ⟨_, rfl⟩
  have hU : U (BitVec.ofNat 64 n) = (n : Int) := by unfold U; simp; omega
  have hb : ∀ w, Calls Try.prog 36 #[.int .u64 (n : Int)] w fun e w' => e = .returned (.int .i64 (Lib.bitLen n : Nat)) ∧ w' = w := fun w => by
    have h := bits_Len (n : Int) w (by omega) (by omega)
    rwa [Int.toNat_natCast] at h
  have hk : Lib.bitLen n ≤ 20 := Lib.bitLen_le n 20 (by omega) (by omega)
  generalize Lib.bitLen n = k at *
  have hp := Pdq_any (n + 1) w b c 0 d.size k d h (Nat.zero_le _) (Nat.le_refl _) hsz (by omega) (.inl rfl) (by omega)
  rw [← hn] at hp ⊢
  have hp0 : ((0 : Nat) : Int) = 0 := rfl
  rw [hp0] at hp
  clear hp0
  have hn5 : n < 1000000 := by omega
  replace hn := hide hn
  replace hb := hide hb
  replace hp := hide hp
  go_enter Try.func31, Try.ntmps31
  go_wp2_with (go_at_call 36; refine (hb.out _).mono ?_; rintro e w' ⟨rfl, rfl⟩)
  refine hp.out.mono ?_
  rintro r w1 ⟨rfl, d', p1, s1, t1⟩
  go_wp2_with fail
  go_end0
  exact ⟨rfl, d', p1, s1, t1⟩
end Go.Proofs.Ytpflodhnniochaa
