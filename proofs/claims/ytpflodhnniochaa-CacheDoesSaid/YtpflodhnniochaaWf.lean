/-
  An argument that fits its kind is the number of its bits. Nothing of the program stands here.
-/
import Derived.Test.YtpflodhnniochaaWords
import Derived.ProofKit
import Derived.OpenShut
import Derived.RowKit3
namespace Go.Proofs.Ytpflodhnniochaa
open Go.RowKit

/-- An argument that fits its kind is the number of its bits. -/
theorem U_of_wf {a : Int} (h : (Lit.int .u64 a).wf = true) : a = U (B a) := by
  have h2 := bounds_u64 h
  unfold U B
  rw [BitVec.toNat_ofInt]
  have : (0 : Int) ≤ a % (18446744073709551616 : Int) := by omega
  omega

theorem grown_of_same {P : Program} {f : FuncId} {args : Array Value} {w : World} (h : Calls P f args w fun e w' => e = .returned (.bool true) ∧ w = w') :
    Calls P f args w fun e w' => e = .returned (.bool true) ∧ Grown w w' := h.mono fun _ _ ⟨he, hw⟩ => ⟨he, hw ▸ Grown.refl _⟩
end Go.Proofs.Ytpflodhnniochaa
