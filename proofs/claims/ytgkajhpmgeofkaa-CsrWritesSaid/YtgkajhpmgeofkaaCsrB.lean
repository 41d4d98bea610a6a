/-
  Who may touch a register: the walks of the document's There, Fixed, May (tandemref12) and of csr.May; the plain law that they agree. (Printed by gen_csrb.py.)
-/
import Derived.Test.YtgkajhpmgeofkaaCsrA
namespace Go.Proofs.Ytgkajhpmgeofkaa
set_option linter.unusedVariables false
open Go.RowKit

def nums : List Int := [1, 2, 3, 256, 260, 261, 262, 266, 320, 321, 322, 323, 324, 384, 768, 769, 770, 771, 772, 773, 774, 778, 800, 832, 833, 834, 835, 836, 928, 930, 2816, 2818, 3857, 3858, 3859, 3860, 3861]
def numsV : Array Value := #[Value.int IntKind.i64 1, Value.int IntKind.i64 2, Value.int IntKind.i64 3, Value.int IntKind.i64 256, Value.int IntKind.i64 260, Value.int IntKind.i64 261, Value.int IntKind.i64 262, Value.int IntKind.i64 266, Value.int IntKind.i64 320, Value.int IntKind.i64 321, Value.int IntKind.i64 322, Value.int IntKind.i64 323, Value.int IntKind.i64 324, Value.int IntKind.i64 384, Value.int IntKind.i64 768, Value.int IntKind.i64 769, Value.int IntKind.i64 770, Value.int IntKind.i64 771, Value.int IntKind.i64 772, Value.int IntKind.i64 773, Value.int IntKind.i64 774, Value.int IntKind.i64 778, Value.int IntKind.i64 800, Value.int IntKind.i64 832, Value.int IntKind.i64 833, Value.int IntKind.i64 834, Value.int IntKind.i64 835, Value.int IntKind.i64 836, Value.int IntKind.i64 928, Value.int IntKind.i64 930, Value.int IntKind.i64 2816, Value.int IntKind.i64 2818, Value.int IntKind.i64 3857, Value.int IntKind.i64 3858, Value.int IntKind.i64 3859, Value.int IntKind.i64 3860, Value.int IntKind.i64 3861]
theorem numsV_get (j : Nat) (h : j < 37) : numsV[j]? = some (.int .i64 (nums.getD j 0)) := by
  have e : numsV = (nums.map (Value.int .i64)).toArray := rfl
  have hl : nums.length = 37 := rfl
  rw [e, List.getElem?_toArray, List.getElem?_map, List.getD_eq_getElem?_getD, List.getElem?_eq_getElem (by omega)]
  rfl
theorem nums_range (j : Nat) (h : j < 37) : 0 ≤ nums.getD j 0 ∧ nums.getD j 0 ≤ 4095 := by
  have all : ∀ i : Fin 37, 0 ≤ nums.getD i.val 0 ∧ nums.getD i.val 0 ≤ 4095 := by decide
  exact all ⟨j, h⟩
def inRanges (n : Int) : Bool := (decide (803 ≤ n) && decide (n ≤ 831)) || (decide (944 ≤ n) && decide (n ≤ 959)) || (decide (2819 ≤ n) && decide (n ≤ 2847)) || (decide (3072 ≤ n) && decide (n ≤ 3103))
def thereB (n : Int) : Bool := nums.contains n || inRanges n
/-- None of the first numbers is n. -/
def NotYet (n : Int) (j : Nat) : Prop := ∀ i, i < j → nums.getD i 0 ≠ n
theorem notYet_end (n : Int) (h : NotYet n 37) : nums.contains n = false := by
  rw [Bool.eq_false_iff]
  intro hc
  have hm : n ∈ nums := by simpa using hc
  obtain ⟨i, hi, e⟩ := List.getElem_of_mem hm
  have hl : nums.length = 37 := rfl
  exact h i (by omega) (by rw [List.getD_eq_getElem?_getD, List.getElem?_eq_getElem hi]; simpa using e)
theorem found (n : Int) (j : Nat) (hj : j < 37) (e : nums.getD j 0 = n) : nums.contains n = true := by
  have hl : nums.length = 37 := rfl
  rw [List.contains_iff_mem, ← e, List.getD_eq_getElem?_getD, List.getElem?_eq_getElem (by omega)]
  exact List.getElem_mem _

set_option maxHeartbeats 4000000 in
set_option maxRecDepth 100000 in
theorem There_any (n : Int) (w : World) : Calls Try.prog 23 #[.int .i64 n] w fun e w' => e = .returned (.bool (thereB n)) ∧ More w w' := by
  go_enter Try.func23, Try.ntmps23
  go_wp2_with fail
  have E : w.alloc (Obj.cells #[Value.int IntKind.i64 1, Value.int IntKind.i64 2, Value.int IntKind.i64 3, Value.int IntKind.i64 256, Value.int IntKind.i64 260, Value.int IntKind.i64 261, Value.int IntKind.i64 262, Value.int IntKind.i64 266, Value.int IntKind.i64 320, Value.int IntKind.i64 321, Value.int IntKind.i64 322, Value.int IntKind.i64 323, Value.int IntKind.i64 324, Value.int IntKind.i64 384, Value.int IntKind.i64 768, Value.int IntKind.i64 769, Value.int IntKind.i64 770, Value.int IntKind.i64 771, Value.int IntKind.i64 772, Value.int IntKind.i64 773, Value.int IntKind.i64 774, Value.int IntKind.i64 778, Value.int IntKind.i64 800, Value.int IntKind.i64 832, Value.int IntKind.i64 833, Value.int IntKind.i64 834, Value.int IntKind.i64 835, Value.int IntKind.i64 836, Value.int IntKind.i64 928, Value.int IntKind.i64 930, Value.int IntKind.i64 2816, Value.int IntKind.i64 2818, Value.int IntKind.i64 3857, Value.int IntKind.i64 3858, Value.int IntKind.i64 3859, Value.int IntKind.i64 3860, Value.int IntKind.i64 3861] 3) = w.alloc (Obj.cells numsV 3) := rfl
  rw [E]
  clear E
  have hb : More w (w.alloc (Obj.cells numsV 3)) := (More.refl _).alloc _
  have HB := hide hb
  clear hb
  go_loop [4] (fun iv => ∃ j : Nat, j ≤ 37 ∧ iv = .int .i64 j ∧ Hid (NotYet n j)) (fun iv => 37 - (intOf iv).toNat)
  case atStart => exact ⟨0, by omega, rfl, fun i hi => absurd hi (Nat.not_lt_zero _)⟩
  case round =>
    obtain ⟨j, hj, rfl, hny⟩ := hrel
    by_cases hlt : j < 37
    · have hc : (w.alloc (Obj.cells numsV 3)).cell? ⟨w.heap.size, j, none⟩ = some (.int .i64 (nums.getD j 0)) := by
        rw [World.cell?_alloc_new]; exact numsV_get j hlt
      have hg0 := (nums_range j hlt).1
      have hg1 := (nums_range j hlt).2
      generalize hx : nums.getD j 0 = x at *
      have HX := hide hx
      clear hx
      by_cases he : x = n
      · have HE := hide he
        have t : (x == n) = true := by simpa using he
        clear he
        go_wp2_with fail
        go_ret
        exact ⟨ret1 (bool_eq (by unfold thereB; rw [found n j hlt (HX.out.trans HE.out)]; rfl)), HB⟩
      · have t : (x == n) = false := by simpa using he
        have HE := hide he
        clear he
        go_wp2_with fail
        go_round
        case rel => exact ⟨j + 1, by omega, by go_num, fun i hi => by
          rcases Nat.lt_or_ge i j with h | h
          · exact hny.out i h
          · obtain rfl : i = j := by omega
            rw [HX.out]; exact HE.out⟩
        case measure => simp [intOf]; omega
    · have hn : j = 37 := by omega
      subst hn
      have F := hide (notYet_end n hny.out)
      go_wp2_with fail
      all_goals
        go_ret
        refine ⟨ret1 (bool_eq ?_), HB⟩
        unfold thereB
        rw [F.out, Bool.false_or, Bool.eq_iff_iff]
        simp only [inRanges, Bool.or_eq_true, Bool.and_eq_true, decide_eq_true_eq, Bool.false_eq_true, true_iff, false_iff]
        omega

end Go.Proofs.Ytgkajhpmgeofkaa