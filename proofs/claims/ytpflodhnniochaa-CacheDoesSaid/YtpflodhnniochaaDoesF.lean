/-
  The reference's insert.
-/
import Derived.Test.YtpflodhnniochaaDoesE
namespace Go.Proofs.Ytpflodhnniochaa
set_option linter.unusedVariables false
open Go.RowKit Go.Maps

def insU (n : BitVec 64) : List (BitVec 64) → List (BitVec 64)
  | [] => [n]
  | x :: r => if n.toNat < x.toNat then n :: x :: r else x :: insU n r
theorem insU_none {n : BitVec 64} : ∀ {l : List (BitVec 64)}, (∀ x ∈ l, ¬ n.toNat < x.toNat) → insU n l = l ++ [n]
  | [], _ => rfl
  | x :: r, h => by rw [insU, if_neg (h x (by simp)), insU_none fun y hy => h y (by simp [hy])]; rfl
theorem insU_some {n : BitVec 64} : ∀ {l k : List (BitVec 64)}, (∃ x ∈ l, n.toNat < x.toNat) → insU n (l ++ k) = insU n l ++ k
  | [], _, h => by obtain ⟨x, hx, _⟩ := h; simp at hx
  | x :: r, k, h => by
    show insU n (x :: (r ++ k)) = _
    rw [insU, insU]
    by_cases e : n.toNat < x.toNat
    · rw [if_pos e, if_pos e]; rfl
    · rw [if_neg e, if_neg e, insU_some (by
        obtain ⟨y, hy, hn⟩ := h
        rcases List.mem_cons.1 hy with rfl | hy
        · exact absurd hn e
        · exact ⟨y, hy, hn⟩)]
      rfl
theorem insU_first {n x : BitVec 64} {l : List (BitVec 64)} (h : ∀ y ∈ l, ¬ n.toNat < y.toNat) (hx : n.toNat < x.toNat) : insU n (l ++ [x]) = l ++ [n] ++ [x] := by
  induction l with
  | nil => show insU n [x] = _; rw [insU, if_pos hx]; rfl
  | cons y r ih =>
    show insU n (y :: (r ++ [x])) = _
    rw [insU, if_neg (h y (by simp)), ih fun z hz => h z (by simp [hz])]
    rfl
theorem insU_length (n : BitVec 64) : ∀ l : List (BitVec 64), (insU n l).length = l.length + 1
  | [] => rfl
  | x :: r => by
    rw [insU]
    split
    · rfl
    · simp only [List.length_cons]; rw [insU_length n r]
theorem insU_perm (n : BitVec 64) : ∀ l : List (BitVec 64), (insU n l).Perm (n :: l)
  | [] => List.Perm.refl _
  | x :: r => by
    rw [insU]
    split
    · exact List.Perm.refl _
    · exact ((insU_perm n r).cons x).trans (List.Perm.swap n x r)
/-- What the loop has made of the first numbers. -/
structure InsAt (n : BitVec 64) (l : List (BitVec 64)) (d : Bool) (o : List (BitVec 64)) : Prop where
  no : d = false → o = l ∧ ∀ x ∈ l, ¬ n.toNat < x.toNat
  yes : d = true → o = insU n l ∧ ∃ x ∈ l, n.toNat < x.toNat
theorem ins_start (n : BitVec 64) : InsAt n [] false [] := ⟨fun _ => ⟨rfl, fun x h => by simp at h⟩, fun h => by cases h⟩
theorem InsAt.pass {n x : BitVec 64} {l o : List (BitVec 64)} (h : InsAt n l false o) (hx : ¬ n.toNat < x.toNat) : InsAt n (l ++ [x]) false (o ++ [x]) := by
  obtain ⟨rfl, h2⟩ := h.no rfl
  refine ⟨fun _ => ⟨rfl, fun y hy => ?_⟩, fun e => by cases e⟩
  rcases List.mem_append.1 hy with hy | hy
  · exact h2 y hy
  · simp at hy; subst hy; exact hx
theorem InsAt.put {n x : BitVec 64} {l o : List (BitVec 64)} (h : InsAt n l false o) (hx : n.toNat < x.toNat) : InsAt n (l ++ [x]) true (o ++ [n] ++ [x]) := by
  obtain ⟨rfl, h2⟩ := h.no rfl
  exact ⟨fun e => by (cases e), fun _ => ⟨(insU_first h2 hx).symm, x, by simp, hx⟩⟩
theorem InsAt.go {n x : BitVec 64} {l o : List (BitVec 64)} (h : InsAt n l true o) : InsAt n (l ++ [x]) true (o ++ [x]) := by
  obtain ⟨rfl, y, hy, hn⟩ := h.yes rfl
  exact ⟨fun e => by (cases e), fun _ => ⟨(insU_some ⟨y, hy, hn⟩).symm, y, by simp [hy], hn⟩⟩
theorem cell_one (w : World) (x : Value) (t : TypeId) : ∀ j u, [x][j]? = some u → (w.alloc (.cells #[x] t)).cell? ((⟨w.heap.size, 0, none⟩ : Addr).add j) = some u := by
  intro j u hj
  rcases j with _ | j
  · simp at hj; subst hj; simp only [Addr.add]; exact cell_new _ _ _ _
  · simp at hj
theorem uCells_snoc (l : List (BitVec 64)) (x : BitVec 64) : uCells (l ++ [x]) = uCells l ++ [.int .u64 (U x)] := by simp [uCells]
theorem uCells_at {l : List (BitVec 64)} {k : Nat} (h : k < l.length) : (uCells l)[k]? = some (.int .u64 (U l[k])) := by simp [uCells, h]
set_option maxRecDepth 100000 in
set_option maxHeartbeats 4000000 in
theorem Insert_any (w : World) (lo : Nat) (v : Value) (l : List (BitVec 64)) (n : BitVec 64) (h : w.ownsRow lo 22 1 v l.length (uCells l)) (hl : l.length ≤ 600) :
    Calls Try.prog 32 #[v, .int .u64 (U n)] w fun e w' => ∃ v', e = .returned v' ∧ w'.ownsRow w.heap.size 22 1 v' (insU n l).length (uCells (insU n l)) ∧ Still w w' := by
  obtain ⟨i0, hi, hz0, hz1, hz2⟩ := info_parts infoU
  obtain ⟨z, zc, rfl, hca⟩ := owns_any h
  replace hca := hide hca
  clear h
  go_enter Try.func32, Try.ntmps32
  go_wp2_with fail
  go_loopw [5, 6, 7] (fun ov dv iv wr => ∃ (k : Nat) (d : Bool) (o : List (BitVec 64)), k ≤ l.length ∧ iv = .int .i64 k ∧ dv = .bool d ∧ InsAt n (l.take k) d o ∧ wr.ownsRow w.heap.size 22 1 ov o.length (uCells o) ∧ o.length ≤ k + 1 ∧ Still w wr) (fun _ _ iv _ => l.length - (intOf iv).toNat)
  case atStart => exact ⟨0, false, [], Nat.zero_le _, rfl, rfl, ins_start n, World.ownsRow_made w #[] 0 (Nat.le_refl _) (Nat.zero_le _) rfl, Nat.zero_le _, (Kept.refl _ _).alloc _⟩
  case round =>
    obtain ⟨k, d, o, hk, rfl, rfl, hI, ho, hol, hst⟩ := hrel
    by_cases hlt : k < l.length
    · obtain ⟨b, rfl, hcs⟩ := hca.out (by omega)
      have hms := meas_succ2 hlt
      have hk1 : k + 1 ≤ l.length := hlt
      have hb : 0 ≤ (k : Int) := by omega
      have hb2 : (k : Int) < (l.length : Int) := by omega
      have hx := hcs k _ (uCells_at hlt)
      have x0 := hst.cell hx (fun e => e)
      have htk : l.take (k + 1) = l.take k ++ [l[k]] := by rw [List.take_add_one, List.getElem?_eq_getElem hlt]; rfl
      generalize l[k] = x at hx x0 htk
      replace htk := hide htk
      replace hms := hide hms
      have hbw : w.heap.size ≤ wr.heap.size := hst.size
      have q1 : o.length + 1 ≤ maxLen := by rw [maxLen_is]; omega
      have q2 : (o.length + 1) * 8 ≤ 140737488355328 := by omega
      have q3 : w.heap.size ≤ (wr.alloc (.cells #[.int .u64 (U x)] 22)).heap.size := by rw [World.size_alloc]; omega
      clear hcs
      cases d with
      | true =>
        go_wp2_with (first
          | (at_builtin; refine wpList_append_own_at _ rfl _ _ 44 rfl w.heap.size 22 i0 (.int .u64 0) 1 8 Try.underlying44 hi hz0 hz1 hz2 rfl (by decide) _ _ _ rfl (ho.alloc _) ⟨wr.heap.size, 0, none⟩ 1 1 [.int .u64 (U x)] rfl rfl (cell_one wr _ _) (fun u hu => by simp at hu; subst hu; rfl) q1 q2 q3 ?_; intro v8 w8 hown8 hg8 hnil8 hloc8; go_frame))
        obtain ⟨k8a, k8b⟩ := app_kept hst ho hg8
        have hoo : Hid ((o ++ [x]).length = o.length + 1 ∧ uCells (o ++ [x]) = uCells o ++ [.int .u64 (U x)]) := hide ⟨by simp, uCells_snoc o x⟩
        clear hg8 hnil8 hloc8 x0 hx q1 q2 q3
        go_roundw
        case rel => exact ⟨k + 1, true, o ++ [x], hk1, by simp, rfl, by rw [htk.out]; exact hI.go, by rw [hoo.out.1, hoo.out.2]; exact hown8, by rw [hoo.out.1]; omega, k8a⟩
        case measure => exact hms.out
      | false =>
        by_cases hnx : n.toNat < x.toNat
        · have hnx2 : U n < U x := by unfold U; omega
          replace hnx := hide hnx
          have q4 : w.heap.size ≤ (wr.alloc (.cells #[.int .u64 (U n)] 22)).heap.size := by rw [World.size_alloc]; omega
          go_upto_region 9 with (first
            | (at_builtin; refine wpList_append_own_at _ rfl _ _ 44 rfl w.heap.size 22 i0 (.int .u64 0) 1 8 Try.underlying44 hi hz0 hz1 hz2 rfl (by decide) _ _ _ rfl (ho.alloc _) ⟨wr.heap.size, 0, none⟩ 1 1 [.int .u64 (U n)] rfl rfl (cell_one wr _ _) (fun u hu => by simp at hu; subst hu; rfl) q1 q2 q4 ?_; intro v8 w8 hown8 hg8 hnil8 hloc8; go_frame))
          obtain ⟨k8a, k8b⟩ := app_kept hst ho hg8
          have hoo : Hid ((o ++ [n]).length = o.length + 1 ∧ uCells (o ++ [n]) = uCells o ++ [.int .u64 (U n)]) := hide ⟨by simp, uCells_snoc o n⟩
          have ho8 : w8.ownsRow w.heap.size 22 1 v8 (o ++ [n]).length (uCells (o ++ [n])) := by rw [hoo.out.1, hoo.out.2]; exact hown8
          have hol8 : (o ++ [n]).length ≤ k + 1 := by obtain ⟨e, -⟩ := hI.no rfl; rw [hoo.out.1, e, List.length_take]; omega
          have x8 := k8a.cell hx (fun e => e)
          have hbw8 : w.heap.size ≤ w8.heap.size := k8a.size
          clear hg8 hnil8 hloc8 x0 hown8 q1 q2 q3 q4 hst ho hoo k8b
          have hI2 : Hid (InsAt n (l.take (k + 1)) true (o ++ [n] ++ [x])) := hide (by rw [htk.out]; exact hI.put hnx.out)
          clear hI
          generalize o ++ [n] = o8 at ho8 hol8 hI2
          have q1 : o8.length + 1 ≤ maxLen := by rw [maxLen_is]; omega
          have q2 : (o8.length + 1) * 8 ≤ 140737488355328 := by omega
          have q3 : w.heap.size ≤ (w8.alloc (.cells #[.int .u64 (U x)] 22)).heap.size := by rw [World.size_alloc]; omega
          go_wp2_with (first
            | (at_builtin; refine wpList_append_own_at _ rfl _ _ 44 rfl w.heap.size 22 i0 (.int .u64 0) 1 8 Try.underlying44 hi hz0 hz1 hz2 rfl (by decide) _ _ _ rfl (ho8.alloc _) ⟨w8.heap.size, 0, none⟩ 1 1 [.int .u64 (U x)] rfl rfl (cell_one w8 _ _) (fun u hu => by simp at hu; subst hu; rfl) q1 q2 q3 ?_; intro v9 w9 hown9 hg9 hnil9 hloc9; go_frame))
          obtain ⟨k9a, k9b⟩ := app_kept k8a ho8 hg9
          have hoo : Hid ((o8 ++ [x]).length = o8.length + 1 ∧ uCells (o8 ++ [x]) = uCells o8 ++ [.int .u64 (U x)]) := hide ⟨by simp, uCells_snoc o8 x⟩
          clear hg9 hnil9 hloc9 x8 hx q1 q2 q3
          go_roundw
          case rel => exact ⟨k + 1, true, o8 ++ [x], hk1, by simp, rfl, hI2.out, by rw [hoo.out.1, hoo.out.2]; exact hown9, by rw [hoo.out.1]; omega, k9a⟩
          case measure => exact hms.out
        · have hnx2 : ¬ U n < U x := by unfold U; omega
          replace hnx := hide hnx
          go_wp2_with (first
            | (at_builtin; refine wpList_append_own_at _ rfl _ _ 44 rfl w.heap.size 22 i0 (.int .u64 0) 1 8 Try.underlying44 hi hz0 hz1 hz2 rfl (by decide) _ _ _ rfl (ho.alloc _) ⟨wr.heap.size, 0, none⟩ 1 1 [.int .u64 (U x)] rfl rfl (cell_one wr _ _) (fun u hu => by simp at hu; subst hu; rfl) q1 q2 q3 ?_; intro v8 w8 hown8 hg8 hnil8 hloc8; go_frame))
          obtain ⟨k8a, k8b⟩ := app_kept hst ho hg8
          have hoo : Hid ((o ++ [x]).length = o.length + 1 ∧ uCells (o ++ [x]) = uCells o ++ [.int .u64 (U x)]) := hide ⟨by simp, uCells_snoc o x⟩
          clear hg8 hnil8 hloc8 x0 hx q1 q2 q3
          go_roundw
          case rel => exact ⟨k + 1, false, o ++ [x], hk1, by simp, rfl, by rw [htk.out]; exact hI.pass hnx.out, by rw [hoo.out.1, hoo.out.2]; exact hown8, by rw [hoo.out.1]; omega, k8a⟩
          case measure => exact hms.out
    · obtain rfl : k = l.length := by omega
      rw [List.take_length] at hI
      have hbw : w.heap.size ≤ wr.heap.size := hst.size
      cases d with
      | true =>
        obtain ⟨rfl, -⟩ := hI.yes rfl
        go_wp2
        go_ret
        exact ⟨_, rfl, ho, hst⟩
      | false =>
        obtain ⟨rfl, hno⟩ := hI.no rfl
        have hans := hide (insU_none hno)
        have q1 : o.length + 1 ≤ maxLen := by rw [maxLen_is]; omega
        have q2 : (o.length + 1) * 8 ≤ 140737488355328 := by omega
        have q3 : w.heap.size ≤ (wr.alloc (.cells #[.int .u64 (U n)] 22)).heap.size := by rw [World.size_alloc]; omega
        clear hno hI
        go_wp2_with (first
          | (at_builtin; refine wpList_append_own_at _ rfl _ _ 44 rfl w.heap.size 22 i0 (.int .u64 0) 1 8 Try.underlying44 hi hz0 hz1 hz2 rfl (by decide) _ _ _ rfl (ho.alloc _) ⟨wr.heap.size, 0, none⟩ 1 1 [.int .u64 (U n)] rfl rfl (cell_one wr _ _) (fun u hu => by simp at hu; subst hu; rfl) q1 q2 q3 ?_; intro v8 w8 hown8 hg8 hnil8 hloc8; go_frame))
        obtain ⟨k8a, k8b⟩ := app_kept hst ho hg8
        have hoo : Hid ((o ++ [n]).length = o.length + 1 ∧ uCells (o ++ [n]) = uCells o ++ [.int .u64 (U n)]) := hide ⟨by simp, uCells_snoc o n⟩
        clear hg8 hnil8 hloc8 q1 q2 q3
        go_wp2
        go_ret
        exact ⟨_, rfl, by rw [hans.out, hoo.out.1, hoo.out.2]; exact hown8, k8a⟩
end Go.Proofs.Ytpflodhnniochaa
