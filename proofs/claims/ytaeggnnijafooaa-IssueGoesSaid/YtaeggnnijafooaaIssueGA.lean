/-
  What Pick takes out and leaves, as plain lists. Nothing of the program's code stands here.
-/
import Derived.Test.YtaeggnnijafooaaIssueDB
namespace Go.Proofs.Ytaeggnnijafooaa
set_option linter.unusedVariables false

/-- The entries that go. -/
def pkL : (Int → Int) → List En → List En
  | _, [] => []
  | f, e :: r => if ready e = true ∧ 1 ≤ f e.unit then e :: pkL (upd f e.unit (f e.unit - 1)) r else pkL f r
theorem pk_tags : ∀ (f : Int → Int) (s : List En), (pickS f s).2 = tags (pkL f s)
  | f, [] => rfl
  | f, e :: r => by
    unfold pkL
    by_cases h : ready e = true ∧ 1 ≤ f e.unit
    · rw [pickS_yes _ h, if_pos h, pk_tags _ r]; rfl
    · rw [pickS_not _ h, if_neg h, pk_tags _ r]
theorem pk_sub : ∀ (f : Int → Int) (s : List En), (pkL f s).Sublist s
  | f, [] => List.Sublist.refl _
  | f, e :: r => by
    unfold pkL
    split
    · exact (pk_sub _ r).cons_cons e
    · exact (pk_sub _ r).trans (List.sublist_cons_self _ _)
theorem pk_ready : ∀ (f : Int → Int) (s : List En), ∀ e ∈ pkL f s, ready e = true
  | f, [], e, h => by cases h
  | f, x :: r, e, h => by
    unfold pkL at h
    split at h
    · rename_i hc
      rcases List.mem_cons.1 h with rfl | h
      · exact hc.1
      · exact pk_ready _ r e h
    · exact pk_ready _ r e h
theorem pk_parts : ∀ (f : Int → Int) (s : List En), s.Perm (pkL f s ++ (pickS f s).1)
  | f, [] => List.Perm.refl _
  | f, e :: r => by
    unfold pkL
    by_cases h : ready e = true ∧ 1 ≤ f e.unit
    · rw [pickS_yes _ h, if_pos h]
      exact (pk_parts _ r).cons e
    · rw [pickS_not _ h, if_neg h]
      exact ((pk_parts f r).cons e).trans List.perm_middle.symm
def cntU (k : Int) (l : List En) : Nat := (l.filter fun e => decide (e.unit = k)).length
theorem cntU_cons (k : Int) (e : En) (l : List En) : cntU k (e :: l) = cntU k l + (if e.unit = k then 1 else 0) := by
  unfold cntU
  rw [List.filter_cons]
  by_cases h : e.unit = k
  · simp [h]
  · simp [h]
theorem cntU_pos {k : Int} {l : List En} {e : En} (he : e ∈ l) (hu : e.unit = k) : 0 < cntU k l := List.length_pos_of_mem (List.mem_filter.2 ⟨he, by simpa using hu⟩)
theorem pk_count : ∀ (f : Int → Int) (s : List En) (k : Int), cntU k (pkL f s) ≤ (f k).toNat
  | f, [], k => Nat.zero_le _
  | f, e :: r, k => by
    unfold pkL
    split
    · rename_i hc
      have ih := pk_count (upd f e.unit (f e.unit - 1)) r k
      rw [cntU_cons]
      generalize pkL (upd f e.unit (f e.unit - 1)) r = L at ih ⊢
      unfold upd at ih
      by_cases h : e.unit = k
      · subst h
        rw [if_pos rfl] at ih ⊢
        omega
      · rw [if_neg (fun e' => h e'.symm)] at ih
        rw [if_neg h]
        omega
    · exact pk_count f r k
theorem pk_left : ∀ (f : Int → Int) (s : List En), Sorted s → ∀ e ∈ (pickS f s).1, ready e = true → f e.unit ≤ (cntU e.unit (pkL f s) : Int) ∧ ∀ y ∈ pkL f s, y.unit = e.unit → y.tag < e.tag
  | f, [], _, e, h, _ => by cases h
  | f, x :: r, hs, e, h, hr => by
    obtain ⟨h1, h2⟩ := List.pairwise_cons.1 hs
    unfold pkL
    by_cases hc : ready x = true ∧ 1 ≤ f x.unit
    · rw [pickS_yes _ hc] at h
      rw [if_pos hc]
      obtain ⟨i1, i2⟩ := pk_left _ r h2 e h hr
      have her : e ∈ r := (pick_sub _ r).mem h
      refine ⟨?_, fun y hy hyu => ?_⟩
      · rw [cntU_cons]
        generalize pkL (upd f x.unit (f x.unit - 1)) r = L at i1 ⊢
        unfold upd at i1
        by_cases hu : x.unit = e.unit
        · rw [if_pos hu.symm] at i1
          rw [if_pos hu]
          rw [← hu] at i1 ⊢
          omega
        · rw [if_neg (fun e' => hu e'.symm)] at i1
          rw [if_neg hu]
          omega
      · rcases List.mem_cons.1 hy with rfl | hy
        · exact h1 e her
        · exact i2 y hy hyu
    · rw [pickS_not _ hc] at h
      rw [if_neg hc]
      rcases List.mem_cons.1 h with rfl | h
      · have hf : f e.unit ≤ 0 := by
          have : ¬ 1 ≤ f e.unit := fun h => hc ⟨hr, h⟩
          omega
        refine ⟨by omega, fun y hy hyu => ?_⟩
        have h3 := cntU_pos hy hyu
        have h4 := pk_count f r e.unit
        omega
      · exact pk_left f r h2 e h hr
theorem sorted_nodup {s : List En} (h : Sorted s) : s.Nodup := h.imp fun {a b} hab e => by rw [e] at hab; omega
theorem pk_mem {f : Int → Int} {s : List En} (hs : Sorted s) {e : En} (he : e ∈ s) : e.tag ∈ (pickS f s).2 ↔ e ∈ pkL f s := by
  rw [pk_tags]
  unfold tags
  rw [List.mem_map]
  constructor
  · rintro ⟨y, hy, hye⟩
    have := sorted_tag hs ((pk_sub f s).mem hy) he hye
    rwa [← this]
  · intro h
    exact ⟨e, h, rfl⟩
/-- Is it among the tags? -/
def inT (p : List Int) (e : En) : Bool := decide (e.tag ∈ p)
theorem pk_filter {f : Int → Int} {s inn : List En} (hs : Sorted s) (hp : inn.Perm s) : (inn.filter (inT (pickS f s).2)).Perm (pkL f s) := by
  have hn := sorted_nodup hs
  refine (List.perm_ext_iff_of_nodup ((hp.nodup_iff.2 hn).filter _) (hn.sublist (pk_sub f s))).2 fun e => ?_
  rw [List.mem_filter, hp.mem_iff]
  unfold inT
  rw [decide_eq_true_iff]
  constructor
  · rintro ⟨h1, h2⟩; exact (pk_mem hs h1).1 h2
  · intro h; have := (pk_sub f s).mem h; exact ⟨this, (pk_mem hs this).2 h⟩
theorem left_filter {f : Int → Int} {s inn : List En} (hs : Sorted s) (hp : inn.Perm s) : (inn.filter fun e => !inT (pickS f s).2 e).Perm (pickS f s).1 := by
  have hn := sorted_nodup hs
  have hpp := pk_parts f s
  have hna := hpp.nodup_iff.1 hn
  refine (List.perm_ext_iff_of_nodup ((hp.nodup_iff.2 hn).filter _) (hn.sublist (pick_sub f s))).2 fun e => ?_
  rw [List.mem_filter, hp.mem_iff]
  unfold inT
  rw [Bool.not_eq_true', decide_eq_false_iff_not]
  constructor
  · rintro ⟨h1, h2⟩
    rw [pk_mem hs h1] at h2
    rcases List.mem_append.1 (hpp.mem_iff.1 h1) with h | h
    · exact absurd h h2
    · exact h
  · intro h
    have hes := (pick_sub f s).mem h
    refine ⟨hes, ?_⟩
    rw [pk_mem hs hes]
    intro h'
    exact (List.nodup_append.1 hna).2.2 e h' e h rfl
theorem rising_picks (f : Int → Int) {s : List En} (hs : Sorted s) : ((pickS f s).2).Pairwise (· < ·) := by
  rw [pk_tags]
  exact sorted_tags (hs.sublist (pk_sub f s))
theorem insS_perm (u : En) : ∀ s : List En, (insS u s).Perm (s ++ [u])
  | [] => List.Perm.refl _
  | x :: r => by
    unfold insS
    split
    · exact (List.perm_append_singleton u (x :: r)).symm
    · exact (insS_perm u r).cons x
end Go.Proofs.Ytaeggnnijafooaa
