/-
  What waits, as plain lists: nothing of the program's code stands here.
-/
namespace Go.Proofs.Ytaeggnnijafooaa
set_option linter.unusedVariables false

/-- One that waits: its tag, its unit, three registers (below 0: none). -/
structure En where
  tag : Int
  unit : Int
  a : Int
  b : Int
  c : Int
def waits (e : En) (k : Int) : Bool := decide (0 ≤ k) && (decide (k = e.a) || decide (k = e.b) || decide (k = e.c))
def ready (e : En) : Bool := decide (e.a < 0) && decide (e.b < 0) && decide (e.c < 0)
theorem ready_iff (e : En) : ready e = true ↔ ∀ k, waits e k = false := by
  unfold ready waits
  constructor
  · intro h k
    simp at h
    simp
    omega
  · intro h
    have h1 := h e.a
    have h2 := h e.b
    have h3 := h e.c
    simp at h1 h2 h3
    simp
    omega
def str1 (p x : Int) : Int := if x = p then -1 else x
/-- A register has its value. -/
def strike (p : Int) (e : En) : En := if 0 ≤ p then { e with a := str1 p e.a, b := str1 p e.b, c := str1 p e.c } else e
theorem strike_tag (p : Int) (e : En) : (strike p e).tag = e.tag := by unfold strike; split <;> rfl
theorem strike_unit (p : Int) (e : En) : (strike p e).unit = e.unit := by unfold strike; split <;> rfl
theorem waits_strike (p : Int) (e : En) (k : Int) : waits (strike p e) k = (waits e k && !decide (k = p)) := by
  unfold strike
  split
  · unfold waits str1
    rw [Bool.eq_iff_iff]
    simp
    constructor
    · rintro ⟨h1, h2⟩
      have : k ≠ p := by
        intro e'
        subst e'
        rcases h2 with (h2 | h2) | h2 <;> split at h2 <;> omega
      refine ⟨⟨h1, ?_⟩, this⟩
      rcases h2 with (h2 | h2) | h2 <;> split at h2 <;> first | omega | (simp [h2])
    · rintro ⟨⟨h1, h2⟩, h3⟩
      refine ⟨h1, ?_⟩
      rcases h2 with (h2 | h2) | h2
      · left; left; rw [if_neg (by omega)]; exact h2
      · left; right; rw [if_neg (by omega)]; exact h2
      · right; rw [if_neg (by omega)]; exact h2
  · rename_i hp
    unfold waits
    rw [Bool.eq_iff_iff]
    simp
    intro h1 _
    omega
/-- Is it waked by p? -/
def woke (p : Int) (e : En) : Bool := waits e p && ready (strike p e)
def wakeL (p : Int) (s : List En) : List En := s.map (strike p)
def wakeN (p : Int) (s : List En) : Nat := (s.filter (woke p)).length
def insS (u : En) : List En → List En
  | [] => [u]
  | e :: r => if u.tag < e.tag then u :: e :: r else e :: insS u r
def hasT (s : List En) (t : Int) : Bool := s.any fun e => decide (e.tag = t)
def insOk (size : Int) (s : List En) (u : En) : Bool := !hasT s u.tag && decide ((s.length : Int) < size) && decide (0 ≤ u.unit) && decide (u.unit < 5)
def Sorted (s : List En) : Prop := s.Pairwise fun x y => x.tag < y.tag
def upd (f : Int → Int) (k v : Int) : Int → Int := fun x => if x = k then v else f x
/-- What can go. -/
def pickS : (Int → Int) → List En → List En × List Int
  | _, [] => ([], [])
  | f, e :: r => if ready e = true ∧ 1 ≤ f e.unit then ((pickS (upd f e.unit (f e.unit - 1)) r).1, e.tag :: (pickS (upd f e.unit (f e.unit - 1)) r).2) else (e :: (pickS f r).1, (pickS f r).2)
def dropL (x : Int) (s : List En) : List En := s.filter fun e => decide (e.tag ≤ x)
def dropN (x : Int) (s : List En) : Nat := (s.filter fun e => !decide (e.tag ≤ x)).length
def tags (s : List En) : List Int := s.map En.tag

theorem hasT_iff {s : List En} {t : Int} : hasT s t = true ↔ ∃ e ∈ s, e.tag = t := by simp [hasT]
theorem mem_insS {u : En} : ∀ {s : List En} {e : En}, e ∈ insS u s ↔ e = u ∨ e ∈ s
  | [], e => by simp [insS]
  | x :: r, e => by
    rw [insS]
    split
    · simp
    · rw [List.mem_cons, mem_insS, List.mem_cons]
      constructor
      · rintro (h | h | h) <;> simp [h]
      · rintro (h | h | h) <;> simp [h]
theorem sorted_insS {u : En} : ∀ {s : List En}, Sorted s → hasT s u.tag = false → Sorted (insS u s)
  | [], _, _ => by simp [insS, Sorted]
  | x :: r, h, hn => by
    obtain ⟨h1, h2⟩ := List.pairwise_cons.1 h
    have hx : x.tag ≠ u.tag := fun e => by simp [hasT, e] at hn
    have hr : hasT r u.tag = false := by
      cases hh : hasT r u.tag
      · rfl
      · rw [hasT_iff] at hh
        obtain ⟨e, he, hee⟩ := hh
        have : hasT (x :: r) u.tag = true := hasT_iff.2 ⟨e, by simp [he], hee⟩
        rw [this] at hn
        cases hn
    rw [insS]
    split
    · rename_i hlt
      refine List.pairwise_cons.2 ⟨fun y hy => ?_, h⟩
      rcases List.mem_cons.1 hy with rfl | hy
      · exact hlt
      · have := h1 y hy; omega
    · refine List.pairwise_cons.2 ⟨fun y hy => ?_, sorted_insS h2 hr⟩
      rcases mem_insS.1 hy with rfl | hy
      · omega
      · exact h1 y hy
theorem length_insS (u : En) : ∀ s : List En, (insS u s).length = s.length + 1
  | [] => rfl
  | x :: r => by
    rw [insS]
    split
    · simp
    · simp [length_insS u r]
theorem sorted_map {s : List En} (h : Sorted s) {f : En → En} (hf : ∀ e, (f e).tag = e.tag) : Sorted (s.map f) := List.pairwise_map.2 (h.imp fun {x y} hxy => by rw [hf, hf]; exact hxy)
theorem sorted_filter {s : List En} (h : Sorted s) (f : En → Bool) : Sorted (s.filter f) := h.sublist List.filter_sublist
theorem sorted_tag {s : List En} (h : Sorted s) {x y : En} (hx : x ∈ s) (hy : y ∈ s) (e : x.tag = y.tag) : x = y := by
  induction s with
  | nil => cases hx
  | cons z r ih =>
    obtain ⟨h1, h2⟩ := List.pairwise_cons.1 h
    rcases List.mem_cons.1 hx with e1 | hx' <;> rcases List.mem_cons.1 hy with e2 | hy'
    · rw [e1, e2]
    · have := h1 y hy'; rw [e1] at e; omega
    · have := h1 x hx'; rw [e2] at e; omega
    · exact ih h2 hx' hy'
theorem sorted_tags {s : List En} (h : Sorted s) : (tags s).Pairwise (· < ·) := List.pairwise_map.2 h
theorem length_tags (s : List En) : (tags s).length = s.length := by simp [tags]
theorem mem_tags {s : List En} {t : Int} : t ∈ tags s ↔ hasT s t = true := by simp [tags, hasT]
/-! A list of tags told by what is in it. -/
theorem rising_ext : ∀ {l l' : List Int}, l.Pairwise (· < ·) → l'.Pairwise (· < ·) → (∀ x, x ∈ l ↔ x ∈ l') → l = l' := by
  intro l l' h h' hm
  have n1 : l.Nodup := h.imp fun {a b} hab => by omega
  have n2 : l'.Nodup := h'.imp fun {a b} hab => by omega
  exact List.Perm.eq_of_pairwise (le := fun a b => a < b) (fun a b _ _ h1 h2 => by omega) h h' ((List.perm_ext_iff_of_nodup n1 n2).2 hm)
theorem sort_rising {l l' : List Int} (hn : l.Nodup) (h' : l'.Pairwise (· < ·)) (hm : ∀ x, x ∈ l ↔ x ∈ l') : (l.mergeSort fun x y => decide (x ≤ y)) = l' := by
  have hp := List.mergeSort_perm l (fun x y => decide (x ≤ y))
  have hs : (l.mergeSort fun x y => decide (x ≤ y)).Pairwise (fun a b => decide (a ≤ b) = true) := List.pairwise_mergeSort (fun a b c h1 h2 => by simp at *; omega) (fun a b => by simp; omega) l
  have n2 : l'.Nodup := h'.imp fun {a b} hab => by omega
  refine List.Perm.eq_of_pairwise (le := fun a b => a ≤ b) (fun a b _ _ h1 h2 => by omega) (hs.imp fun {a b} hab => by simpa using hab) (h'.imp fun {a b} hab => by omega) (hp.trans ((List.perm_ext_iff_of_nodup hn n2).2 hm))
theorem perm_length {l l' : List Int} (hn : l.Nodup) (hn' : l'.Nodup) (hm : ∀ x, x ∈ l ↔ x ∈ l') : l.length = l'.length := ((List.perm_ext_iff_of_nodup hn hn').2 hm).length_eq
end Go.Proofs.Ytaeggnnijafooaa
