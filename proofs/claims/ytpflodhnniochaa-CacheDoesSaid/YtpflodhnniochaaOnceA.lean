/-
  A map from numbers to numbers, told as a function that is 0 where the map has nothing.
-/
import Derived.Test.YtpflodhnniochaaCacheN
namespace Go.Proofs.Ytpflodhnniochaa
set_option linter.unusedVariables false
open Go.RowKit Go.Maps Go.WideMaps

theorem lawU : Keyed Try.prog 22 := int_keyed Try.underlying22
def ku (A : BitVec 64) : Lit := .int .u64 (U A)
theorem key_u (A : BitVec 64) : keyOf Try.prog 22 (.int .u64 (U A)) = some (ku A) := keyOf_int_mk Try.underlying22 (wf_U A)
theorem isKey_u (A : BitVec 64) : WideAt.IsKeyLit (ku A) := trivial
theorem ku_inj {A A' : BitVec 64} (h : ku A = ku A') : A = A' := by
  unfold ku at h
  simp only [Lit.int.injEq, true_and] at h
  have := congrArg B h
  rwa [B_U, B_U] at this
def updN (f : BitVec 64 → Nat) (A : BitVec 64) (n : Nat) : BitVec 64 → Nat := fun A' => if A' = A then n else f A'
theorem updN_same (f : BitVec 64 → Nat) (A : BitVec 64) (n : Nat) : updN f A n A = n := by simp [updN]
theorem updN_other (f : BitVec 64 → Nat) {A A' : BitVec 64} (n : Nat) (h : A' ≠ A) : updN f A n A' = f A' := by simp [updN, h]
structure ReadsU (D : DataW Unit) (f : BitVec 64 → Nat) : Prop where
  isMap : IsMap D
  has : ∀ A, Maps.has D (ku A) = decide (f A ≠ 0)
  at_ : ∀ A, f A ≠ 0 → ∀ z, D.atKey (ku A) z = .lit (.int .i64 (f A : Nat))
  keys : ∀ k, Maps.has D k = true → ∃ A, k = ku A
theorem readsU_none : ReadsU (.map []) (fun _ => 0) := ⟨isMap_empty, fun _ => rfl, fun _ h => absurd rfl h, fun _ h => by simp [Maps.has] at h⟩
theorem ReadsU.put {D : DataW Unit} {f : BitVec 64 → Nat} (h : ReadsU D f) (A : BitVec 64) {n : Nat} (hn : n ≠ 0) : ReadsU (D.put (ku A) (.lit (.int .i64 (n : Nat)))) (updN f A n) := by
  refine ⟨h.isMap.put _ _, fun A' => ?_, fun A' e z => ?_, fun k hk => ?_⟩
  · by_cases e : A' = A
    · subst e; rw [has_put_same h.isMap (isKey_u _), updN_same]; simp [hn]
    · rw [has_put_other (fun e' => e (ku_inj e')), updN_other _ _ e, h.has]
  · by_cases e1 : A' = A
    · subst e1; rw [updN_same]; rw [atKey_put_same h.isMap (isKey_u _)]
    · rw [updN_other _ _ e1] at e ⊢; rw [atKey_put_other (fun e' => e1 (ku_inj e')), h.at_ _ e]
  · by_cases e : k = ku A
    · exact ⟨A, e⟩
    · rw [has_put_other e] at hk; exact h.keys k hk
theorem ReadsU.del {D : DataW Unit} {f : BitVec 64 → Nat} (h : ReadsU D f) (A : BitVec 64) : ReadsU (D.del (ku A)) (updN f A 0) := by
  refine ⟨h.isMap.del _, fun A' => ?_, fun A' e z => ?_, fun k hk => ?_⟩
  · by_cases e : A' = A
    · subst e; rw [has_del_same, updN_same]; rfl
    · rw [has_del_other (fun e' => e (ku_inj e')), updN_other _ _ e, h.has]
  · by_cases e1 : A' = A
    · subst e1; rw [updN_same] at e; exact absurd rfl e
    · rw [updN_other _ _ e1] at e ⊢; rw [atKey_del_other (fun e' => e1 (ku_inj e')), h.at_ _ e]
  · by_cases e : k = ku A
    · exact ⟨A, e⟩
    · rw [has_del_other e] at hk; exact h.keys k hk
/-- So many numbers are not 0. -/
def Num (f : BitVec 64 → Nat) (n : Nat) : Prop := ∃ ka : List (BitVec 64), ka.Nodup ∧ (∀ A, A ∈ ka ↔ f A ≠ 0) ∧ ka.length = n
theorem num_of {D : DataW Unit} {f : BitVec 64 → Nat} (h : ReadsU D f) (ht : ∃ es, D = .map es ∧ es.Pairwise (fun p q => p.1 ≠ q.1) ∧ ∀ p ∈ es, WideAt.IsKeyLit p.1) : Num f (Maps.size D) := by
  obtain ⟨es, rfl, hp, hk⟩ := ht
  have hex : ∀ p ∈ es, ∃ A, p.1 = ku A ∧ f A ≠ 0 := fun p hpe => by
    have hk1 : Maps.has (.map es) p.1 = true := List.any_eq_true.2 ⟨p, hpe, WideAt.sameKey_self (hk p hpe)⟩
    obtain ⟨A, hA⟩ := h.keys _ hk1
    have h1 := h.has A
    rw [← hA, hk1] at h1
    exact ⟨A, hA, by simpa using h1.symm⟩
  have hin : ∀ A, f A ≠ 0 → ∃ p ∈ es, p.1 = ku A := fun A hA => by
    have h1 := h.has A
    rw [decide_eq_true hA] at h1
    obtain ⟨p, hpe, hs⟩ := List.any_eq_true.1 h1
    obtain ⟨A', hA', -⟩ := hex p hpe
    exact ⟨p, hpe, WideAt.sameKey_eq hs⟩
  clear h
  have key : ∀ (l : List (Lit × DataW Unit)), l.Pairwise (fun p q => p.1 ≠ q.1) → (∀ p ∈ l, ∃ A, p.1 = ku A ∧ f A ≠ 0) →
      ∃ ka : List (BitVec 64), ka.length = l.length ∧ ka.Nodup ∧ (∀ A, A ∈ ka ↔ ∃ p ∈ l, p.1 = ku A) := by
    intro l
    induction l with
    | nil => intro _ _; exact ⟨[], rfl, List.Pairwise.nil, by simp⟩
    | cons p r ih =>
      intro hp hx
      obtain ⟨h1, h2⟩ := List.pairwise_cons.1 hp
      obtain ⟨ka, e1, e2, e3⟩ := ih h2 (fun q hq => hx q (by simp [hq]))
      obtain ⟨A, hA, hn⟩ := hx p (by simp)
      refine ⟨A :: ka, by simp [e1], List.nodup_cons.2 ⟨fun hm => ?_, e2⟩, fun A' => ?_⟩
      · obtain ⟨q, hq, hqa⟩ := (e3 A).1 hm
        exact h1 q hq (by rw [hA, hqa])
      · rw [List.mem_cons, e3]
        constructor
        · rintro (rfl | ⟨q, hq, hqa⟩)
          · exact ⟨p, by simp, hA⟩
          · exact ⟨q, by simp [hq], hqa⟩
        · rintro ⟨q, hq, hqa⟩
          rcases List.mem_cons.1 hq with rfl | hq
          · exact .inl (ku_inj (by rw [← hA, hqa])).symm
          · exact .inr ⟨q, hq, hqa⟩
  obtain ⟨ka, e1, e2, e3⟩ := key es hp hex
  refine ⟨ka, e2, fun A => ?_, by rw [e1]; rfl⟩
  rw [e3]
  exact ⟨fun ⟨p, hpe, hpa⟩ => by
    obtain ⟨A', hA', hn⟩ := hex p hpe
    rw [ku_inj (hpa.symm.trans hA')]
    exact hn, hin A⟩
theorem Num.eq {f : BitVec 64 → Nat} {n m : Nat} (h : Num f n) (h' : Num f m) : n = m := by
  obtain ⟨a, a1, a2, rfl⟩ := h
  obtain ⟨b, b1, b2, rfl⟩ := h'
  exact ((List.perm_ext_iff_of_nodup a1 b1).2 fun A => (a2 A).trans (b2 A).symm).length_eq
/-- At most so many numbers are not 0. -/
def Few (f : BitVec 64 → Nat) (N : Nat) : Prop := ∀ ka : List (BitVec 64), ka.Nodup → (∀ A ∈ ka, f A ≠ 0) → ka.length ≤ N
theorem Few.num {f : BitVec 64 → Nat} {n N : Nat} (h : Few f N) (k : Num f n) : n ≤ N := by
  obtain ⟨a, a1, a2, rfl⟩ := k
  exact h a a1 fun A hA => (a2 A).1 hA
theorem Few.upd {f : BitVec 64 → Nat} {N : Nat} (h : Few f N) (A : BitVec 64) (n : Nat) : Few (updN f A n) (N + 1) := by
  intro ka hn hk
  have h1 := h (ka.filter fun x => decide (x ≠ A)) (hn.filter _) fun x hx => by
    obtain ⟨q1, q2⟩ := List.mem_filter.1 hx
    have := hk x q1
    rwa [updN_other _ _ (by simpa using q2)] at this
  have h2 : ka.length ≤ (ka.filter fun x => decide (x ≠ A)).length + 1 := by
    clear h hk h1
    induction ka with
    | nil => simp
    | cons a r ih =>
      obtain ⟨q1, q2⟩ := List.nodup_cons.1 hn
      by_cases e : a = A
      · subst e
        have : r.filter (fun x => decide (x ≠ a)) = r := List.filter_eq_self.2 (fun x hx => by simp; rintro rfl; exact q1 hx)
        rw [List.filter_cons_of_neg (by simp), this]; simp
      · have := ih q2
        rw [List.filter_cons_of_pos (by simpa using e)]
        simp only [List.length_cons]
        omega
  omega
theorem Few.del {f : BitVec 64 → Nat} {N : Nat} (h : Few f N) (A : BitVec 64) : Few (updN f A 0) N := fun ka hn hk => h ka hn fun x hx => by
  have := hk x hx
  by_cases e : x = A
  · subst e; rw [updN_same] at this; exact absurd rfl this
  · rwa [updN_other _ _ e] at this

/-- Block b is that map. -/
def MapU (w : World) (b : Nat) (f : BitVec 64 → Nat) : Prop :=
  ∃ D : DataW Unit, w.ownsMap Try.prog 22 (plainElem Try.prog 3) b (Maps.size D) D ∧ ReadsU D f
theorem tightU {w : World} {b n : Nat} {D : DataW Unit} (h : w.ownsMap Try.prog 22 (plainElem Try.prog 3) b n D) : w.ownsMap Try.prog 22 (plainElem Try.prog 3) b (Maps.size D) D := by
  obtain ⟨es, clock, hb, F, hs, rfl⟩ := h
  exact ⟨es, clock, hb, F, by simp [Maps.size, length_sorted], rfl⟩
theorem MapU.lt {w : World} {b : Nat} {f : BitVec 64 → Nat} (h : MapU w b f) : b < w.heap.size := h.elim fun _ h => h.1.lt
theorem MapU.kept {w w' : World} {b : Nat} {f : BitVec 64 → Nat} (h : MapU w b f) (e : w'.heap[b]? = w.heap[b]?) : MapU w' b f := by
  obtain ⟨D, ⟨es, clock, hb, r⟩, hr⟩ := h
  exact ⟨D, ⟨es, clock, e.trans hb, r⟩, hr⟩
theorem mapU_made (w : World) : MapU (w.alloc (.map #[] 0)) w.heap.size (fun _ => 0) :=
  ⟨.map [], tightU (World.ownsMap_made _ _ _ _), readsU_none⟩
theorem MapU.get {w : World} {b : Nat} {f : BitVec 64 → Nat} (h : MapU w b f) (A : BitVec 64) :
    (Instr.lookup 51 (.map (some b)) (.int .u64 (U A)) false).run Try.prog w = .ok (.int .i64 ((f A : Nat) : Int)) w := by
  obtain ⟨D, ho, hr⟩ := h
  obtain ⟨c, hrun, hat, -⟩ := ho.lookup_int lawU Try.underlying51 Try.underlying3 (zeroInt w) (key_u A)
  rw [hrun]
  by_cases e : f A = 0
  · rw [atKey_of_not_has (by rw [hr.has, e]; rfl)] at hat
    simp at hat
    rw [e, ← hat]; rfl
  · rw [hr.at_ A e] at hat
    simp at hat
    rw [← hat]
theorem MapU.size {w : World} {b : Nat} {f : BitVec 64 → Nat} (h : MapU w b f) {n : Nat} (hn : Num f n) (ty : TypeId) :
    (Builtin.len_ #[51] ty #[.map (some b)]).run Try.prog w = .ok (.int .i64 (n : Int)) w := by
  obtain ⟨D, ho, hr⟩ := h
  rw [ho.len Try.underlying51 ty, (num_of hr (ho.entries lawU)).eq hn]
theorem MapU.put {w : World} {b : Nat} {f : BitVec 64 → Nat} (h : MapU w b f) {N : Nat} (hf : Few f N) (hN : N ≤ 1024) (A : BitVec 64) {n : Nat} (hn : n ≠ 0) (hn2 : n ≤ 2) :
    ∃ w', (Instr.mapUpdate 51 (.map (some b)) (.int .u64 (U A)) (.int .i64 (n : Nat))).run Try.prog w = .ok () w' ∧ MapU w' b (updN f A n) ∧ w.mapTurned w' b := by
  obtain ⟨D, ho, hr⟩ := h
  have hs := hf.num (num_of hr (ho.entries lawU))
  obtain ⟨w', h1, h2, h3⟩ := ho.store lawU Try.underlying51 (by rw [maxLen_is]; omega) (key_u A) (plainElem_int Try.underlying3 (a := (n : Nat)) (WalkArith.wf_i64 (by omega)))
  exact ⟨w', h1, ⟨_, tightU h2, hr.put A hn⟩, h3⟩
theorem MapU.drop {w : World} {b : Nat} {f : BitVec 64 → Nat} (h : MapU w b f) (A : BitVec 64) (ty : TypeId) :
    ∃ w', (Builtin.delete_ #[51, 22] ty #[.map (some b), .int .u64 (U A)]).run Try.prog w = .ok (.tuple #[]) w' ∧ MapU w' b (updN f A 0) ∧ w.mapTurned w' b := by
  obtain ⟨D, ho, hr⟩ := h
  obtain ⟨w', h1, h2, h3⟩ := ho.drop lawU Try.underlying51 (key_u A) ty
  exact ⟨w', h1, ⟨_, tightU h2, hr.del A⟩, h3⟩
end Go.Proofs.Ytpflodhnniochaa
