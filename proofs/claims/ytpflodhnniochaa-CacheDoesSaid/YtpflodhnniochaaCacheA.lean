/-
  The cache's map from (set, line) to a place, told as a function from lines. Nothing of the program's code stands here.
-/
import Derived.Test.YtpflodhnniochaaWords
import Derived.Test.YtpflodhnniochaaMore
import Derived.Test.YtpflodhnniochaaProg
import Derived.Maps.OwnSet
import Derived.Maps.RangeWalk
import Derived.WideKeyPair
import Derived.DeepKeys4
namespace Go.Proofs.Ytpflodhnniochaa
set_option linter.unusedVariables false
open Go.RowKit Go.Maps Go.WideMaps

theorem laidOutA : laidOutB Try.prog = true := by kernel_rfl
theorem rowK : (66 : TypeId) < Try.prog.types.size := of_decide_eq_true (by kernel_rfl)
theorem cellsK : Try.prog.cellsOf 66 = 2 := by kernel_rfl
theorem arrK : ArrKey Try.prog 66 22 2 := ⟨Try.underlying66, by kernel_rfl, by kernel_rfl, cellsK⟩
theorem lawK : Keyed Try.prog 66 := Keyed.of_law (deep_law_laid laidOutA (m := 2) (by omega) rowK (by kernel_rfl) (by rw [Try.underlying66]))
theorem sizePos : 0 < Try.prog.types.size := of_decide_eq_true (by kernel_rfl)
theorem sizeTypes : ∃ m, Try.prog.types.size = m + 1 := ⟨Try.prog.types.size - 1, by have := sizePos; omega⟩
theorem zeroInt (w : World) : (zeroValue 3).run Try.prog w = .ok (.int .i64 0) w := by kernel_rfl

theorem wf_U (x : BitVec 64) : (Lit.int .u64 (U x)).wf = true := by
  have h0 := U_lo x
  have h1 := U_hi x
  exact WalkArith.wf_u64 ⟨h0, by omega⟩

/-- A line's key, as a value and as it is read. -/
def kv (m L : BitVec 64) : Value := .agg #[.int .u64 (U (L % m)), .int .u64 (U L)]
def kl (m L : BitVec 64) : Lit := .string (keyBytes [.int .u64 (U (L % m)), .int .u64 (U L)])
theorem key_kv (m L : BitVec 64) : keyOf Try.prog 66 (kv m L) = some (kl m L) := keyOf_pair arrK Try.underlying22 sizeTypes (wf_U _) (wf_U _)
theorem isKey_kl (m L : BitVec 64) : WideAt.IsKeyLit (kl m L) := trivial
theorem kl_inj {m L L' : BitVec 64} (h : kl m L = kl m L') : L = L' := by
  have h1 := key_kv m L
  have h2 := key_kv m L'
  rw [← h] at h2
  have := lawK.inj h1 h2
  unfold kv at this
  simp only [Value.agg.injEq, Array.mk.injEq, List.cons.injEq, Value.int.injEq, true_and, and_true] at this
  have := congrArg B this.2
  rwa [B_U, B_U] at this

/-- A function turned at one line. -/
def upd (f : BitVec 64 → Option Nat) (L : BitVec 64) (n : Option Nat) : BitVec 64 → Option Nat := fun L' => if L' = L then n else f L'
theorem upd_same (f : BitVec 64 → Option Nat) (L : BitVec 64) (n : Option Nat) : upd f L n L = n := by simp [upd]
theorem upd_other (f : BitVec 64 → Option Nat) {L L' : BitVec 64} (n : Option Nat) (h : L' ≠ L) : upd f L n L' = f L' := by simp [upd, h]

/-- What is read of the map: the places of the lines. -/
structure Reads (D : DataW Unit) (m : BitVec 64) (f : BitVec 64 → Option Nat) : Prop where
  isMap : IsMap D
  has : ∀ L, Maps.has D (kl m L) = (f L).isSome
  at_ : ∀ L n, f L = some n → ∀ z, D.atKey (kl m L) z = .lit (.int .i64 (n : Nat))
  keys : ∀ k, Maps.has D k = true → ∃ L, k = kl m L
theorem reads_none (m : BitVec 64) : Reads (.map []) m (fun _ => none) := ⟨isMap_empty, fun _ => rfl, fun _ _ h => by simp at h, fun _ h => by simp [Maps.has] at h⟩
theorem Reads.put {D : DataW Unit} {m : BitVec 64} {f : BitVec 64 → Option Nat} (h : Reads D m f) (L : BitVec 64) (n : Nat) : Reads (D.put (kl m L) (.lit (.int .i64 (n : Nat)))) m (upd f L (some n)) := by
  refine ⟨h.isMap.put _ _, fun L' => ?_, fun L' n' e z => ?_, fun k hk => ?_⟩
  · by_cases e : L' = L
    · subst e; rw [has_put_same h.isMap (isKey_kl _ _), upd_same]; rfl
    · rw [has_put_other (fun e' => e (kl_inj e')), upd_other _ _ e, h.has]
  · by_cases e1 : L' = L
    · subst e1; rw [upd_same] at e; cases e; rw [atKey_put_same h.isMap (isKey_kl _ _)]
    · rw [upd_other _ _ e1] at e; rw [atKey_put_other (fun e' => e1 (kl_inj e')), h.at_ _ _ e]
  · by_cases e : k = kl m L
    · exact ⟨L, e⟩
    · rw [has_put_other e] at hk; exact h.keys k hk
theorem Reads.del {D : DataW Unit} {m : BitVec 64} {f : BitVec 64 → Option Nat} (h : Reads D m f) (L : BitVec 64) : Reads (D.del (kl m L)) m (upd f L none) := by
  refine ⟨h.isMap.del _, fun L' => ?_, fun L' n' e z => ?_, fun k hk => ?_⟩
  · by_cases e : L' = L
    · subst e; rw [has_del_same, upd_same]; rfl
    · rw [has_del_other (fun e' => e (kl_inj e')), upd_other _ _ e, h.has]
  · by_cases e1 : L' = L
    · subst e1; rw [upd_same] at e; cases e
    · rw [upd_other _ _ e1] at e; rw [atKey_del_other (fun e' => e1 (kl_inj e')), h.at_ _ _ e]
  · by_cases e : k = kl m L
    · exact ⟨L, e⟩
    · rw [has_del_other e] at hk; exact h.keys k hk

/-! No more entries than places. -/
theorem length_filter_ne (n : Nat) : ∀ l : List Nat, l.Pairwise (· ≠ ·) → l.length ≤ (l.filter (fun x => decide (x ≠ n))).length + 1
  | [], _ => by simp
  | a :: r, h => by
    obtain ⟨h1, h2⟩ := List.pairwise_cons.1 h
    by_cases e : a = n
    · subst e
      have : r.filter (fun x => decide (x ≠ a)) = r := List.filter_eq_self.2 (fun x hx => by simpa using (h1 x hx).symm)
      rw [List.filter_cons_of_neg (by simp), this]; simp
    · have := length_filter_ne n r h2
      simp [e] at this ⊢
      omega
theorem pigeon : ∀ (N : Nat) (l : List Nat), l.Pairwise (· ≠ ·) → (∀ x ∈ l, x < N) → l.length ≤ N
  | 0, l, _, h => by
    cases l with
    | nil => simp
    | cons a r => exact absurd (h a (by simp)) (by omega)
  | N + 1, l, hp, h => by
    have h1 := length_filter_ne N l hp
    have h2 := pigeon N (l.filter (fun x => decide (x ≠ N))) (hp.filter _) (fun x hx => by
      obtain ⟨hx1, hx2⟩ := List.mem_filter.1 hx
      have := h x hx1
      have h3 : x ≠ N := by simpa using hx2
      omega)
    omega
/-- The places are places, no two lines at one. -/
structure Fits (f : BitVec 64 → Option Nat) (N : Nat) : Prop where
  lt : ∀ L n, f L = some n → n < N
  inj : ∀ L L' n, f L = some n → f L' = some n → L = L'
theorem size_fits {D : DataW Unit} {m : BitVec 64} {f : BitVec 64 → Option Nat} {N : Nat} (h : Reads D m f) (ht : ∃ es, D = .map es ∧ es.Pairwise (fun p q => p.1 ≠ q.1) ∧ ∀ p ∈ es, WideAt.IsKeyLit p.1) (hf : Fits f N) : Maps.size D ≤ N := by
  obtain ⟨es, rfl, hp, hk⟩ := ht
  have hex : ∀ p ∈ es, ∃ L n, p.1 = kl m L ∧ f L = some n := fun p hpe => by
    have hk1 : Maps.has (.map es) p.1 = true := List.any_eq_true.2 ⟨p, hpe, WideAt.sameKey_self (hk p hpe)⟩
    obtain ⟨L, hL⟩ := h.keys _ hk1
    have h1 := h.has L
    rw [← hL, hk1] at h1
    obtain ⟨n, hn⟩ := Option.isSome_iff_exists.1 h1.symm
    exact ⟨L, n, hL, hn⟩
  clear h
  have key : ∀ (l : List (Lit × DataW Unit)), l.Pairwise (fun p q => p.1 ≠ q.1) → (∀ p ∈ l, ∃ L n, p.1 = kl m L ∧ f L = some n) →
      ∃ ns : List Nat, ns.length = l.length ∧ ns.Pairwise (· ≠ ·) ∧ (∀ x ∈ ns, x < N) ∧ ∀ x ∈ ns, ∃ p ∈ l, ∃ L, p.1 = kl m L ∧ f L = some x := by
    intro l
    induction l with
    | nil => intro _ _; exact ⟨[], rfl, List.Pairwise.nil, by simp, by simp⟩
    | cons p r ih =>
      intro hp hx
      obtain ⟨h1, h2⟩ := List.pairwise_cons.1 hp
      obtain ⟨ns, e1, e2, e3, e4⟩ := ih h2 (fun q hq => hx q (by simp [hq]))
      obtain ⟨L, n, hL, hn⟩ := hx p (by simp)
      refine ⟨n :: ns, by simp [e1], List.pairwise_cons.2 ⟨fun x hxn e => ?_, e2⟩, fun x hxn => ?_, fun x hxn => ?_⟩
      · subst e
        obtain ⟨q, hq, L', hL', hn'⟩ := e4 n hxn
        exact h1 q hq (by rw [hL, hL', hf.inj _ _ _ hn hn'])
      · rcases List.mem_cons.1 hxn with rfl | hxn
        · exact hf.lt _ _ hn
        · exact e3 x hxn
      · rcases List.mem_cons.1 hxn with rfl | hxn
        · exact ⟨p, by simp, L, hL, hn⟩
        · obtain ⟨q, hq, r4⟩ := e4 x hxn
          exact ⟨q, by simp [hq], r4⟩
  obtain ⟨ns, e1, e2, e3, _⟩ := key es hp hex
  show es.length ≤ N
  rw [← e1]
  exact pigeon N ns e2 e3

/-- Block b is the map that leads each line to its place. -/
def HasMap (w : World) (b : Nat) (m : BitVec 64) (f : BitVec 64 → Option Nat) : Prop :=
  ∃ D : DataW Unit, w.ownsMap Try.prog 66 (plainElem Try.prog 3) b (Maps.size D) D ∧ Reads D m f
theorem tight {w : World} {b n : Nat} {D : DataW Unit} (h : w.ownsMap Try.prog 66 (plainElem Try.prog 3) b n D) : w.ownsMap Try.prog 66 (plainElem Try.prog 3) b (Maps.size D) D := by
  obtain ⟨es, clock, hb, F, hs, rfl⟩ := h
  exact ⟨es, clock, hb, F, by simp [Maps.size, length_sorted], rfl⟩
theorem HasMap.lt {w : World} {b : Nat} {m : BitVec 64} {f : BitVec 64 → Option Nat} (h : HasMap w b m f) : b < w.heap.size := h.elim fun _ h => h.1.lt
theorem HasMap.kept {w w' : World} {b : Nat} {m : BitVec 64} {f : BitVec 64 → Option Nat} (h : HasMap w b m f) (e : w'.heap[b]? = w.heap[b]?) : HasMap w' b m f := by
  obtain ⟨D, ⟨es, clock, hb, r⟩, hr⟩ := h
  exact ⟨D, ⟨es, clock, e.trans hb, r⟩, hr⟩
theorem hasMap_made (w : World) (m : BitVec 64) : HasMap (w.alloc (.map #[] 0)) w.heap.size m (fun _ => none) :=
  ⟨.map [], tight (World.ownsMap_made _ _ _ _), reads_none m⟩
theorem HasMap.look {w : World} {b : Nat} {m : BitVec 64} {f : BitVec 64 → Option Nat} (h : HasMap w b m f) (L : BitVec 64) :
    (Instr.lookup 56 (.map (some b)) (kv m L) true).run Try.prog w = .ok (.tuple #[.int .i64 (((f L).getD 0 : Nat) : Int), .bool (f L).isSome]) w := by
  obtain ⟨D, ho, hr⟩ := h
  obtain ⟨v, ps, hrun, hv⟩ := ho.look_ok lawK Try.underlying56 (zeroInt w) (plainElem_int Try.underlying3 (by decide)) (key_kv m L)
  rw [hrun, hr.has]
  obtain ⟨c, rfl, hc, _⟩ := plainElem_int_inv Try.underlying3 hv
  have hc1 := congrArg Prod.fst hc
  cases hf : f L with
  | none =>
    rw [atKey_of_not_has (by rw [hr.has, hf]; rfl)] at hc1
    simp at hc1
    simp [← hc1]
  | some n =>
    rw [hr.at_ L n hf] at hc1
    simp at hc1
    simp [hc1]
theorem maxLen_is : maxLen = 9223372036854775807 := by decide
theorem HasMap.put {w : World} {b : Nat} {m : BitVec 64} {f : BitVec 64 → Option Nat} (h : HasMap w b m f) {N : Nat} (hf : Fits f N) (hN : N ≤ 512) (L : BitVec 64) (n : Nat) (hn : n < 1024) :
    ∃ w', (Instr.mapUpdate 56 (.map (some b)) (kv m L) (.int .i64 (n : Nat))).run Try.prog w = .ok () w' ∧ HasMap w' b m (upd f L (some n)) ∧ w.mapTurned w' b := by
  obtain ⟨D, ho, hr⟩ := h
  have hs := size_fits hr (ho.entries lawK) hf
  obtain ⟨w', h1, h2, h3⟩ := ho.store lawK Try.underlying56 (by rw [maxLen_is]; omega) (key_kv m L) (plainElem_int Try.underlying3 (a := (n : Nat)) (WalkArith.wf_i64 (by omega)))
  exact ⟨w', h1, ⟨_, tight h2, hr.put L n⟩, h3⟩
theorem HasMap.drop {w : World} {b : Nat} {m : BitVec 64} {f : BitVec 64 → Option Nat} (h : HasMap w b m f) (L : BitVec 64) (ty : TypeId) :
    ∃ w', (Builtin.delete_ #[56, 66] ty #[.map (some b), kv m L]).run Try.prog w = .ok (.tuple #[]) w' ∧ HasMap w' b m (upd f L none) ∧ w.mapTurned w' b := by
  obtain ⟨D, ho, hr⟩ := h
  obtain ⟨w', h1, h2, h3⟩ := ho.drop lawK Try.underlying56 (key_kv m L) ty
  exact ⟨w', h1, ⟨_, tight h2, hr.del L⟩, h3⟩
end Go.Proofs.Ytpflodhnniochaa
