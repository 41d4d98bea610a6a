/-
  The queue's map from tags to entries, and an entry's set of registers, told by plain functions. Nothing of the program's code stands here.
-/
import Derived.Test.YtaeggnnijafooaaKept
import Derived.Test.YtaeggnnijafooaaIssueP
namespace Go.Proofs.Ytaeggnnijafooaa
set_option linter.unusedVariables false
open Go.RowKit Go.Maps

theorem lawI : Keyed Try.prog 3 := int_keyed Try.underlying3
theorem wf_i (x : Int) : (Lit.int .i64 x).wf = true ↔ -9223372036854775808 ≤ x ∧ x ≤ 9223372036854775807 := by
  constructor
  · intro h
    have h1 : IntKind.i64.min = -9223372036854775808 := by decide
    simp [Lit.wf] at h
    omega
  · intro h
    exact WalkArith.wf_i64 h
theorem key_i {x : Int} (h : (Lit.int .i64 x).wf = true) : keyOf Try.prog 3 (.int .i64 x) = some (.int .i64 x) := keyOf_int_mk Try.underlying3 h
theorem isKey_i (x : Int) : WideAt.IsKeyLit (.int .i64 x) := trivial
theorem same_i (x y : Int) : (Lit.int .i64 x).sameKey (.int .i64 y) = decide (x = y) := by
  by_cases h : x = y
  · subst h; rw [WideAt.sameKey_self (isKey_i _)]; simp
  · rw [sameKey_ne (fun e => h (by cases e; rfl))]; simp [h]

def Ents (D : DataW Unit) : Prop := ∃ es, D = .map es ∧ es.Pairwise (fun p q => p.1 ≠ q.1) ∧ ∀ p ∈ es, WideAt.IsKeyLit p.1
/-! A set of numbers. -/
structure ReadsS (D : DataW Unit) (f : Int → Bool) : Prop where
  isMap : IsMap D
  has : ∀ k, Maps.has D (.int .i64 k) = f k
  keys : ∀ k, Maps.has D k = true → ∃ x, k = .int .i64 x ∧ (Lit.int .i64 x).wf = true
theorem readsS_none : ReadsS (.map []) (fun _ => false) := ⟨isMap_empty, fun _ => rfl, fun _ h => by simp [Maps.has] at h⟩
theorem ReadsS.put {D : DataW Unit} {f : Int → Bool} (h : ReadsS D f) {k : Int} (hk : (Lit.int .i64 k).wf = true) (d : DataW Unit) : ReadsS (D.put (.int .i64 k) d) (fun x => f x || decide (x = k)) := by
  refine ⟨h.isMap.put _ _, fun x => ?_, fun y hy => ?_⟩
  · by_cases e : x = k
    · subst e; rw [has_put_same h.isMap (isKey_i _)]; simp
    · rw [has_put_other (fun e' => e (by cases e'; rfl)), h.has]; simp [e]
  · by_cases e : y = .int .i64 k
    · exact ⟨k, e, hk⟩
    · rw [has_put_other e] at hy; exact h.keys y hy
theorem ReadsS.del {D : DataW Unit} {f : Int → Bool} (h : ReadsS D f) (k : Int) : ReadsS (D.del (.int .i64 k)) (fun x => f x && !decide (x = k)) := by
  refine ⟨h.isMap.del _, fun x => ?_, fun y hy => ?_⟩
  · by_cases e : x = k
    · subst e; rw [has_del_same]; simp
    · rw [has_del_other (fun e' => e (by cases e'; rfl)), h.has]; simp [e]
  · by_cases e : y = .int .i64 k
    · subst e; rw [has_del_same] at hy; cases hy
    · rw [has_del_other e] at hy; exact h.keys y hy
def HasSet (w : World) (b : Nat) (f : Int → Bool) : Prop :=
  ∃ D : DataW Unit, w.ownsMap Try.prog 3 (unitElem (H := Unit)) b (Maps.size D) D ∧ ReadsS D f
theorem tightM {w : World} {b n : Nat} {R : Value → Option (DataW Unit × List MemPlace)} {D : DataW Unit} (h : w.ownsMap Try.prog 3 R b n D) : w.ownsMap Try.prog 3 R b (Maps.size D) D := by
  obtain ⟨es, clock, hb, F, hs, rfl⟩ := h
  exact ⟨es, clock, hb, F, by simp [Maps.size, length_sorted], rfl⟩
theorem HasSet.lt {w : World} {b : Nat} {f : Int → Bool} (h : HasSet w b f) : b < w.heap.size := h.elim fun _ h => h.1.lt
theorem HasSet.kept {w w' : World} {b : Nat} {f : Int → Bool} (h : HasSet w b f) (e : w'.heap[b]? = w.heap[b]?) : HasSet w' b f := by
  obtain ⟨D, ⟨es, clock, hb, r⟩, hr⟩ := h
  exact ⟨D, ⟨es, clock, e.trans hb, r⟩, hr⟩
theorem HasSet.same {w : World} {b : Nat} {f g : Int → Bool} (h : HasSet w b f) (e : ∀ k, f k = g k) : HasSet w b g := by
  have : f = g := funext e
  rwa [← this]
theorem hasSet_made (w : World) : HasSet (w.alloc (.map #[] 0)) w.heap.size (fun _ => false) :=
  ⟨.map [], tightM (World.ownsMap_made _ _ _ _), readsS_none⟩
theorem zeroUnit (w : World) : (zeroValue 59).run Try.prog w = .ok (.agg #[]) w := by kernel_rfl
theorem HasSet.look {w : World} {b : Nat} {f : Int → Bool} (h : HasSet w b f) {k : Int} (hk : (Lit.int .i64 k).wf = true) :
    (Instr.lookup 55 (.map (some b)) (.int .i64 k) true).run Try.prog w = .ok (.tuple #[.agg #[], .bool (f k)]) w := by
  obtain ⟨D, ho, hr⟩ := h
  obtain ⟨v, ps, hrun, hv⟩ := ho.look_ok lawI Try.underlying55 (zeroUnit w) unitElem_mk (key_i hk)
  obtain ⟨rfl, _⟩ := unitElem_inv hv
  rw [hrun, hr.has]
/-- .. of at most n. -/
def HasSetN (w : World) (b n : Nat) (f : Int → Bool) : Prop :=
  ∃ D : DataW Unit, w.ownsMap Try.prog 3 (unitElem (H := Unit)) b n D ∧ ReadsS D f
theorem HasSetN.tight {w : World} {b n : Nat} {f : Int → Bool} (h : HasSetN w b n f) : HasSet w b f := h.elim fun D h => ⟨D, tightM h.1, h.2⟩
theorem hasSetN_made (w : World) : HasSetN (w.alloc (.map #[] 0)) w.heap.size 0 (fun _ => false) :=
  ⟨.map [], World.ownsMap_made _ _ _ _, readsS_none⟩
theorem HasSetN.kept {w w' : World} {b n : Nat} {f : Int → Bool} (h : HasSetN w b n f) (e : w'.heap[b]? = w.heap[b]?) : HasSetN w' b n f := by
  obtain ⟨D, ⟨es, clock, hb, r⟩, hr⟩ := h
  exact ⟨D, ⟨es, clock, e.trans hb, r⟩, hr⟩
theorem HasSetN.same {w : World} {b n : Nat} {f g : Int → Bool} (h : HasSetN w b n f) (e : ∀ k, f k = g k) : HasSetN w b n g := by
  have : f = g := funext e
  rwa [← this]
theorem HasSetN.mono {w : World} {b n m : Nat} {f : Int → Bool} (h : HasSetN w b n f) (hm : n ≤ m) : HasSetN w b m f := h.elim fun D h => ⟨D, h.1.mono hm, h.2⟩
theorem HasSetN.put {w : World} {b n : Nat} {f : Int → Bool} (h : HasSetN w b n f) {k : Int} (hk : (Lit.int .i64 k).wf = true) (hn : n < 1000) :
    ∃ w', (Instr.mapUpdate 55 (.map (some b)) (.int .i64 k) (.agg #[])).run Try.prog w = .ok () w' ∧ HasSetN w' b (n + 1) (fun x => f x || decide (x = k)) ∧ w.mapTurned w' b := by
  obtain ⟨D, ho, hr⟩ := h
  obtain ⟨w', h1, h2, h3⟩ := ho.store lawI Try.underlying55 (by unfold maxLen; omega) (key_i hk) unitElem_mk
  exact ⟨w', h1, ⟨_, h2, hr.put hk _⟩, h3⟩
theorem HasSet.drop {w : World} {b : Nat} {f : Int → Bool} (h : HasSet w b f) {k : Int} (hk : (Lit.int .i64 k).wf = true) (ty : TypeId) :
    ∃ w', (Builtin.delete_ #[55, 3] ty #[.map (some b), .int .i64 k]).run Try.prog w = .ok (.tuple #[]) w' ∧ HasSet w' b (fun x => f x && !decide (x = k)) ∧ w.mapTurned w' b := by
  obtain ⟨D, ho, hr⟩ := h
  obtain ⟨w', h1, h2, h3⟩ := ho.drop lawI Try.underlying55 (key_i hk) ty
  exact ⟨w', h1, ⟨_, tightM h2, hr.del k⟩, h3⟩
def litI : Lit → Int
  | .int _ x => x
  | _ => 0
/-- The numbers of a set, each once. -/
theorem keys_list {D : DataW Unit} {f : Int → Bool} (hm : ∀ k, Maps.has D (.int .i64 k) = f k) (hk : ∀ k, Maps.has D k = true → ∃ x, k = .int .i64 x ∧ (Lit.int .i64 x).wf = true) (ht : Ents D) :
    ∃ l : List Int, l.Nodup ∧ l.length = Maps.size D ∧ ∀ x, x ∈ l ↔ f x = true := by
  obtain ⟨es, rfl, hp, hkl⟩ := ht
  have hin : ∀ p ∈ es, WideAt.IsKeyLit p.1 → Maps.has (.map es) p.1 = true := fun p hp hk => List.any_eq_true.2 ⟨p, hp, WideAt.sameKey_self hk⟩
  have hall : ∀ p ∈ es, ∃ x, p.1 = .int .i64 x := by
    intro p hpe
    obtain ⟨x, hx, _⟩ := hk _ (hin p hpe (hkl p hpe))
    exact ⟨x, hx⟩
  refine ⟨es.map fun p => litI p.1, ?_, by simp [Maps.size], fun x => ?_⟩
  · refine List.pairwise_map.2 (hp.imp_of_mem fun {p q} hp' hq' hne e => hne ?_)
    obtain ⟨a, ha⟩ := hall p hp'
    obtain ⟨b, hb⟩ := hall q hq'
    rw [ha, hb] at e ⊢
    exact congrArg _ e
  · rw [← hm x, has_eq, List.any_eq_true, List.mem_map]
    constructor
    · rintro ⟨p, hp', rfl⟩
      obtain ⟨a, ha⟩ := hall p hp'
      exact ⟨p, hp', by rw [ha]; exact (same_i _ _).trans (by simp [litI])⟩
    · rintro ⟨p, hp', hs⟩
      obtain ⟨a, ha⟩ := hall p hp'
      rw [ha, same_i] at hs
      exact ⟨p, hp', by rw [ha]; simpa [litI] using hs⟩

/-! The map from tags to entries. -/
def elemD (u : Int) (o : Option Nat) : DataW Unit := .agg [.lit (.int .i64 u), .lit (.int .i64 (match o with | some b => (b : Int) | none => -1))]
theorem elemD_inj {u u' : Int} {o o' : Option Nat} (h : elemD u o = elemD u' o') : u = u' ∧ o = o' := by
  unfold elemD at h
  simp at h
  refine ⟨h.1, ?_⟩
  cases o <;> cases o' <;> simp at h ⊢ <;> omega
def mkE (c : Int × Option Nat) : Value := .agg #[.int .i64 c.1, .map c.2]
def entryElem : Value → Option (DataW Unit × List MemPlace)
  | .agg cs =>
    match cs.toList with
    | [.int .i64 u, .map o] => some (elemD u o, [])
    | _ => none
  | _ => none
theorem entryElem_mk (u : Int) (o : Option Nat) : entryElem (.agg #[.int .i64 u, .map o]) = some (elemD u o, []) := rfl
theorem entryElem_inv {v : Value} {z : DataW Unit × List MemPlace} (h : entryElem v = some z) : ∃ u o, v = .agg #[.int .i64 u, .map o] ∧ z = (elemD u o, []) := by
  unfold entryElem at h
  split at h
  · rename_i cs
    split at h
    · rename_i u o hcs
      cases h
      refine ⟨u, o, ?_, rfl⟩
      rw [← Array.toArray_toList (xs := cs), hcs]
    · cases h
  · cases h
structure ReadsQ (D : DataW Unit) (s : List En) (bl : Int → Nat) : Prop where
  isMap : IsMap D
  has : ∀ k, Maps.has D (.int .i64 k) = hasT s k
  at_ : ∀ e ∈ s, ∀ z, D.atKey (.int .i64 e.tag) z = elemD e.unit (some (bl e.tag))
  keys : ∀ k, Maps.has D k = true → ∃ x, k = .int .i64 x ∧ (Lit.int .i64 x).wf = true
def HasQ (w : World) (b : Nat) (s : List En) (bl : Int → Nat) : Prop :=
  ∃ D : DataW Unit, w.ownsMap Try.prog 3 entryElem b (Maps.size D) D ∧ ReadsQ D s bl
theorem HasQ.lt {w : World} {b : Nat} {s : List En} {bl : Int → Nat} (h : HasQ w b s bl) : b < w.heap.size := h.elim fun _ h => h.1.lt
theorem HasQ.kept {w w' : World} {b : Nat} {s : List En} {bl : Int → Nat} (h : HasQ w b s bl) (e : w'.heap[b]? = w.heap[b]?) : HasQ w' b s bl := by
  obtain ⟨D, ⟨es, clock, hb, r⟩, hr⟩ := h
  exact ⟨D, ⟨es, clock, e.trans hb, r⟩, hr⟩
theorem hasQ_made (w : World) (bl : Int → Nat) : HasQ (w.alloc (.map #[] 0)) w.heap.size [] bl :=
  ⟨.map [], tightM (World.ownsMap_made _ _ _ _), isMap_empty, fun _ => rfl, fun _ h => by simp at h, fun _ h => by simp [Maps.has] at h⟩
theorem size_q {D : DataW Unit} {s : List En} {bl : Int → Nat} (h : ReadsQ D s bl) (he : Ents D) (hs : Sorted s) : Maps.size D = s.length := by
  obtain ⟨l, hn, hl, hm⟩ := keys_list (f := fun k => hasT s k) h.has h.keys he
  rw [← hl, ← length_tags]
  exact perm_length hn ((sorted_tags hs).imp fun {a b} hab => by omega) fun x => by rw [hm, mem_tags]
theorem HasQ.len {w : World} {b : Nat} {s : List En} {bl : Int → Nat} (h : HasQ w b s bl) (hs : Sorted s) (ty : TypeId) :
    (Builtin.len_ #[50] ty #[.map (some b)]).run Try.prog w = .ok (.int .i64 (s.length : Nat)) w := by
  obtain ⟨D, ho, hr⟩ := h
  rw [ho.len Try.underlying50 ty, size_q hr (ho.entries lawI) hs]
theorem HasSet.len {w : World} {b : Nat} {e : En} (h : HasSet w b (waits e)) (ty : TypeId) :
    ∃ n : Nat, (Builtin.len_ #[55] ty #[.map (some b)]).run Try.prog w = .ok (.int .i64 n) w ∧ (n = 0 ↔ ready e = true) := by
  obtain ⟨D, ho, hr⟩ := h
  refine ⟨_, ho.len Try.underlying55 ty, ?_⟩
  obtain ⟨l, hn, hl, hm⟩ := keys_list hr.has hr.keys (ho.entries lawI)
  rw [← hl, ready_iff]
  constructor
  · intro h k
    have : l = [] := List.eq_nil_of_length_eq_zero h
    subst this
    have := hm k
    simp at this
    exact this
  · intro h
    cases l with
    | nil => rfl
    | cons x r => have := (hm x).1 (by simp); rw [h] at this; cases this
theorem zeroEntry (w : World) : (zeroValue 57).run Try.prog w = .ok (.agg #[.int .i64 0, .map none]) w := by kernel_rfl
def entU (s : List En) (k : Int) : Int := match s.find? (fun e => decide (e.tag = k)) with | some e => e.unit | none => 0
def entB (s : List En) (bl : Int → Nat) (k : Int) : Option Nat := match s.find? (fun e => decide (e.tag = k)) with | some e => some (bl e.tag) | none => none
theorem ent_find {s : List En} {k : Int} : (hasT s k = true ∧ ∃ e ∈ s, e.tag = k ∧ s.find? (fun e => decide (e.tag = k)) = some e) ∨ (hasT s k = false ∧ s.find? (fun e => decide (e.tag = k)) = none) := by
  cases hf : s.find? (fun e => decide (e.tag = k)) with
  | some e =>
    have h1 := List.find?_some hf
    have h2 := List.mem_of_find?_eq_some hf
    have h3 : e.tag = k := by simpa using h1
    exact .inl ⟨hasT_iff.2 ⟨e, h2, h3⟩, e, h2, h3, rfl⟩
  | none =>
    refine .inr ⟨?_, rfl⟩
    rw [List.find?_eq_none] at hf
    cases hh : hasT s k
    · rfl
    · obtain ⟨e, he, hek⟩ := hasT_iff.1 hh
      exact absurd hek (by simpa using hf e he)
theorem HasQ.look {w : World} {b : Nat} {s : List En} {bl : Int → Nat} (h : HasQ w b s bl) {k : Int} (hk : (Lit.int .i64 k).wf = true) :
    (Instr.lookup 50 (.map (some b)) (.int .i64 k) true).run Try.prog w = .ok (.tuple #[.agg #[.int .i64 (entU s k), .map (entB s bl k)], .bool (hasT s k)]) w := by
  obtain ⟨D, ho, hr⟩ := h
  obtain ⟨v, ps, hrun, hv⟩ := ho.look_ok lawI Try.underlying50 (zeroEntry w) (entryElem_mk _ _) (key_i hk)
  obtain ⟨u, o, rfl, hz⟩ := entryElem_inv hv
  rw [hrun, hr.has]
  rcases ent_find (s := s) (k := k) with ⟨hh, e, he, rfl, hf⟩ | ⟨hh, hf⟩
  · rw [hr.at_ e he] at hz
    have h1 := elemD_inj (Prod.mk.inj hz).1
    unfold entU entB
    rw [hf, ← h1.1, ← h1.2]
  · rw [atKey_of_not_has (by rw [hr.has]; exact hh)] at hz
    have h1 := elemD_inj (Prod.mk.inj hz).1
    unfold entU entB
    rw [hf, ← h1.1, ← h1.2]
theorem HasQ.get {w : World} {b : Nat} {s : List En} {bl : Int → Nat} (h : HasQ w b s bl) {e : En} (he : e ∈ s) (hk : (Lit.int .i64 e.tag).wf = true) :
    (Instr.lookup 50 (.map (some b)) (.int .i64 e.tag) false).run Try.prog w = .ok (.agg #[.int .i64 e.unit, .map (some (bl e.tag))]) w := by
  obtain ⟨D, ho, hr⟩ := h
  obtain ⟨v, ps, hrun, hv⟩ := ho.lookup lawI Try.underlying50 (zeroEntry w) (entryElem_mk _ _) (key_i hk)
  obtain ⟨u, o, rfl, hz⟩ := entryElem_inv hv
  rw [hr.at_ e he] at hz
  have h1 := elemD_inj (Prod.mk.inj hz).1
  rw [hrun, ← h1.1, ← h1.2]
theorem HasQ.put {w : World} {b : Nat} {s : List En} {bl : Int → Nat} (h : HasQ w b s bl) (hs : Sorted s) (hl : s.length < 1000) (u : En) (hn : hasT s u.tag = false) (hk : (Lit.int .i64 u.tag).wf = true) (B : Nat) :
    ∃ w', (Instr.mapUpdate 50 (.map (some b)) (.int .i64 u.tag) (.agg #[.int .i64 u.unit, .map (some B)])).run Try.prog w = .ok () w' ∧ HasQ w' b (insS u s) (fun t => if t = u.tag then B else bl t) ∧ w.mapTurned w' b := by
  obtain ⟨D, ho, hr⟩ := h
  have hz := size_q hr (ho.entries lawI) hs
  obtain ⟨w', h1, h2, h3⟩ := ho.store lawI Try.underlying50 (by unfold maxLen; omega) (key_i hk) (entryElem_mk u.unit (some B))
  refine ⟨w', h1, ⟨_, tightM h2, hr.isMap.put _ _, fun x => ?_, fun e he z => ?_, fun y hy => ?_⟩, h3⟩
  · by_cases e : x = u.tag
    · subst e; rw [has_put_same hr.isMap (isKey_i _)]; exact (hasT_iff.2 ⟨u, mem_insS.2 (.inl rfl), rfl⟩).symm
    · rw [has_put_other (fun e' => e (by cases e'; rfl)), hr.has, Bool.eq_iff_iff, hasT_iff, hasT_iff]
      constructor
      · rintro ⟨y, hy, hyx⟩; exact ⟨y, mem_insS.2 (.inr hy), hyx⟩
      · rintro ⟨y, hy, hyx⟩
        rcases mem_insS.1 hy with rfl | hy
        · exact absurd hyx.symm e
        · exact ⟨y, hy, hyx⟩
  · rcases mem_insS.1 he with rfl | he
    · rw [atKey_put_same hr.isMap (isKey_i _), if_pos rfl]
    · have hne : e.tag ≠ u.tag := fun e' => by
        rw [hasT_iff.2 ⟨e, he, e'⟩] at hn; cases hn
      rw [atKey_put_other (fun e' => hne (by injection e')), hr.at_ e he, if_neg hne]
  · by_cases e : y = .int .i64 u.tag
    · exact ⟨_, e, hk⟩
    · rw [has_put_other e] at hy; exact hr.keys y hy
theorem hasT_filter (s : List En) (k x : Int) : hasT (s.filter fun e => !decide (e.tag = k)) x = (hasT s x && !decide (x = k)) := by
  rw [Bool.eq_iff_iff, hasT_iff]
  simp only [Bool.and_eq_true, hasT_iff, List.mem_filter]
  constructor
  · rintro ⟨e, ⟨h1, h2⟩, rfl⟩; exact ⟨⟨e, h1, rfl⟩, h2⟩
  · rintro ⟨⟨e, h1, rfl⟩, h2⟩; exact ⟨e, ⟨h1, h2⟩, rfl⟩
theorem HasQ.drop {w : World} {b : Nat} {s : List En} {bl : Int → Nat} (h : HasQ w b s bl) {k : Int} (hk : (Lit.int .i64 k).wf = true) (ty : TypeId) :
    ∃ w', (Builtin.delete_ #[50, 3] ty #[.map (some b), .int .i64 k]).run Try.prog w = .ok (.tuple #[]) w' ∧ HasQ w' b (s.filter fun e => !decide (e.tag = k)) bl ∧ w.mapTurned w' b := by
  obtain ⟨D, ho, hr⟩ := h
  obtain ⟨w', h1, h2, h3⟩ := ho.drop lawI Try.underlying50 (key_i hk) ty
  refine ⟨w', h1, ⟨_, tightM h2, hr.isMap.del _, fun x => ?_, fun e he z => ?_, fun y hy => ?_⟩, h3⟩
  · rw [hasT_filter]
    by_cases e : x = k
    · subst e; rw [has_del_same]; simp
    · rw [has_del_other (fun e' => e (by cases e'; rfl)), hr.has]; simp [e]
  · obtain ⟨he1, he2⟩ := List.mem_filter.1 he
    have hne : e.tag ≠ k := by simpa using he2
    rw [atKey_del_other (fun e' => hne (by injection e')), hr.at_ e he1]
  · by_cases e : y = .int .i64 k
    · subst e; rw [has_del_same] at hy; cases hy
    · rw [has_del_other e] at hy; exact hr.keys y hy
/-- The tags of a map are such as a word holds. -/
theorem HasQ.wf {w : World} {b : Nat} {s : List En} {bl : Int → Nat} (h : HasQ w b s bl) {e : En} (he : e ∈ s) : (Lit.int .i64 e.tag).wf = true := by
  obtain ⟨D, ho, hr⟩ := h
  obtain ⟨x, h1, h2⟩ := hr.keys (.int .i64 e.tag) (by rw [hr.has]; exact hasT_iff.2 ⟨e, he, rfl⟩)
  cases h1
  exact h2
end Go.Proofs.Ytaeggnnijafooaa
