/-
  The memory's map from pages to their blocks. Nothing of the program's code stands here.
-/
import Derived.Test.YtnbifbllemcjfaaRamA
namespace Go.Proofs.Ytnbifbllemcjfaa
set_option linter.unusedVariables false
open Go.RowKit Go.Maps Go.WideMaps

theorem laidOutA : laidOutB Try.prog = true := by kernel_rfl
theorem rowP : (56 : TypeId) < Try.prog.types.size := of_decide_eq_true (by kernel_rfl)
theorem lawP : Keyed Try.prog 56 := Keyed.of_law (deep_law_laid laidOutA (m := 2) (by omega) rowP (by kernel_rfl) (by rw [Try.underlying56]))
theorem keyTypeP : Try.prog.keyType 56 = true := by kernel_rfl
theorem cellsP : Try.prog.cellsOf 56 = 1 := by kernel_rfl
theorem cells30 : Try.prog.cellsOf 30 = 1 := by kernel_rfl
theorem sizePos : 0 < Try.prog.types.size := of_decide_eq_true (by kernel_rfl)
theorem sizeTypes : ∃ m, Try.prog.types.size = m + 1 := ⟨Try.prog.types.size - 1, by have := sizePos; omega⟩
theorem maxLen_is : maxLen = 9223372036854775807 := by decide
theorem wf_U (x : BitVec 64) : (Lit.int .u64 (U x)).wf = true := by
  have h0 := U_lo x
  have h1 := U_hi x
  exact WalkArith.wf_u64 ⟨h0, by omega⟩
/-- A page's key, as a value and as it is read. -/
def kv (x : BitVec 64) : Value := .agg #[.int .u64 (U x)]
def kl (x : BitVec 64) : Lit := .string (keyBytes [.int .u64 (U x)])
theorem key_kv (x : BitVec 64) : keyOf Try.prog 56 (kv x) = some (kl x) := by
  obtain ⟨m, hm⟩ := sizeTypes
  unfold keyOf kv kl
  simp only [Try.underlying56]
  rw [if_pos (by simp [keyTypeP, Value.formed, Try.underlying56, cellsP]), hm]
  unfold Program.keyLits
  simp only [Try.underlying56, Value.cells]
  rw [if_pos (by simp [cellsP])]
  simp [cells30, Program.keyLits, Try.underlying30, wf_U x]
theorem isKey_kl (x : BitVec 64) : WideAt.IsKeyLit (kl x) := trivial
theorem kl_inj {x y : BitVec 64} (h : kl x = kl y) : x = y := by
  have h1 := key_kv x
  have h2 := key_kv y
  rw [← h] at h2
  have := lawP.inj h1 h2
  unfold kv at this
  simp only [Value.agg.injEq, Array.mk.injEq, List.cons.injEq, Value.int.injEq, true_and, and_true] at this
  have := congrArg B this
  rwa [B_U, B_U] at this
/-- The shape of a key. -/
theorem key_shape (key : Value) (k : Lit) (h : keyOf Try.prog 56 key = some k) (hx : ∃ x, k = kl x) : ∃ x, key = kv x ∧ k = kl x := by
  obtain ⟨x, rfl⟩ := hx
  exact ⟨x, lawP.inj h (key_kv x), rfl⟩

def ptrV : Option Nat → Value
  | none => .pointer none
  | some b => .pointer (some ⟨b, 0, none⟩)
def ptrElem : Value → Option (DataW Unit × List MemPlace)
  | .pointer none => some (.lit (.int .i64 (-1)), [])
  | .pointer (some ⟨b, 0, none⟩) => some (.lit (.int .i64 (b : Nat)), [])
  | _ => none
theorem ptrElem_mk (b : Nat) : ptrElem (.pointer (some ⟨b, 0, none⟩)) = some (.lit (.int .i64 (b : Nat)), []) := rfl
theorem ptrElem_nil : ptrElem (.pointer none) = some (.lit (.int .i64 (-1)), []) := rfl
theorem ptrElem_inv {v : Value} {z : DataW Unit × List MemPlace} (h : ptrElem v = some z) : ∃ o : Option Nat, v = ptrV o ∧ z = (.lit (.int .i64 (match o with | some b => (b : Int) | none => -1)), []) := by
  unfold ptrElem at h
  split at h
  · cases h; exact ⟨none, rfl, rfl⟩
  · cases h; rename_i b; exact ⟨some b, rfl, rfl⟩
  · cases h

/-- A function turned at one place. -/
def updF (f : Nat → Option Nat) (n : Nat) (o : Option Nat) : Nat → Option Nat := fun j => if j = n then o else f j
theorem updF_same (f : Nat → Option Nat) (n : Nat) (o : Option Nat) : updF f n o n = o := by simp [updF]
theorem updF_other (f : Nat → Option Nat) {n m : Nat} (o : Option Nat) (h : m ≠ n) : updF f n o m = f m := by simp [updF, h]
/-- The pages are the RAM's. -/
def InP (n : Nat) : Prop := 524288 ≤ n ∧ n < 524544
structure Reads (D : DataW Unit) (f : Nat → Option Nat) : Prop where
  isMap : IsMap D
  has : ∀ x : BitVec 64, Maps.has D (kl x) = (f x.toNat).isSome
  at_ : ∀ (x : BitVec 64) b, f x.toNat = some b → ∀ z, D.atKey (kl x) z = .lit (.int .i64 (b : Nat))
  keys : ∀ k, Maps.has D k = true → ∃ x, k = kl x
theorem reads_none : Reads (.map []) (fun _ => none) := ⟨isMap_empty, fun _ => rfl, fun _ _ h => by simp at h, fun _ h => by simp [Maps.has] at h⟩
theorem Reads.put {D : DataW Unit} {f : Nat → Option Nat} (h : Reads D f) (x : BitVec 64) (b : Nat) : Reads (D.put (kl x) (.lit (.int .i64 (b : Nat)))) (updF f x.toNat (some b)) := by
  refine ⟨h.isMap.put _ _, fun y => ?_, fun y n e z => ?_, fun k hk => ?_⟩
  · by_cases e : y = x
    · subst e; rw [has_put_same h.isMap (isKey_kl _), updF_same]; rfl
    · rw [has_put_other (fun e' => e (kl_inj e')), updF_other _ _ (fun e' => e (BitVec.eq_of_toNat_eq e')), h.has]
  · by_cases e1 : y = x
    · subst e1; rw [updF_same] at e; cases e; rw [atKey_put_same h.isMap (isKey_kl _)]
    · rw [updF_other _ _ (fun e' => e1 (BitVec.eq_of_toNat_eq e'))] at e; rw [atKey_put_other (fun e' => e1 (kl_inj e')), h.at_ _ _ e]
  · by_cases e : k = kl x
    · exact ⟨x, e⟩
    · rw [has_put_other e] at hk; exact h.keys k hk
/-! No more entries than pages. -/
theorem length_filter_ne (n : Nat) : ∀ l : List Nat, l.Pairwise (· ≠ ·) → l.length ≤ (l.filter (fun x => decide (x ≠ n))).length + 1
  | [], _ => by simp
  | a :: r, h => by
    obtain ⟨h1, h2⟩ := List.pairwise_cons.1 h
    by_cases e : a = n
    · subst e
      have : r.filter (fun x => decide (x ≠ a)) = r := List.filter_eq_self.2 (fun x hx => by simpa using (h1 x hx).symm)
      rw [List.filter_cons_of_neg (by simp), this]; simp
    · have := length_filter_ne n r h2
      simp [e] at this ⊢
      omega
theorem pigeon : ∀ (N : Nat) (l : List Nat), l.Pairwise (· ≠ ·) → (∀ x ∈ l, x < N) → l.length ≤ N
  | 0, l, _, h => by
    cases l with
    | nil => simp
    | cons a r => exact absurd (h a (by simp)) (by omega)
  | N + 1, l, hp, h => by
    have h1 := length_filter_ne N l hp
    have h2 := pigeon N (l.filter (fun x => decide (x ≠ N))) (hp.filter _) (fun x hx => by
      obtain ⟨hx1, hx2⟩ := List.mem_filter.1 hx
      have := h x hx1
      have h3 : x ≠ N := by simpa using hx2
      omega)
    omega
def Ents (D : DataW Unit) : Prop := ∃ es, D = .map es ∧ es.Pairwise (fun p q => p.1 ≠ q.1) ∧ ∀ p ∈ es, WideAt.IsKeyLit p.1
/-- The pages of the map, each once. -/
theorem keys_list {D : DataW Unit} {f : Nat → Option Nat} (h : Reads D f) (ht : Ents D) (hf : ∀ n b, f n = some b → InP n) :
    ∃ l : List Nat, l.Nodup ∧ l.length = Maps.size D ∧ ∀ n, n ∈ l ↔ (f n).isSome = true := by
  obtain ⟨es, rfl, hp, hkl⟩ := ht
  have hin : ∀ p ∈ es, Maps.has (.map es) p.1 = true := fun p hp => List.any_eq_true.2 ⟨p, hp, WideAt.sameKey_self (hkl p hp)⟩
  have hall : ∀ p ∈ es, ∃ x : BitVec 64, p.1 = kl x := fun p hp => h.keys _ (hin p hp)
  have key : ∀ (l : List (Lit × DataW Unit)), l.Pairwise (fun p q => p.1 ≠ q.1) → (∀ p ∈ l, ∃ x : BitVec 64, p.1 = kl x) →
      ∃ ns : List (BitVec 64), ns.length = l.length ∧ ns.Nodup ∧ ∀ x, x ∈ ns ↔ ∃ p ∈ l, p.1 = kl x := by
    intro l
    induction l with
    | nil => intro _ _; exact ⟨[], rfl, List.nodup_nil, by simp⟩
    | cons p r ih =>
      intro hp hx
      obtain ⟨h1, h2⟩ := List.pairwise_cons.1 hp
      obtain ⟨ns, e1, e2, e3⟩ := ih h2 (fun q hq => hx q (by simp [hq]))
      obtain ⟨x, hpx⟩ := hx p (by simp)
      refine ⟨x :: ns, by simp [e1], List.nodup_cons.2 ⟨fun hm => ?_, e2⟩, fun y => ?_⟩
      · obtain ⟨q, hq, hqx⟩ := (e3 x).1 hm
        exact h1 q hq (by rw [hpx, hqx])
      · constructor
        · intro hy
          rcases List.mem_cons.1 hy with rfl | hy
          · exact ⟨p, by simp, hpx⟩
          · obtain ⟨q, hq, r4⟩ := (e3 y).1 hy
            exact ⟨q, by simp [hq], r4⟩
        · rintro ⟨q, hq, hqy⟩
          rcases List.mem_cons.1 hq with rfl | hq
          · rw [hpx] at hqy; rw [kl_inj hqy]; simp
          · exact List.mem_cons_of_mem _ ((e3 y).2 ⟨q, hq, hqy⟩)
  obtain ⟨ns, e1, e2, e3⟩ := key es hp hall
  have hm : ∀ x : BitVec 64, x ∈ ns ↔ (f x.toNat).isSome = true := fun x => by
    rw [e3, ← h.has x, has_eq, List.any_eq_true]
    constructor
    · rintro ⟨p, hp', e⟩; exact ⟨p, hp', by rw [e]; exact WideAt.sameKey_self (isKey_kl x)⟩
    · rintro ⟨p, hp', hs⟩
      obtain ⟨y, hy⟩ := hall p hp'
      refine ⟨p, hp', ?_⟩
      rw [hy] at hs ⊢
      by_cases e : kl y = kl x
      · exact e
      · rw [sameKey_ne e] at hs; cases hs
  refine ⟨ns.map BitVec.toNat, ?_, by simp [Maps.size, e1], fun n => ?_⟩
  · exact List.pairwise_map.2 (e2.imp fun {a b} hab e => hab (BitVec.eq_of_toNat_eq e))
  · rw [List.mem_map]
    constructor
    · rintro ⟨x, hx, rfl⟩; exact (hm x).1 hx
    · intro hn
      obtain ⟨b, hb⟩ := Option.isSome_iff_exists.1 hn
      have := hf n b hb
      unfold InP at this
      refine ⟨BitVec.ofNat 64 n, (hm _).2 ?_, ?_⟩
      · rw [BitVec.toNat_ofNat, Nat.mod_eq_of_lt (by omega)]; exact hn
      · rw [BitVec.toNat_ofNat, Nat.mod_eq_of_lt (by omega)]
theorem size_le {D : DataW Unit} {f : Nat → Option Nat} (h : Reads D f) (ht : Ents D) (hf : ∀ n b, f n = some b → InP n) : Maps.size D ≤ 256 := by
  obtain ⟨l, hn, hl, hm⟩ := keys_list h ht hf
  rw [← hl, ← List.length_map (f := fun n => n - 524288)]
  have hin : ∀ n ∈ l, InP n := fun n hn' => by
    obtain ⟨b, hb⟩ := Option.isSome_iff_exists.1 ((hm n).1 hn')
    exact hf n b hb
  have hp : (l.map fun n => n - 524288).Pairwise (· ≠ ·) := List.pairwise_map.2 (hn.imp_of_mem fun {a b} ha hb hab e => hab (by
    have h1 := hin a ha
    have h2 := hin b hb
    unfold InP at h1 h2
    omega))
  refine pigeon 256 _ hp fun x hx => ?_
  · obtain ⟨n, hn', rfl⟩ := List.mem_map.1 hx
    have := hin n hn'
    unfold InP at this
    omega

/-- Block b is the map that leads each page to its block. -/
def HasMap (w : World) (b : Nat) (f : Nat → Option Nat) : Prop :=
  ∃ D : DataW Unit, w.ownsMap Try.prog 56 ptrElem b (Maps.size D) D ∧ Reads D f
theorem tightM {w : World} {b n : Nat} {R : Value → Option (DataW Unit × List MemPlace)} {D : DataW Unit} (h : w.ownsMap Try.prog 56 R b n D) : w.ownsMap Try.prog 56 R b (Maps.size D) D := by
  obtain ⟨es, clock, hb, F, hs, rfl⟩ := h
  exact ⟨es, clock, hb, F, by simp [Maps.size, length_sorted], rfl⟩
theorem HasMap.lt {w : World} {b : Nat} {f : Nat → Option Nat} (h : HasMap w b f) : b < w.heap.size := h.elim fun _ h => h.1.lt
theorem HasMap.kept {w w' : World} {b : Nat} {f : Nat → Option Nat} (h : HasMap w b f) (e : w'.heap[b]? = w.heap[b]?) : HasMap w' b f := by
  obtain ⟨D, ⟨es, clock, hb, r⟩, hr⟩ := h
  exact ⟨D, ⟨es, clock, e.trans hb, r⟩, hr⟩
theorem HasMap.isMap {w : World} {b : Nat} {f : Nat → Option Nat} (h : HasMap w b f) : ∃ es c, w.heap[b]? = some (.map es c) := by
  obtain ⟨D, ⟨es, clock, hb, r⟩, hr⟩ := h
  exact ⟨es, clock, hb⟩
theorem hasMap_made (w : World) : HasMap (w.alloc (.map #[] 0)) w.heap.size (fun _ => none) :=
  ⟨.map [], tightM (World.ownsMap_made _ _ _ _), reads_none⟩
theorem zeroPtr (w : World) : (zeroValue 57).run Try.prog w = .ok (.pointer none) w := by kernel_rfl
theorem HasMap.look {w : World} {b : Nat} {f : Nat → Option Nat} (h : HasMap w b f) (x : BitVec 64) :
    (Instr.lookup 47 (.map (some b)) (kv x) false).run Try.prog w = .ok (ptrV (f x.toNat)) w := by
  obtain ⟨D, ho, hr⟩ := h
  obtain ⟨v, ps, hrun, hv⟩ := ho.lookup lawP Try.underlying47 (zeroPtr w) ptrElem_nil (key_kv x)
  rw [hrun]
  obtain ⟨o, rfl, hz⟩ := ptrElem_inv hv
  have hz1 := (Prod.mk.inj hz).1
  cases hf : f x.toNat with
  | none =>
    rw [atKey_of_not_has (by rw [hr.has, hf]; rfl)] at hz1
    cases o with
    | none => rfl
    | some b => simp at hz1
  | some n =>
    rw [hr.at_ x n hf] at hz1
    cases o with
    | none => simp at hz1
    | some b =>
      simp at hz1
      have : n = b := by omega
      rw [this]
theorem HasMap.put {w : World} {b : Nat} {f : Nat → Option Nat} (h : HasMap w b f) (hf : ∀ n b, f n = some b → InP n) (x : BitVec 64) (n : Nat) :
    ∃ w', (Instr.mapUpdate 47 (.map (some b)) (kv x) (.pointer (some ⟨n, 0, none⟩))).run Try.prog w = .ok () w' ∧ HasMap w' b (updF f x.toNat (some n)) ∧ w.mapTurned w' b := by
  obtain ⟨D, ho, hr⟩ := h
  have hs := size_le hr (ho.entries lawP) hf
  obtain ⟨w', h1, h2, h3⟩ := ho.store lawP Try.underlying47 (by rw [maxLen_is]; omega) (key_kv x) (ptrElem_mk n)
  exact ⟨w', h1, ⟨_, tightM h2, hr.put x n⟩, h3⟩
end Go.Proofs.Ytnbifbllemcjfaa
