/-
  CacheOnce: the loop's body, taken out of the program's own text; what holds at its head.
-/
import Derived.Test.YtpflodhnniochaaOnceE
namespace Go.Proofs.Ytpflodhnniochaa
set_option linter.unusedVariables false
open Go.RowKit Go.Maps

/-- The first loop of a text. -/
def firstLoop : Code → Option Code
  | .loop c => some c
  | .seq a b => match firstLoop a with
    | some c => some c
    | none => firstLoop b
  | .block _ c => firstLoop c
  | .scope c => firstLoop c
  | .cond _ a b => match firstLoop a with
    | some c => some c
    | none => firstLoop b
  | _ => none
noncomputable def onceBody : Code := (Try.f5.body.bind firstLoop).getD .skip
/-- What holds at the loop's head. -/
structure Ost (W : World) (sh : Array Value) (sets ways ns : Nat) (g : G) (mt mp : Nat) (s : St) (T P : BitVec 64 → Nat) (w : World) : Prop where
  wd : Wd W sh g mt mp s T P w
  law : Law s T P
  sets : s.sets = sets
  ways : s.ways = ways
  ns : s.ns = ns
section
variable {W : World} {sh : Array Value} {sets ways ns : Nat} {g : G} {mt mp : Nat} {s : St} {T P : BitVec 64 → Nat} {w w' : World}
theorem Ost.still (h : Ost W sh sets ways ns g mt mp s T P w) (k : Still w w') : Ost W sh sets ways ns g mt mp s T P w' := ⟨h.wd.still k, h.law, h.sets, h.ways, h.ns⟩
theorem Ost.drew (h : Ost W sh sets ways ns g mt mp s T P w) : Ost W sh sets ways ns g mt mp s T P w.drew := h.still ((Kept.refl _ w).drew)
theorem Ost.lens (h : Ost W sh sets ways ns g mt mp s T P w) : ∃ nT : Nat, (nT : Int) ≤ ((sets * ways : Nat) : Int) ∧ nT ≤ 512 ∧ (∀ ty, (Builtin.len_ #[51] ty #[.map (some mt)]).run Try.prog w = .ok (.int .i64 (nT : Int)) w) := by
  obtain ⟨nT, hn⟩ := h.wd.tm.num
  have h1 := (law_few h.law).num hn
  have h2 := h.law.fewT.num hn
  refine ⟨nT, ?_, h2, fun ty => h.wd.tm.size hn ty⟩
  unfold St.n at h1
  rw [h.sets, h.ways] at h1
  omega
theorem Ost.lenp (h : Ost W sh sets ways ns g mt mp s T P w) (ty : TypeId) : (Builtin.len_ #[51] ty #[.map (some mp)]).run Try.prog w = .ok (.int .i64 ((underS s s.ns : Nat) : Int)) w :=
  h.wd.pm.size (law_num h.law) ty
theorem mul_sw {sets ways ns delay : Nat} (h : Fine sets ways ns delay) : IntKind.i64.wrap ((sets : Int) * (ways : Int)) = ((sets * ways : Nat) : Int) := by
  have h1 := (ok_new (seed := 0#64) h).n_le
  have h2 : sets * ways ≤ 512 := h1.2
  rw [← Int.natCast_mul, IntKind.wrap_i64]
  omega
end
theorem few_runP {q : TP} {N : Nat} (h : Few q.2 N) : ∀ (ds : List Dn), Few (run q ds).2 N := by
  intro ds
  induction ds generalizing q with
  | nil => exact h
  | cons d r ih => exact ih (q := doD q d) (h.del _)
theorem run_take {q : TP} {ds : List Dn} {j : Nat} {d : Dn} (h : ds[j]? = some d) : run q (ds.take (j + 1)) = doD (run q (ds.take j)) d := by
  rw [List.take_add_one, h]
  exact run_snoc _ _ _
theorem dn_at3 : ∀ (ds : List Dn) (k : Nat) (e : Dn), ds[k]? = some e → (dnCells ds)[k * 3 + 2]? = some (.bool e.written)
  | [], k, e, h => by simp at h
  | d :: r, 0, e, h => by
    simp at h
    subst h
    rfl
  | d :: r, k + 1, e, h => by
    have := dn_at3 r k e (by simpa using h)
    have e1 : (k + 1) * 3 + 2 = k * 3 + 2 + 1 + 1 + 1 := by omega
    rw [e1]
    exact this
/-- Only the law's two maps are turned. -/
def Two2 (mt mp : Nat) : Nat → Prop := fun x => x = mt ∨ x = mp
section
variable {W : World} {sh : Array Value} {g : G} {mt mp : Nat} {s : St} {T P : BitVec 64 → Nat} {w w' w2 : World}
theorem Kept.turnT (h : Kept (Two2 mt mp) w w') (t : w'.mapTurned w2 mt) : Kept (Two2 mt mp) w w2 := h.turned t (.inl (.inl rfl))
theorem Kept.turnP (h : Kept (Two2 mt mp) w w') (t : w'.mapTurned w2 mp) : Kept (Two2 mt mp) w w2 := h.turned t (.inl (.inr rfl))
end
noncomputable def putU (b : Nat) (A : BitVec 64) (n : Nat) : Sem Unit := Instr.mapUpdate 51 (.map (some b)) (.int .u64 (U A)) (.int .i64 (n : Nat))
theorem Wd.putA {W : World} {sh : Array Value} {g : G} {mt mp : Nat} {s : St} {T P : BitVec 64 → Nat} {w : World} (a : Apt W g mt mp) (h : Wd W sh g mt mp s T P w) {N : Nat} (hf : Few T N) (hN : N ≤ 1024) (A : BitVec 64) {n : Nat} (hn : n ≠ 0) (hn2 : n ≤ 2) :
    (Instr.mapUpdate 51 (.map (some mt)) (.int .u64 (U A)) (.int .i64 (n : Nat))).run Try.prog w = .ok () (after (putU mt A n) w) ∧ Wd W sh g mt mp s (updN T A n) P (after (putU mt A n) w) ∧ w.mapTurned (after (putU mt A n) w) mt := by
  obtain ⟨w', h1, h2, h3⟩ := h.putT a hf hN A hn hn2
  have e : after (putU mt A n) w = w' := after_eq h1
  rw [e]
  exact ⟨h1, h2, h3⟩
theorem do_le2 {q : TP} (h1 : ∀ A, q.1 A ≤ 2) (h2 : ∀ A, q.2 A ≤ 2) (d : Dn) : (∀ A, (doD q d).1 A ≤ 2) ∧ ∀ A, (doD q d).2 A ≤ 2 := by
  constructor
  · intro A
    unfold doD updN
    simp only []
    split
    · exact h2 _
    · split
      · exact h1 _
      · show (if A = d.out then 0 else q.1 A) ≤ 2
        split
        · omega
        · exact h1 _
  · intro A
    unfold doD updN
    simp only []
    split
    · omega
    · exact h2 _
theorem run_le2 {q : TP} (h1 : ∀ A, q.1 A ≤ 2) (h2 : ∀ A, q.2 A ≤ 2) : ∀ (ds : List Dn) (A : BitVec 64), (run q ds).1 A ≤ 2 := by
  intro ds
  induction ds generalizing q with
  | nil => exact h1
  | cons d r ih => exact ih (q := doD q d) (do_le2 h1 h2 d).1 (do_le2 h1 h2 d).2
end Go.Proofs.Ytpflodhnniochaa
