/-
  Slices of numbers; sameInts; Drop.
-/
import Derived.Test.YtaeggnnijafooaaIssueD
import Derived.Deep.AppendLies
namespace Go.Proofs.Ytaeggnnijafooaa
set_option linter.unusedVariables false
open Go.RowKit Go.Maps

theorem owns_cells {w : World} {base n k : Nat} {T : TypeId} {v : Value} {xs : List Value} (h : w.ownsRow base T k v n xs) (hn : 0 < n) :
    ∃ b cap, v = .slice (some ⟨b, 0, none⟩) n cap ∧ base ≤ b ∧ b < w.heap.size ∧ ∀ j u, xs[j]? = some u → w.cell? ⟨b, j, none⟩ = some u := by
  obtain ⟨b, cap, rfl, hb, hlt⟩ := World.ownsRow.form h hn
  refine ⟨b, cap, rfl, hb, hlt, fun j u hu => ?_⟩
  have := h.cells (g := b) rfl j u hu
  have hadd : (⟨b, 0, none⟩ : Addr).add j = ⟨b, j, none⟩ := by unfold Addr.add; split <;> simp_all
  rwa [hadd] at this
theorem owns_none {w : World} {base k : Nat} {T : TypeId} {v : Value} {xs : List Value} (h : w.ownsRow base T k v 0 xs) : ∃ a cap, v = .slice a 0 cap := by
  rcases h.2 with ⟨rfl, _⟩ | ⟨g, cap, cur, rfl, _⟩
  · exact ⟨_, _, rfl⟩
  · exact ⟨_, _, rfl⟩
/-- A slice of numbers; its block is not older than base. -/
def Ints (w : World) (base : Nat) (v : Value) (l : List Int) : Prop :=
  ∃ z cap, v = .slice z l.length cap ∧ (0 < l.length → ∃ b, z = some ⟨b, 0, none⟩ ∧ base ≤ b ∧ b < w.heap.size ∧ ∀ j x, l[j]? = some x → w.cell? ⟨b, j, none⟩ = some (.int .i64 x))
theorem ints_of {w : World} {base n : Nat} {v : Value} {l : List Int} (h : w.ownsRow base 3 1 v n (l.map (Value.int .i64))) (hn : n = l.length) : Ints w base v l := by
  subst hn
  by_cases hn : 0 < l.length
  · obtain ⟨b, cap, rfl, hb, hlt, hc⟩ := owns_cells h hn
    exact ⟨_, _, rfl, fun _ => ⟨b, rfl, hb, hlt, fun j x hj => hc j _ (by rw [List.getElem?_map, hj]; rfl)⟩⟩
  · have h0 : l.length = 0 := by omega
    rw [h0] at h
    obtain ⟨z, cap, rfl⟩ := owns_none h
    exact ⟨z, cap, by rw [h0], fun e => absurd e hn⟩
theorem Ints.kept {w w' : World} {base : Nat} {v : Value} {l : List Int} {S : Nat → Prop} (h : Ints w base v l) (k : Kept S w w') (hs : ∀ b, base ≤ b → ¬ S b) : Ints w' base v l := by
  obtain ⟨z, cap, hv, hc⟩ := h
  refine ⟨z, cap, hv, fun hn => ?_⟩
  obtain ⟨b, hz, hb, hlt, hx⟩ := hc hn
  exact ⟨b, hz, hb, Nat.lt_of_lt_of_le hlt k.size, fun j x hj => k.cell (hx j x hj) (hs b hb)⟩
theorem Ints.still {w w' : World} {base : Nat} {v : Value} {l : List Int} (h : Ints w base v l) (k : Still w w') : Ints w' base v l := h.kept k fun _ _ e => e
theorem Ints.low {w : World} {base base' : Nat} {v : Value} {l : List Int} (h : Ints w base v l) (hb : base' ≤ base) : Ints w base' v l := by
  obtain ⟨z, cap, hv, hc⟩ := h
  refine ⟨z, cap, hv, fun hn => ?_⟩
  obtain ⟨b, hz, hb', r⟩ := hc hn
  exact ⟨b, hz, Nat.le_trans hb hb', r⟩
theorem meas_k {k n : Nat} (h : k < n) : n - (intOf (.int .i64 ((k : Int) + 1))).toNat < n - (intOf (.int .i64 (k : Int))).toNat := by
  simp [intOf]
  omega
theorem Tags_ints (w : World) (g : G) (size : Int) (s : List En) (h : Held w g size s) : Calls Try.prog 20 #[.pointer (some ⟨g.q, 0, none⟩)] w fun e w' =>
    ∃ v, e = .returned v ∧ Ints w' w.heap.size v (tags s) ∧ Still w w' :=
  (Tags_any w g size s h).mono fun e w' ⟨v, he, ho, hs⟩ => ⟨v, he, ints_of ho (length_tags s).symm, hs⟩
theorem list_not_eq {l l' : List Int} {k : Nat} {x y : Int} (h : l[k]? = some x) (h' : l'[k]? = some y) (hne : x ≠ y) : decide (l = l') = false := by
  refine decide_eq_false fun e => hne ?_
  subst e
  rw [h] at h'
  exact Option.some.inj h'
set_option maxRecDepth 100000 in
set_option maxHeartbeats 4000000 in
theorem sameInts_any (w : World) (v v' : Value) (l l' : List Int) (base base' : Nat) (h : Ints w base v l) (h' : Ints w base' v' l') (hlen : l.length < 1000000) : Calls Try.prog 17 #[v, v'] w fun e w' =>
    e = .returned (.bool (decide (l = l'))) ∧ Still w w' := by
  obtain ⟨z, cap, rfl, hz⟩ := h
  obtain ⟨z', cap', rfl, hz'⟩ := h'
  have hz := hide hz
  have hz' := hide hz'
  go_enter Try.func17, Try.ntmps17
  by_cases hl : l.length = l'.length
  · have hl' : (l.length : Int) = (l'.length : Int) := by omega
    go_wp2
    go_loopw [5] (fun iv wr => ∃ k : Nat, k ≤ l.length ∧ iv = .int .i64 k ∧ (∀ j, j < k → l[j]? = l'[j]?) ∧ Still w wr) (fun iv _ => l.length - (intOf iv).toNat)
    case atStart => exact ⟨0, Nat.zero_le _, rfl, fun j hj => absurd hj (Nat.not_lt_zero _), Kept.refl _ _⟩
    case round =>
      obtain ⟨k, hk, rfl, heq, hst⟩ := hrel
      have heq := hide heq
      have hst := hide hst
      by_cases hkn : k < l.length
      · obtain ⟨b, rfl, hb, hlt, hc⟩ := hz.out (by omega)
        obtain ⟨b', rfl, hb', hlt', hc'⟩ := hz'.out (by omega)
        have hx := List.getElem?_eq_getElem hkn
        have hx' := List.getElem?_eq_getElem (l := l') (i := k) (by omega)
        generalize l[k] = x at hx
        generalize l'[k]'(by omega) = x' at hx'
        have x0 := hst.out.cell (hc _ _ hx)
        have x1 := hst.out.cell (hc' _ _ hx')
        have hx := hide hx
        have hx' := hide hx'
        have hkl : (k : Int) < (l.length : Int) := by omega
        have hkl' : (k : Int) < (l'.length : Int) := by omega
        have hk0 : 0 ≤ (k : Int) := by omega
        have hms := meas_k hkn
        clear hc hc' hz hz' hlt hlt' hb hb'
        by_cases hxx : x = x'
        · subst hxx
          go_wp2_with fail
          go_quiet (fail)
          go_wp2
          go_roundw
          case rel =>
            refine ⟨k + 1, by omega, by simp, fun j hj => ?_, hst.out.drewN _⟩
            rcases Nat.lt_succ_iff_lt_or_eq.1 hj with h | rfl
            · exact heq.out j h
            · rw [hx.out, hx'.out]
          case measure => exact hms
        · go_wp2_with fail
          go_quiet (fail)
          go_wp2
          go_ret
          exact ⟨by rw [list_not_eq hx.out hx'.out hxx]; rfl, hst.out.drewN _⟩
      · obtain rfl : k = l.length := by omega
        have hfin : decide (l = l') = true := decide_eq_true (List.ext_getElem? fun j => by
          by_cases hj : j < l.length
          · exact heq.out j hj
          · rw [List.getElem?_eq_none (by omega), List.getElem?_eq_none (by omega)])
        go_wp2
        go_ret
        exact ⟨by rw [hfin]; rfl, hst.out⟩
  · have hl' : ¬ (l.length : Int) = (l'.length : Int) := by omega
    have hne : decide (l = l') = false := decide_eq_false fun e => hl (by rw [e])
    go_wp2
    go_ret
    exact ⟨by rw [hne]; rfl, Kept.refl _ _⟩
/-- Some go out of the queue. -/
theorem Held.sub {w w' : World} {g : G} {size : Int} {s s' : List En} {S : Nat → Prop} (h : Held w g size s) (k : Kept S w w') (hS : ∀ b, S b → b = g.m) (hq : HasQ w' g.m s' g.bl) (hs : s'.Sublist s) : Held w' g size s' := by
  have hmem : ∀ {e : En}, e ∈ s' → e ∈ s := fun he => hs.mem he
  have hn : ∀ {b}, b ≠ g.m → ¬ S b := fun hb e => hb (hS _ e)
  refine ⟨(k.block _ (h.lt (.inl rfl)) (hn h.qm)).trans h.q, hq, fun e he => (h.sets e (hmem he)).kept (k.block _ (h.sets e (hmem he)).lt (hn (h.ne e (hmem he)))), h.sorted.sublist hs, fun e he e' he' => h.inj e (hmem he) e' (hmem he'), fun e he => h.ne e (hmem he), ⟨?_, h.room.2⟩, fun e he => h.units e (hmem he)⟩
  have := hs.length_le
  have := h.room.1
  omega
theorem cut_one {f : List En → List En} {e : En} {d r : List En} (hs : Sorted (d ++ e :: r)) (hf : (f d).Sublist d) : (f d ++ e :: r).filter (fun x => !decide (x.tag = e.tag)) = f d ++ r := by
  obtain ⟨h1, h2, h3⟩ := List.pairwise_append.1 hs
  obtain ⟨h4, h5⟩ := List.pairwise_cons.1 h2
  rw [List.filter_append, List.filter_cons]
  simp only [decide_true, Bool.not_true, Bool.false_eq_true, if_false]
  congr 1
  · exact List.filter_eq_self.2 fun x hx => by
      have := h3 x (hf.mem hx) e (by simp)
      simp; omega
  · exact List.filter_eq_self.2 fun x hx => by
      have := h4 x hx
      simp; omega
theorem dropN_snoc (x : Int) (d : List En) (e : En) : dropN x (d ++ [e]) = dropN x d + (if x < e.tag then 1 else 0) := by
  unfold dropN
  rw [List.filter_append, List.length_append]
  congr 1
  by_cases h : x < e.tag
  · rw [if_pos h]; simp [show ¬ e.tag ≤ x by omega]
  · rw [if_neg h]; simp [show e.tag ≤ x by omega]
theorem dropL_snoc (x : Int) (d : List En) (e : En) : dropL x (d ++ [e]) = if x < e.tag then dropL x d else dropL x d ++ [e] := by
  unfold dropL
  rw [List.filter_append]
  by_cases h : x < e.tag
  · rw [if_pos h]; simp [show ¬ e.tag ≤ x by omega]
  · rw [if_neg h]; simp [show e.tag ≤ x by omega]
theorem dropN_le (x : Int) (s : List En) : dropN x s ≤ s.length := List.length_filter_le _ _
set_option maxRecDepth 100000 in
set_option maxHeartbeats 4000000 in
theorem Drop_any (w : World) (g : G) (size x : Int) (s : List En) (h : Held w g size s) : Calls Try.prog 18 #[.pointer (some ⟨g.q, 0, none⟩), .int .i64 x] w fun e w' =>
    e = .returned (.int .i64 (dropN x s : Nat)) ∧ Held w' g size (dropL x s) ∧ Kept (g.own s) w w' := by
  have hroom := h.room
  have hsorted := h.sorted
  have hlt : g.m < w.heap.size := h.m.lt
  go_enter Try.func18, Try.ntmps18
  go_wp2_with fail
  go_at_call 20
  refine (Tags_ints w g size s h).mono ?_
  rintro e w1 ⟨v, rfl, hints, k1⟩
  obtain ⟨z, cap, rfl, hz⟩ := hints
  have h1 := h.still k1
  have hlen : (tags s).length = s.length := length_tags s
  rw [hlen] at hz ⊢
  have hz := hide hz
  clear h
  go_wp2
  go_loopw [5, 11] (fun nv iv wr => ∃ d r : List En, s = d ++ r ∧ iv = .int .i64 d.length ∧ nv = .int .i64 (dropN x d : Nat) ∧ Held wr g size (dropL x d ++ r) ∧ Kept (fun b => b = g.m) w1 wr) (fun _ iv _ => s.length - (intOf iv).toNat)
  case atStart => exact ⟨[], s, rfl, rfl, rfl, h1, Kept.refl _ _⟩
  case round =>
    obtain ⟨d, r, hs, rfl, rfl, hh, k2⟩ := hrel
    have hsl : s.length = d.length + r.length := by rw [hs, List.length_append]
    have hdl := dropN_le x d
    have hdk : (d.length : Int) < 1000 := by omega
    have hdk' : (dropN x d : Int) < 1000 := by omega
    cases r with
    | nil =>
      obtain rfl : s = d := by rw [hs, List.append_nil]
      have hnot : ¬ (s.length : Int) < (s.length : Int) := Int.lt_irrefl _
      rw [List.append_nil] at hh
      clear hs hz hsl
      go_wp2
      go_ret
      exact ⟨rfl, hh, k1.mono (fun _ e => e.elim) |>.trans (k2.mono fun b e => .inr (.inl e))⟩
    | cons e r =>
      obtain ⟨b, rfl, hb, hbl, hc⟩ := hz.out (by simp at hsl; omega)
      have hte : (tags s)[d.length]? = some e.tag := by unfold tags; rw [hs]; simp
      have x0 := k2.cell (hc _ _ hte) (fun e' => by omega)
      have hin : (d.length : Int) < (s.length : Int) := by simp at hsl; omega
      have hin0 : 0 ≤ (d.length : Int) := by omega
      have hms := meas_k (k := d.length) (n := s.length) (by omega)
      have hs' : s = (d ++ [e]) ++ r := by rw [hs]; simp
      have hso : Sorted (d ++ e :: r) := hs ▸ hsorted
      have hwf : (Lit.int .i64 e.tag).wf = true := hh.m.wf (by simp)
      clear hz hc hte
      have hs := hide hs
      have hs' := hide hs'
      by_cases hx : x < e.tag
      · obtain ⟨w6, hrun, hq6, ht6⟩ := hh.m.drop hwf 0
        rw [cut_one (f := dropL x) hso List.filter_sublist] at hq6
        have k6 : Kept (fun b => b = g.m) wr w6 := (Kept.refl _ wr).turned ht6 (.inl rfl)
        have hh6 := hh.sub k6 (fun _ e => e) hq6 ((List.Sublist.refl _).append (List.sublist_cons_self _ _))
        have c1 := hh.c1
        have k6 := hide (k2.trans k6)
        have hh6 := hide hh6
        clear hq6 ht6 hh k2
        go_wp2
        go_roundw
        case rel => exact ⟨d ++ [e], r, hs'.out, by simp, by rw [dropN_snoc, if_pos hx]; simp, by rw [dropL_snoc, if_pos hx]; exact hh6.out, k6.out⟩
        case measure => exact hms
      · have hh := hide hh
        have k2 := hide k2
        go_wp2
        go_roundw
        case rel => exact ⟨d ++ [e], r, hs'.out, by simp, by rw [dropN_snoc, if_neg hx]; simp, by rw [dropL_snoc, if_neg hx]; simpa using hh.out, k2.out⟩
        case measure => exact hms
end Go.Proofs.Ytaeggnnijafooaa
