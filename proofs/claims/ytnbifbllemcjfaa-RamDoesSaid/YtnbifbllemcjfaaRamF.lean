/-
  The memory in the heap: Copy; what a range over the map needs.
-/
import Derived.Test.YtnbifbllemcjfaaRamE
namespace Go.Proofs.Ytnbifbllemcjfaa
set_option linter.unusedVariables false
open Go.RowKit Go.Maps

/-! The shape of keys and elements. -/
theorem keyOf_formed {P : Program} {t : TypeId} {fs : Array Field} (hu : P.underlying t = some (.struct fs)) {v : Value} {l : Lit} (h : keyOf P t v = some l) : v.formed P t = true := by
  unfold keyOf at h
  simp only [hu] at h
  split at h
  · rename_i hc
    simp only [Bool.and_eq_true] at hc
    exact hc.2
  · cases h
theorem formed_shape {P : Program} {t : TypeId} {fs : Array Field} (hu : P.underlying t = some (.struct fs)) (hc : P.cellsOf t = 1) {v : Value} (hf : v.formed P t = true) : ∃ x : Value, v = .agg #[x] := by
  cases v <;> simp [Value.formed, hu, hc] at hf
  rename_i cs
  obtain ⟨l⟩ := cs
  match l, hf with
  | [c0], _ => exact ⟨c0, rfl⟩
theorem keyShape (key : Value) (k : Lit) (h : keyOf Try.prog 56 key = some k) : ∃ x : Value, key = .agg #[x] :=
  formed_shape Try.underlying56 cellsP (keyOf_formed Try.underlying56 h)
theorem elemShape (v : Value) (y : DataW Unit × List MemPlace) (h : ptrElem v = some y) : ∃ c : Option Nat, v = ptrV c := by
  obtain ⟨o, rfl, _⟩ := ptrElem_inv h
  exact ⟨o, rfl⟩
theorem has_true_of_atKey {D : DataW Unit} {k : Lit} {d : DataW Unit} (hat : ∀ z, D.atKey k z = d) : Maps.has D k = true := by
  cases h : Maps.has D k
  · have h1 := atKey_of_not_has (z := .lit (.int .i64 0)) h
    have h2 := atKey_of_not_has (z := .lit (.int .i64 1)) h
    rw [hat] at h1 h2
    rw [h1] at h2
    cases h2
  · rfl
/-- What an entry is. -/
theorem entry_is {D : DataW Unit} {f : Nat → Option Nat} (hr : Reads D f) {x : Value} {c : Option Nat} {k : Lit} {y : DataW Unit × List MemPlace} (hk : keyOf Try.prog 56 (.agg #[x]) = some k) (hv : ptrElem (ptrV c) = some y) (hat : ∀ z, D.atKey k z = y.1) :
    ∃ (n : BitVec 64) (b : Nat), x = .int .u64 (U n) ∧ c = some b ∧ k = kl n ∧ f n.toNat = some b := by
  obtain ⟨n, rfl⟩ := hr.keys k (has_true_of_atKey hat)
  have hx := lawP.inj hk (key_kv n)
  unfold kv at hx
  simp only [Value.agg.injEq, Array.mk.injEq, List.cons.injEq, and_true] at hx
  have hh := hr.has n
  rw [has_true_of_atKey hat] at hh
  obtain ⟨b, hb⟩ := Option.isSome_iff_exists.1 hh.symm
  refine ⟨n, b, hx, ?_, rfl, hb⟩
  obtain ⟨o, ho, rfl⟩ := ptrElem_inv hv
  have h1 := hat (.lit (.int .i64 0))
  rw [hr.at_ n b hb] at h1
  cases c with
  | none =>
    cases o with
    | none => simp at h1
    | some _ => cases ho
  | some c =>
    cases o with
    | none => cases ho
    | some o =>
      cases ho
      simp at h1
      congr 1
      omega
/-! What a copy has so far. -/
structure Part (w : World) (M : Nat → BitVec 8) (old : Nat) (f bl : Nat → Option Nat) (left : Lit → Bool) : Prop where
  some_ : ∀ x : BitVec 64, (bl x.toNat).isSome = ((f x.toNat).isSome && !left (kl x))
  inP : ∀ n b, bl n = some b → InP n
  pages : ∀ n b, bl n = some b → PageAt w b (fun i => M (n * 4096 + i))
  new : ∀ n b, bl n = some b → old ≤ b
  inj : ∀ n n' b, bl n = some b → bl n' = some b → n = n'
theorem same_kl {x y : BitVec 64} : (kl x).sameKey (kl y) = decide (x = y) := by
  by_cases e : x = y
  · subst e; rw [WideAt.sameKey_self (isKey_kl _)]; simp
  · rw [sameKey_ne (fun e' => e (kl_inj e')), decide_eq_false e]
theorem ranges_kept {P : Program} {k : TypeId} {R : Value → Option (DataW Unit × List MemPlace)} {w w' : World} {b r n : Nat} {D : DataW Unit} {left : Lit → Bool} {cnt : Nat} (h : w.ranges P k R b r n D left cnt) (hb : w'.heap[b]? = w.heap[b]?) (hr : w'.heap[r]? = w.heap[r]?) : w'.ranges P k R b r n D left cnt := by
  obtain ⟨es, clock, since, seen, c0, h1, h2, h3, h4, h5, r⟩ := h
  exact ⟨es, clock, since, seen, c0, hb.trans h1, h2, h3, h4, hr.trans h5, r⟩
theorem ranges_lt {P : Program} {k : TypeId} {R : Value → Option (DataW Unit × List MemPlace)} {w : World} {b r n : Nat} {D : DataW Unit} {left : Lit → Bool} {cnt : Nat} (h : w.ranges P k R b r n D left cnt) : b < w.heap.size ∧ r < w.heap.size := by
  obtain ⟨es, clock, since, seen, c0, h1, h2, h3, h4, h5, r⟩ := h
  exact ⟨(Array.getElem?_eq_some_iff.1 h1).1, (Array.getElem?_eq_some_iff.1 h5).1⟩
/-! A map that is written at the end of a region that draws. -/
noncomputable def after {α : Type} (m : Sem α) (w : World) : World := match m.run Try.prog w with | .ok _ w' => w' | _ => w
theorem after_eq {α : Type} {m : Sem α} {w w' : World} {x : α} (h : m.run Try.prog w = .ok x w') : after m w = w' := by unfold after; rw [h]
noncomputable def putM (m : Nat) (x : BitVec 64) (b : Nat) : Sem Unit := Instr.mapUpdate 47 (.map (some m)) (kv x) (.pointer (some ⟨b, 0, none⟩))
theorem updF_twice (f : Nat → Option Nat) (n : Nat) (o : Option Nat) : updF (updF f n o) n o = updF f n o := by
  funext j
  unfold updF
  by_cases e : j = n <;> simp [e]
theorem put_map {w : World} {m : Nat} {f : Nat → Option Nat} (h : HasMap w m f) (hf : ∀ n b, f n = some b → InP n) (x : BitVec 64) (b : Nat) :
    (putM m x b).run Try.prog w = .ok () (after (putM m x b) w) ∧ HasMap (after (putM m x b) w) m (updF f x.toNat (some b)) ∧ Kept (fun p => p = m) w (after (putM m x b) w) := by
  obtain ⟨w', hrun, hp, ht⟩ := h.put hf x b
  have e : after (putM m x b) w = w' := after_eq hrun
  rw [e]
  exact ⟨hrun, hp, (Kept.refl _ _).turned ht (.inl rfl)⟩
theorem updF_inP {f : Nat → Option Nat} (hf : ∀ n b, f n = some b → InP n) {m b : Nat} (hm : InP m) : ∀ n c, updF f m (some b) n = some c → InP n := fun n c e => by
  by_cases h : n = m
  · exact h ▸ hm
  · rw [updF_other _ _ h] at e; exact hf n c e
def Com (m : Nat) (f : Nat → Option Nat) (x : BitVec 64) (b : Nat) (w w' : World) : Prop := Kept (fun p => p = m) w w' ∧ (HasMap w' m f ∨ HasMap w' m (updF f x.toNat (some b)))
theorem Com.start {m : Nat} {f : Nat → Option Nat} {x : BitVec 64} {b : Nat} {w : World} (h : HasMap w m f) : Com m f x b w w.drew := ⟨(Kept.refl _ _).drew, .inl (h.kept rfl)⟩
theorem Com.done {m : Nat} {f : Nat → Option Nat} {x : BitVec 64} {b : Nat} {w w' : World} (hf : ∀ n b, f n = some b → InP n) (hx : InP x.toNat) (h : Com m f x b w w') :
    (putM m x b).run Try.prog w' = .ok () (after (putM m x b) w') ∧ HasMap (after (putM m x b) w') m (updF f x.toNat (some b)) ∧ Kept (fun p => p = m) w (after (putM m x b) w') := by
  rcases h.2 with k | k
  · have := put_map k hf x b
    exact ⟨this.1, this.2.1, h.1.trans this.2.2⟩
  · have := put_map k (updF_inP hf hx) x b
    rw [updF_twice] at this
    exact ⟨this.1, this.2.1, h.1.trans this.2.2⟩
theorem Com.put {m : Nat} {f : Nat → Option Nat} {x : BitVec 64} {b : Nat} {w w' : World} (hf : ∀ n b, f n = some b → InP n) (hx : InP x.toNat) (h : Com m f x b w w') : Com m f x b w (after (putM m x b) w') :=
  ⟨(h.done hf hx).2.2, .inr (h.done hf hx).2.1⟩
theorem Com.run {m q kb : Nat} {f : Nat → Option Nat} {x : BitVec 64} {b : Nat} {w w' : World} (hf : ∀ n b, f n = some b → InP n) (hx : InP x.toNat) (hq : w.cell? ⟨q, 0, none⟩ = some (.map (some m))) (hqm : q ≠ m) (hk : w.cell? ⟨kb, 0, none⟩ = some (.int .u64 (U x))) (hkm : kb ≠ m) (h : Com m f x b w w') :
    Com m f x b w w' ∧ w'.cell? ⟨q, 0, none⟩ = some (.map (some m)) ∧ w'.cell? ⟨kb, 0, none⟩ = some (.int .u64 (U x)) ∧ (Instr.mapUpdate 47 (.map (some m)) (.agg #[.int .u64 (U x)]) (.pointer (some ⟨b, 0, none⟩))).run Try.prog w' = .ok () (after (putM m x b) w') :=
  ⟨h, h.1.cell hq hqm, h.1.cell hk hkm, (h.done hf hx).1⟩
set_option maxRecDepth 20000 in
set_option maxHeartbeats 400000 in
attribute [local go_sem ↓] loadAt_58 storeAt_58 alloc_58 run_alp in
theorem Copy_any (w : World) (g : G) (M : Nat → BitVec 8) (h : Held w g M) :
    Calls Try.prog 21 #[.pointer (some ⟨g.q, 0, none⟩)] w fun e w' => ∃ g' : G, e = .returned (.pointer (some ⟨g'.q, 0, none⟩)) ∧ Held w' g' M ∧ Still w w' ∧ ∀ b, g'.own b → w.heap.size ≤ b := by
  go_enter Try.func21, Try.ntmps21
  go_wp2_with fail
  go_at_call 8
  refine (New_any w).mono ?_
  rintro e w1 ⟨q, m, rfl, h1, k1, o1⟩
  have H := h.still k1
  have p0 := H.p0
  have q0 := h1.p0
  dsimp only at q0
  have hqm : q ≠ m := h1.qm
  have hqlt : q < w1.heap.size := h1.lt (.inl rfl)
  have hmlt : m < w1.heap.size := h1.m.lt
  have hwq : w.heap.size ≤ q := o1 q (.inl rfl)
  have hwm : w.heap.size ≤ m := o1 m (.inr (.inl rfl))
  have hgm : g.m < w.heap.size := h.m.lt
  have hM1 : HasMap w1 m fun _ => none := h1.m
  obtain ⟨D, hown, hr⟩ := H.m
  have hsz : Maps.size D ≤ 256 := size_le hr (hown.entries lawP) H.inP
  go_wp2_with (at_range; refine wpList_range_own _ rfl _ 47 rfl 56 57 lawP Try.underlying47 _ g.m (Maps.size D) D rfl hown ?_; intro w0 hrg0 hg0 hs0)
  go_frame
  have k0 : Still w1 w0 := (Kept.refl _ w1).grown hg0 (fun p hp => by cases hp)
  have hM0 : HasMap w0 m fun _ => none := hM1.kept (k0.block m hmlt (fun e => e))
  have kw0 : Still w w0 := k1.trans k0
  have q00 := k0.cell q0 (fun e => e)
  have hz0 := h.zero
  have hP0 : ∀ n b, g.bl n = some b → PageAt w0 b (fun i => M (n * 4096 + i)) ∧ b < w.heap.size := fun n b hb => ⟨(h.pages n b hb).kept (kw0.block b (h.pages n b hb).lt (fun e => e)), (h.pages n b hb).lt⟩
  have hin := h.inP
  have hw1 : w.heap.size ≤ w1.heap.size := k1.size
  have hQ0 : w0.heap[q]? = some (.cells #[.map (some m)] 49 (0, 0)) := (k0.block q hqlt (fun e => e)).trans h1.q
  replace hP0 := hide hP0
  replace hin := hide hin
  replace hz0 := hide hz0
  replace hQ0 := hide hQ0
  clear h h1 H o1 hown hg0 hM1 q0 p0 k0 k1
  generalize w1.heap.size = r at *
  go_loopw [6] (fun _ wr => ∃ (left : Lit → Bool) (cnt : Nat) (bl' : Nat → Option Nat), wr.ranges Try.prog 56 ptrElem g.m r (Maps.size D) D left cnt ∧ HasMap wr m bl' ∧ Part wr M w0.heap.size g.bl bl' left ∧ Kept (fun b => b = m ∨ b = r) w0 wr)
    (fun _ wr => wr.rangeLeft g.m r)
  case atStart => exact ⟨_, _, _, hrg0, hM0, ⟨fun x => by rw [← hr.has]; simp, fun n b e => (by cases e), fun n b e => (by cases e), fun n b e => (by cases e), fun n n' b e => (by cases e)⟩, Kept.refl _ _⟩
  case round =>
    obtain ⟨left, cnt, bl', hrg, hMr, hPt, hK⟩ := hrel
    have hrlt := ranges_lt hrg
    go_wp2_with (at_next; refine wpList_next_ranges _ rfl _ rfl 56 lawP ptrElem (fun x : Value => .agg #[x]) ptrV keyShape elemShape g.m r (Maps.size D) D left cnt rfl hrg ?_ ?_)
    · intro hc0 hl0
      go_wp2_with fail
      go_ret
      have kwr : Still w wr := kw0.start (hK.mono fun b hb => .inr (by omega))
      refine ⟨⟨q, m, bl'⟩, rfl, ⟨(hK.block q (by omega) (by omega)).trans hQ0.out, hMr, hPt.inP, hPt.pages, fun n hn i hi => ?_, hPt.inj⟩, kwr, ?_⟩
      · cases hb : g.bl n with
        | none => exact hz0.out n hb i hi
        | some b =>
          have hP := hin.out n b hb
          unfold InP at hP
          have h1 := hPt.some_ (BitVec.ofNat 64 n)
          rw [BitVec.toNat_ofNat, Nat.mod_eq_of_lt (by omega), hb, hl0] at h1
          dsimp only at hn
          rw [hn] at h1
          simp at h1
      · rintro b (rfl | rfl | ⟨n, e⟩)
        · exact hwq
        · exact hwm
        · have := hPt.new n b e
          have := kw0.size
          omega
    · intro x c k d ps w2 cnt1 hkx hlk hv hat hrg1 hlt hg1 hs1 hen
      obtain ⟨n, b, rfl, rfl, rfl, hfb⟩ := entry_is hr hkx hv hat
      have hnP : InP n.toNat := hin.out _ _ hfb
      obtain ⟨hpb, hbw⟩ := hP0.out _ _ hfb
      have hK2 : Kept (fun b => b = m ∨ b = r) w0 w2 := hK.grown hg1 (fun p hp => .inl (by cases hp; exact .inr rfl))
      have hpb2 : PageAt w2 b (fun i => M (n.toNat * 4096 + i)) := hpb.kept (hK2.block b hpb.lt (by omega))
      have q2 := hK2.cell q00 (by omega)
      have hM2 : HasMap w2 m bl' := hMr.kept (hg1.block m (by omega) (by simp; omega))
      have hPt2 : ∀ n b, bl' n = some b → PageAt w2 b (fun i => M (n * 4096 + i)) := fun n b hb => (hPt.pages n b hb).kept (hg1.block b (hPt.pages n b hb).lt (by
        have := hPt.new n b hb
        simp; omega))
      have hsw : w0.heap.size ≤ w2.heap.size := hK2.size
      generalize hcd : (fun i => M (n.toNat * 4096 + i)) = cc at hpb2
      have hldA : (ldp (.pointer (some ⟨b, 0, none⟩))).run Try.prog (w2.alloc (.cells #[.int .u64 (U n)] 56)) = .ok (.agg (pg cc)) (w2.alloc (.cells #[.int .u64 (U n)] 56)) :=
        (hpb2.kept (w' := w2.alloc (.cells #[.int .u64 (U n)] 56)) (Below.heap_alloc _ _ _ hpb2.lt)).ld
      obtain ⟨w4, hst, hp4, k4, hc4, hs4⟩ : ∃ w4, (stp (.pointer (some ⟨w2.heap.size + 1, 0, none⟩)) (.agg (pg cc))).run Try.prog ((w2.alloc (.cells #[.int .u64 (U n)] 56)).alloc (.cells (pg fun _ => 0#8) 58)) = .ok () w4 ∧ PageAt w4 (w2.heap.size + 1) cc ∧ Still w2 w4 ∧ w4.cell? ⟨w2.heap.size, 0, none⟩ = some (.int .u64 (U n)) ∧ w4.heap.size = w2.heap.size + 2 := by
        have hn := pageAt_new (w2.alloc (.cells #[.int .u64 (U n)] 56))
        rw [World.size_alloc] at hn
        refine ⟨_, hn.st cc, ?_, (((Kept.refl _ w2).alloc _).alloc _).setRow _ _ (.inr (by omega)), ?_, ?_⟩
        · exact setRow_heap _ _ _ _ _ _ hn
        · have e1 := heap_alloc_new w2 (.cells #[.int .u64 (U n)] 56)
          have e2 := (Below.heap_alloc (w2.alloc (.cells #[.int .u64 (U n)] 56)) (.cells (pg fun _ => 0#8) 58) w2.heap.size (by simp)).trans e1
          have e3 := (setRow_other ((w2.alloc (.cells #[.int .u64 (U n)] 56)).alloc (.cells (pg fun _ => 0#8) 58)) (w2.heap.size + 1) w2.heap.size (pg cc) (by omega)).trans e2
          unfold World.cell?
          simp only [e3]
          rfl
        · simp [World.setRow]
      replace hcd := hide hcd
      replace hPt2 := hide hPt2
      replace hPt := hide hPt
      replace hr := hide hr
      have hpv : ptrV (some b) = .pointer (some ⟨b, 0, none⟩) := rfl
      rw [hpv] at hen ⊢
      clear hkx hlk hv hat hs1 hpv
      go_wp2_with fail
      have hM4 : HasMap w4 m bl' := hM2.kept (k4.block m (by omega) (fun e => e))
      have q4 := k4.cell q2 (fun e => e)
      have inb : ∀ n b, bl' n = some b → InP n := hPt.out.inP
      have hkm : w2.heap.size ≠ m := by omega
      replace inb := hide inb
      generalize hkb : w2.heap.size = kb at *
      go_region_held3 (fun w' => Com m bl' n (kb + 1) w4 w' ∧ w'.cell? ⟨q, 0, none⟩ = some (.map (some m)) ∧ w'.cell? ⟨kb, 0, none⟩ = some (.int .u64 (U n)) ∧ (Instr.mapUpdate 47 (.map (some m)) (.agg #[.int .u64 (U n)]) (.pointer (some ⟨kb + 1, 0, none⟩))).run Try.prog w' = .ok () (after (putM m n (kb + 1)) w'))
        (first | assumption | exact (Com.start hM4).run inb.out hnP q4 hqm hc4 hkm | exact (Com.put inb.out hnP (And.left (a := Com m bl' n (kb + 1) w4 _) (by assumption))).run inb.out hnP q4 hqm hc4 hkm)
        (fail)
      obtain ⟨-, hmf, hkf⟩ := (Com.start hM4 : Com m bl' n (kb + 1) w4 w4.drew).done inb.out hnP
      generalize after (putM m n (kb + 1)) w4.drew = w5 at *
      have hk25 : Kept (fun b => b = m) w2 w5 := (k4.mono fun _ e => e.elim).trans hkf
      have hrg5 := ranges_kept hrg1 (hk25.block _ (ranges_lt hrg1).1 (by omega)) (hk25.block _ (ranges_lt hrg1).2 (by omega))
      have hp5 : PageAt w5 (kb + 1) cc := hp4.kept (hkf.block _ hp4.lt (by omega))
      have hP5 : Part w5 M w0.heap.size g.bl (updF bl' n.toNat (some (kb + 1))) (fun z => left z && !z.sameKey (kl n)) := by
        refine ⟨fun x => ?_, updF_inP inb.out hnP, fun j c e => ?_, fun j c e => ?_, fun j j' c e e' => ?_⟩
        · by_cases hx : x = n
          · subst hx
            rw [updF_same, hfb, same_kl]
            simp
          · rw [updF_other _ _ (fun e => hx (BitVec.eq_of_toNat_eq e)), hPt.out.some_ x, same_kl, decide_eq_false hx]
            simp
        · by_cases hj : j = n.toNat
          · subst hj
            rw [updF_same] at e
            obtain rfl := Option.some.inj e
            rw [hcd.out]
            exact hp5
          · rw [updF_other _ _ hj] at e
            have h1 := hPt2.out j c e
            have h2 := hPt.out.new j c e
            exact h1.kept (hk25.block _ h1.lt (by omega))
        · by_cases hj : j = n.toNat
          · subst hj
            rw [updF_same] at e
            obtain rfl := Option.some.inj e
            omega
          · rw [updF_other _ _ hj] at e
            exact hPt.out.new j c e
        · by_cases hj : j = n.toNat
          · by_cases hj' : j' = n.toNat
            · rw [hj, hj']
            · subst hj
              rw [updF_same] at e
              obtain rfl := Option.some.inj e
              rw [updF_other _ _ hj'] at e'
              have := (hPt2.out _ _ e').lt
              omega
          · by_cases hj' : j' = n.toNat
            · subst hj'
              rw [updF_same] at e'
              obtain rfl := Option.some.inj e'
              rw [updF_other _ _ hj] at e
              have := (hPt2.out _ _ e).lt
              omega
            · rw [updF_other _ _ hj] at e
              rw [updF_other _ _ hj'] at e'
              exact hPt.out.inj _ _ _ e e'
      have hK5 : Kept (fun b => b = m ∨ b = r) w0 w5 := hK2.trans (hk25.mono fun b e => .inl e)
      have hms : w5.rangeLeft g.m r < wr.rangeLeft g.m r := by rw [hrg5.left_eq, hrg.left_eq]; exact hlt
      clear hrg hrg1 hK hK2 hk25 hkf hPt hPt2 hp4 hp5 hpb2 hpb
      go_wp2_with fail
      go_roundw
      case rel => exact ⟨_, cnt1, _, hrg5, hmf, hP5, hK5⟩
      case measure => exact hms
end Go.Proofs.Ytnbifbllemcjfaa
