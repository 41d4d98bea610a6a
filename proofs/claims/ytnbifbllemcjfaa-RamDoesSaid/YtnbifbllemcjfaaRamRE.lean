/-
  The document's memory in the heap: Same.
-/
import Derived.Test.YtnbifbllemcjfaaRamRD
import Derived.Laws.IdiomStrings
import Derived.Laws.BytesArg
namespace Go.Proofs.Ytnbifbllemcjfaa
set_option linter.unusedVariables false
open Go.RowKit Go.Maps

/-- n bytes as a string. -/
theorem str_is : ∃ f : Nat → (Nat → BitVec 8) → ByteArray, ∀ n F, f n F = ⟨((List.range n).map fun i => UInt8.ofBitVec (F i)).toArray⟩ := ⟨_, fun _ _ => rfl⟩
noncomputable def str : Nat → (Nat → BitVec 8) → ByteArray := Classical.choose str_is
theorem str_def (n : Nat) (F : Nat → BitVec 8) : str n F = ⟨((List.range n).map fun i => UInt8.ofBitVec (F i)).toArray⟩ := Classical.choose_spec str_is n F
theorem str_inj {n m : Nat} {F G : Nat → BitVec 8} (h : str n F = str m G) : n = m ∧ ∀ i, i < n → F i = G i := by
  rw [str_def, str_def] at h
  have h1 : ((List.range n).map fun i => UInt8.ofBitVec (F i)) = (List.range m).map fun i => UInt8.ofBitVec (G i) := congrArg (fun b => b.data.toList) h
  have hn : n = m := by simpa using congrArg List.length h1
  subst hn
  refine ⟨rfl, fun i hi => ?_⟩
  have h2 := congrArg (fun l => l[i]?) h1
  rw [List.getElem?_map, List.getElem?_map, List.getElem?_range hi] at h2
  have h3 := Option.some.inj h2
  exact congrArg UInt8.toBitVec h3
theorem str_ext {n : Nat} {F G : Nat → BitVec 8} (h : ∀ i, i < n → F i = G i) : str n F = str n G := by
  rw [str_def, str_def]
  have : (List.range n).map (fun i => UInt8.ofBitVec (F i)) = (List.range n).map fun i => UInt8.ofBitVec (G i) := List.map_congr_left fun i hi => by rw [h i (List.mem_range.1 hi)]
  rw [this]
theorem conv_str (w : World) (a : Addr) (n c : Nat) (F : Nat → BitVec 8) (hc : ∀ i, i < n → w.cell? (a.add i) = some (.int .u8 (U1 (F i)))) :
    (convert 22 9 (.slice (some a) n c)).run Try.prog w = .ok (.string (str n F)) w := by
  have h := run_convert_bytes_back (P := Try.prog) w 22 9 5 a c ((List.range n).map fun i => UInt8.ofBitVec (F i)) Try.underlying22 Try.underlying5 Try.underlying9 (fun j hj => by
    rw [hc j (by simpa using hj)]
    simp
    rfl)
  rw [List.length_map, List.length_range] at h
  rw [str_def]
  exact h
theorem conv_pg {w : World} {b c k : Nat} {M : Nat → BitVec 8} (hr : RowAt w b 5 4096 (pgV M k)) :
    (convert 22 9 (.slice (some ⟨b, 0, none⟩) 4096 c)).run Try.prog w = .ok (.string (str 4096 fun i => M ((524288 + k) * 4096 + i))) w :=
  conv_str w ⟨b, 0, none⟩ 4096 c _ fun i hi => by
    have hadd : (⟨b, 0, none⟩ : Addr).add i = ⟨b, i, none⟩ := by unfold Addr.add; split <;> simp_all
    rw [hadd]
    exact hr.cell hi
theorem str_eqPg {M M' : Nat → BitVec 8} {n : Nat} (h : eqPg M M' n = true) : (str 4096 fun i => M (n * 4096 + i)) = str 4096 fun i => M' (n * 4096 + i) := str_ext (eqPg_iff.1 h)
theorem str_nePg {M M' : Nat → BitVec 8} {n : Nat} (h : eqPg M M' n = false) : ¬ (str 4096 fun i => M (n * 4096 + i)) = str 4096 fun i => M' (n * 4096 + i) := fun e => by
  have := eqPg_iff.2 (str_inj e).2
  rw [h] at this
  cases this
theorem str_beq_no {s t : ByteArray} (h : ¬ s = t) : (s.toList == t.toList) = false := by
  rw [beq_eq_false_iff_ne]
  intro e
  rw [ByteArray.toList_eq, ByteArray.toList_eq] at e
  exact h (WideShapes.bytes_inj e)
theorem inP_k {k : Nat} (h : k < 256) : InP (524288 + k) := by unfold InP; omega
theorem sameM_all {M M' : Nat → BitVec 8} (h : ∀ j, j < 256 → eqPg M M' (524288 + j) = true) : sameM M M' = true := sameM_iff.2 fun n hn => by
  unfold InP at hn
  have := h (n - 524288) (by omega)
  have e : 524288 + (n - 524288) = n := by omega
  rw [e] at this
  exact this
set_option maxRecDepth 20000 in
set_option maxHeartbeats 4000000 in
theorem RSame_any (w : World) (g g' : GR) (M M' : Nat → BitVec 8) (h : HeldR w g M) (h' : HeldR w g' M') :
    Calls Try.prog 23 #[.pointer (some ⟨g.q, 0, none⟩), .pointer (some ⟨g'.q, 0, none⟩)] w fun e w' => e = .returned (.bool (sameM M M')) ∧ Still w w' := by
  go_enter Try.func23, Try.ntmps23
  go_wp2_with fail
  go_loopw [5] (fun iv wr => ∃ k : Nat, k ≤ 256 ∧ iv = .int .i64 k ∧ (∀ j, j < k → eqPg M M' (524288 + j) = true) ∧ Still w wr) (fun iv _ => 256 - (intOf iv).toNat)
  case atStart => exact ⟨0, Nat.zero_le _, rfl, fun j hj => absurd hj (Nat.not_lt_zero _), Kept.refl _ _⟩
  case round =>
    obtain ⟨k, hk, rfl, heq, hst⟩ := hrel
    by_cases hlt : k < 256
    · have q0 := (h.still hst).p0
      have pk := (h.still hst).p.cell hlt
      have hpg := (h.still hst).pg k hlt
      have hk0 : 0 ≤ (k : Int) := by omega
      have hk1 : (k : Int) < 256 := by omega
      have hms := meas_k hlt
      replace heq := hide heq
      go_wp2_with fail
      go_at_call 31
      refine (zeros_pg _ M k _ hpg).mono ?_
      rintro e w2 ⟨rfl, k2⟩
      have hst2 := hst.trans k2
      clear q0 pk hpg k2 hst
      have q1 := (h'.still hst2).p0
      have pk1 := (h'.still hst2).p.cell hlt
      have hpg1 := (h'.still hst2).pg k hlt
      go_wp2_with fail
      go_at_call 31
      refine (zeros_pg _ M' k _ hpg1).mono ?_
      rintro e w3 ⟨rfl, k3⟩
      have hst3 := hst2.trans k3
      clear q1 pk1 hpg1 k3 hst2
      cases hz : pageZ M (524288 + k)
      · cases hz' : pageZ M' (524288 + k)
        · have H := h.still hst3
          have H' := h'.still hst3
          obtain ⟨b, c, hv, hr⟩ : ∃ b c, g.tab k = .slice (some ⟨b, 0, none⟩) 4096 c ∧ RowAt w3 b 5 4096 (pgV M k) := by
            rcases H.pg k hlt with ⟨z, c, hv, hz2⟩ | r
            · rw [pageZ_iff.2 hz2] at hz; cases hz
            · exact r
          obtain ⟨b', c', hv', hr'⟩ : ∃ b c, g'.tab k = .slice (some ⟨b, 0, none⟩) 4096 c ∧ RowAt w3 b 5 4096 (pgV M' k) := by
            rcases H'.pg k hlt with ⟨z, c, hv, hz2⟩ | r
            · rw [pageZ_iff.2 hz2] at hz'; cases hz'
            · exact r
          have q0 : ∀ n, (w3.drewN n).cell? ⟨g.q, 0, none⟩ = some (.slice (some ⟨g.p, 0, none⟩) 256 256) := fun n => H.p0
          have q1 : ∀ n, (w3.drewN n).cell? ⟨g'.q, 0, none⟩ = some (.slice (some ⟨g'.p, 0, none⟩) 256 256) := fun n => H'.p0
          have r0 : ∀ n, (w3.drewN n).cell? ⟨g.p, k, none⟩ = some (.slice (some ⟨b, 0, none⟩) 4096 c) := fun n => by rw [← hv]; exact H.p.cell hlt
          have r1 : ∀ n, (w3.drewN n).cell? ⟨g'.p, k, none⟩ = some (.slice (some ⟨b', 0, none⟩) 4096 c') := fun n => by rw [← hv']; exact H'.p.cell hlt
          have s0 := fun n => conv_pg (c := c) (hr.kept (w' := w3.drewN n) rfl)
          have s1 := fun n => conv_pg (c := c') (hr'.kept (w' := w3.drewN n) rfl)
          clear H H' hr hr' hv hv'
          cases he : eqPg M M' (524288 + k)
          · have hno := sameM_no (inP_k hlt) he
            have hne := str_nePg he
            have e3 := str_beq_no hne
            generalize (str 4096 fun i => M ((524288 + k) * 4096 + i)) = t0 at *
            generalize (str 4096 fun i => M' ((524288 + k) * 4096 + i)) = t1 at *
            clear hne
            go_wp2_with fail
            go_quiet (fail)
            go_wp2_with fail
            go_ret
            exact ⟨by rw [hno]; rfl, hst3.drewN _⟩
          · have he2 := str_eqPg he
            rw [← he2] at s1
            generalize (str 4096 fun i => M ((524288 + k) * 4096 + i)) = t0 at *
            clear he2
            go_wp2_with fail
            go_quiet (fail)
            go_wp2_with fail
            go_roundw
            case rel => exact ⟨k + 1, hlt, by simp, fun j hj => by
              rcases Nat.lt_succ_iff_lt_or_eq.1 hj with h1 | rfl
              · exact heq.out j h1
              · exact he, hst3.drewN _⟩
            case measure => exact hms
        · have hno := sameM_no (inP_k hlt) (eqPg_right hz hz')
          go_wp2_with fail
          go_quiet (fail)
          go_wp2_with fail
          go_ret
          exact ⟨by rw [hno]; rfl, hst3.drewN _⟩
      · cases hz' : pageZ M' (524288 + k)
        · have hno := sameM_no (inP_k hlt) (eqPg_left hz hz')
          go_wp2_with fail
          go_quiet (fail)
          go_wp2_with fail
          go_ret
          exact ⟨by rw [hno]; rfl, hst3.drewN _⟩
        · have he := eqPg_zero hz hz'
          go_wp2_with fail
          go_quiet (fail)
          go_wp2_with fail
          go_roundw
          case rel => exact ⟨k + 1, hlt, by simp, fun j hj => by
            rcases Nat.lt_succ_iff_lt_or_eq.1 hj with h1 | rfl
            · exact heq.out j h1
            · exact he, hst3.drewN _⟩
          case measure => exact hms
    · obtain rfl : k = 256 := by omega
      have q0 := (h.still hst).p0
      have hirr : ¬ ((256 : Nat) : Int) < 256 := by omega
      have hyes := sameM_all heq
      go_wp2_with fail
      go_ret
      exact ⟨rfl, hst⟩
end Go.Proofs.Ytnbifbllemcjfaa
