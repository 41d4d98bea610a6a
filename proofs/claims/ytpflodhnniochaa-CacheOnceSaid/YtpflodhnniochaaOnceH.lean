/-
  The walk of CacheOnce.
-/
import Derived.Test.YtpflodhnniochaaOnceG0
import Derived.Test.YtpflodhnniochaaOnceG1
import Derived.Test.YtpflodhnniochaaOnceG2
namespace Go.Proofs.Ytpflodhnniochaa
set_option linter.unusedVariables false
open Go.RowKit Go.Maps

theorem rowI_cell {w : World} {b : Nat} {d : Array Int} (h : RowI w b d) {i : Nat} (hi : i < d.size) : w.cell? ⟨b, i, none⟩ = some (.int .u64 (el d i)) := by
  obtain ⟨cs, t, h1, h2, h3⟩ := h
  simp [World.cell?, h1, h3 i hi]
theorem fr_flush (s : St) : Fr (flushS s) := fun i _ e => Bool.noConfusion e
set_option maxRecDepth 100000 in
set_option maxHeartbeats 400000000 in
theorem Once_fine (W : World) (sets ways ns delay : Nat) (hfine : Fine sets ways ns delay) (seed : BitVec 64) (oa : Option Addr) (n cap : Nat) (Lf : Nat → Int × BitVec 64 × Bool) (hl : StepsAt W oa n Lf) :
    Calls Try.prog 5 #[.agg (shapeC sets ways ns delay seed), .slice oa n cap] W fun e w' => e = .returned (.bool true) ∧ Below W.heap.size W w' := by
  have hmm := @run_makeMap Try.prog
  unfold shapeC
  go_enter Try.func5, Try.ntmps5
  go_wp2_with fail
  go_at_call 8
  have E0 := env_start W (shapeC sets ways ns delay seed)
  unfold shapeC at E0
  refine (fixed_any _).mono ?_
  rintro e w1 ⟨rfl, k1⟩
  have E1 : Env W (shapeC sets ways ns delay seed) w1 := E0.below k1
  clear E0 k1
  obtain ⟨c0, c1, c2, c3, c4⟩ := E1.cells
  go_wp2_with fail
  go_at_call 9
  refine (New_fine _ hfine seed).mono ?_
  rintro e w2 ⟨g, rfl, h2, k2, ho⟩
  have E2 := E1.still k2
  have hog : ∀ b, g.own b → W.heap.size < b := fun b e => Nat.lt_of_lt_of_le E1.lt (ho b e)
  clear c0 c1 c2 c3 c4 E1 k2 ho
  have D3 : Wd W (shapeC sets ways ns delay seed) g w2.heap.size (w2.heap.size + 1) (newS sets ways ns delay seed) (fun _ => 0) (fun _ => 0) ((w2.alloc (Obj.map #[] 0)).alloc (Obj.map #[] 0)) :=
    ⟨(E2.still ((Kept.refl _ w2).alloc _)).still ((Kept.refl _ _).alloc _), (h2.alloc _).alloc _, fun i hi e => by simp [newS] at e, (mapU_made w2).still ((Kept.refl _ _).alloc _), by have := mapU_made (w2.alloc (Obj.map #[] 0)); rwa [World.size_alloc] at this⟩
  have ap : Apt W g w2.heap.size (w2.heap.size + 1) := ⟨hog, ⟨E2.lt, fun e => Nat.lt_irrefl _ (h2.lt e)⟩, ⟨Nat.lt_succ_of_lt E2.lt, fun e => absurd (h2.lt e) (by omega)⟩, by omega⟩
  have O3 : Ost W (shapeC sets ways ns delay seed) sets ways ns g w2.heap.size (w2.heap.size + 1) _ _ _ _ := ⟨D3, law_start (ok_new hfine), rfl, rfl, rfl⟩
  clear D3 E2 h2 hog
  go_wp2_with fail
  generalize (w2.alloc (Obj.map #[] 0)).alloc (Obj.map #[] 0) = w3 at O3 ⊢
  generalize w2.heap.size + 1 = mp at O3 ap ⊢
  generalize w2.heap.size = mt at O3 ap ⊢
  clear hmm
  go_loopw [8] (fun iv wr => ∃ (k : Nat) (s : St) (T P : BitVec 64 → Nat), k ≤ n ∧ iv = .int .i64 k ∧ Ost W (shapeC sets ways ns delay seed) sets ways ns g mt mp s T P wr) (fun iv _ => n - (intOf iv).toNat)
  case atStart => exact ⟨0, _, _, _, Nat.zero_le _, rfl, O3⟩
  case round =>
    obtain ⟨k, s, T, P, hk, rfl, O⟩ := hrel
    clear O3
    by_cases hkn : k < n
    · obtain ⟨a, rfl, hab, hcl⟩ := hl.2 (by omega)
      have hin2 : (k : Int) < (n : Int) := by omega
      have hi0 : 0 ≤ (k : Int) := by omega
      have hnm : (n : Int) ≤ 9223372036854775807 := by have := hl.1; rw [maxLen_is] at this; omega
      obtain ⟨_, d0, d1, d2⟩ := step1_of hab hcl O.wd.env hkn
      clear hcl
      by_cases hkind : (Lf k).1 = 0
      · refine Once_0 W sets ways ns delay hfine seed g _ _ ap a n cap k _ (Lf k).2.1 (Lf k).2.2 wr s T P O hkn hin2 hi0 hnm d0 d1 d2 hkind _ (hide ?_)
        intro hrel2
        show _ ∧ _
        go_roundw
        case rel => exact hrel2.1
        case measure => exact hrel2.2
      have hk0 := hkind
      clear hkind
      by_cases hkind : (Lf k).1 = 1
      · refine Once_1 W sets ways ns delay hfine seed g _ _ ap a n cap k _ (Lf k).2.1 (Lf k).2.2 wr s T P O hkn hin2 hi0 hnm d0 d1 d2 hkind _ (hide ?_)
        intro hrel2
        show _ ∧ _
        go_roundw
        case rel => exact hrel2.1
        case measure => exact hrel2.2
      have hk1 := hkind
      refine Once_2 W sets ways ns delay hfine seed g _ _ ap a n cap k _ (Lf k).2.1 (Lf k).2.2 wr s T P O hkn hin2 hi0 hnm d0 d1 d2 hk0 hk1 _ (hide ?_)
      intro hrel2
      show _ ∧ _
      go_roundw
      case rel => exact hrel2.1
      case measure => exact hrel2.2
    · obtain rfl : k = n := by omega
      clear hk
      have hmtl := O.wd.tm.lt
      have hmpl := O.wd.pm.lt
      go_wp2_with fail
      go_at_call 20
      refine (Flush_all _ g s O.wd.held).mono ?_
      rintro e w6 ⟨v, L, rfl, hperm, hris, hout, h6, k6⟩
      have hO := hide (law_out O.law hperm hris)
      have D6 := O.wd.own ap h6 (fr_flush s) k6
      have hfT := hide O.law.fewT
      have hT2 := hide O.law.le2
      have hlen : L.length ≤ 512 := by rw [hperm.length_eq]; exact Nat.le_trans (out_length s s.n) O.law.con.ok.n_le.2
      have hsl : ∃ z zc, v = .slice z L.length zc ∧ (0 < L.length → ∃ b, z = some ⟨b, 0, none⟩ ∧ b ≠ mt ∧ b ≠ mp ∧ RowI w6 b (uArr L)) := by
        rcases hout with ⟨rfl, rfl⟩ | ⟨gb, zc, rfl, hlo, hr⟩
        · exact ⟨none, 0, rfl, fun e => absurd e (Nat.lt_irrefl _)⟩
        · exact ⟨_, zc, rfl, fun _ => ⟨gb, rfl, fun e => Nat.lt_irrefl _ (Nat.lt_of_lt_of_le hmtl (e ▸ hlo)), fun e => Nat.lt_irrefl _ (Nat.lt_of_lt_of_le hmpl (e ▸ hlo)), hr⟩⟩
      obtain ⟨z, zc, rfl, hrow⟩ := hsl
      replace hrow := hide hrow
      clear hout hperm hris k6 h6 O hmtl hmpl
      as_aux_lemma =>
        go_wp2_with fail
        go_loopw [18] (fun jv wr => ∃ j : Nat, j ≤ L.length ∧ jv = .int .i64 j ∧ Wd W (shapeC sets ways ns delay seed) g mt mp (flushS s) (ones T (L.take j)) P wr ∧ Kept (Two2 mt mp) w6 wr) (fun jv _ => L.length - (intOf jv).toNat)
        case atStart => exact ⟨0, Nat.zero_le _, rfl, D6, Kept.refl _ _⟩
        case round =>
          obtain ⟨j, hj, rfl, D7, k7⟩ := hrel
          clear D6
          by_cases hjl : j < L.length
          · obtain ⟨b, rfl, hbt, hbp, hr⟩ := hrow.out (by omega)
            have hjl2 : (j : Int) < (L.length : Int) := by omega
            have hj0 : 0 ≤ (j : Int) := by omega
            have hms2 := meas_succ2 hjl
            have hj1 : j + 1 ≤ L.length := hjl
            have hb2 : ¬ Two2 mt mp b := fun e => e.elim hbt hbp
            have x0 : wr.cell? ⟨b, j, none⟩ = some (.int .u64 (U L[j])) := by have := k7.cell (rowI_cell hr (i := j) (by rw [uArr_size]; exact hjl)) hb2; rwa [uArr_el L hjl] at this
            have hx2 := out_at hO.out hjl
            have hlo : ∀ n, (Instr.lookup 51 (.map (some mt)) (.int .u64 (U L[j])) false).run Try.prog (wr.drewN n) = .ok (.int .i64 2) (wr.drewN n) := fun n => by have := (D7.drewN n).tm.get L[j]; rw [hx2] at this; exact this
            have htk : Hid (ones T (L.take (j + 1)) = updN (ones T (L.take j)) L[j] 1) := hide (by rw [List.take_add_one, List.getElem?_eq_getElem hjl]; exact ones_snoc _ _ _)
            have hput : ∀ n, ∃ w', (Instr.mapUpdate 51 (.map (some mt)) (.int .u64 (U L[j])) (.int .i64 1)).run Try.prog (wr.drewN n) = .ok () w' ∧ Wd W (shapeC sets ways ns delay seed) g mt mp (flushS s) (ones T (L.take (j + 1))) P w' ∧ Kept (Two2 mt mp) w6 w' := fun n => by
              obtain ⟨w', h1, h2, h3⟩ := (D7.drewN n).putT ap (few_ones hfT.out (L.take j)) (by rw [List.length_take]; omega) L[j] (n := 1) (by decide) (by decide)
              exact ⟨w', h1, by rw [htk.out]; exact h2, (k7.drewN n).turnT h3⟩
            replace hput := hide hput
            by_cases hjp : 0 < j
            · obtain ⟨i, rfl⟩ : ∃ i, j = i + 1 := ⟨j - 1, by omega⟩
              have hlt3 := hO.out.rises i hjl
              have x1 : wr.cell? ⟨b, i, none⟩ = some (.int .u64 (U L[i])) := by have := k7.cell (rowI_cell hr (i := i) (by rw [uArr_size]; omega)) hb2; rwa [uArr_el L (by omega)] at this
              have hnle : ¬ U L[i + 1] ≤ U L[i] := by unfold U; omega
              replace hlt3 := hide hlt3
              clear hr htk hx2 D7 k7
              go_wp2_with fail
              go_quiet (fail)
              obtain ⟨w7, hp, D8, k8⟩ := hput.out nq
              clear hput
              go_wp2_with fail
              go_roundw
              case rel => exact ⟨i + 1 + 1, hj1, by simp, D8, k8⟩
              case measure => exact hms2
            · obtain rfl : j = 0 := by omega
              clear hr htk hx2 D7 k7
              go_wp2_with fail
              go_quiet (fail)
              obtain ⟨w7, hp, D8, k8⟩ := hput.out nq
              clear hput
              go_wp2_with fail
              go_roundw
              case rel => exact ⟨1, hj1, by simp, D8, k8⟩
              case measure => exact hms2
          · obtain rfl : j = L.length := by omega
            rw [List.take_length] at D7
            have hend := hide (fun A => out_end hO.out A)
            clear k7 hO hrow hlen hfT hT2
            generalize ones T L = T9 at D7 hend
            as_aux_lemma =>
              go_wp2_with fail
              go_loopw [19] (fun jv wr => ∃ j : Nat, j ≤ k ∧ jv = .int .i64 j ∧ Wd W (shapeC sets ways ns delay seed) g mt mp (flushS s) T9 P wr) (fun jv _ => k - (intOf jv).toNat)
              case atStart => exact ⟨0, Nat.zero_le _, rfl, D7⟩
              case round =>
                obtain ⟨j, hj, rfl, D8⟩ := hrel
                clear D7
                by_cases hjk : j < k
                · obtain ⟨a, rfl, hab, hcl⟩ := hl.2 (by omega)
                  have hin2 : (j : Int) < (k : Int) := by omega
                  have hi0 : 0 ≤ (j : Int) := by omega
                  have hnm : (k : Int) ≤ 9223372036854775807 := by have := hl.1; rw [maxLen_is] at this; omega
                  have hms2 := meas_succ2 hjk
                  have hj1 : j + 1 ≤ k := hjk
                  obtain ⟨_, d0, d1, d2⟩ := step1_of hab hcl D8.env hjk
                  clear hcl
                  go_wp2_with fail
                  go_at_call 16
                  refine (Has_any _ g _ _ D8.held).mono ?_
                  rw [has_flush]
                  rintro e w9 ⟨rfl, k9⟩
                  have D9 := D8.still k9
                  clear D8 k9 d0 d1 d2
                  generalize ((Lf j).2.1 ||| 9223372036854775808#64) &&& 18446744073709551552#64 = A
                  have hne := hend.out A
                  obtain ⟨tv, htv⟩ : ∃ tv, T9 A = tv := ⟨_, rfl⟩
                  have l1 : (Instr.lookup 51 (.map (some mt)) (.int .u64 (U A)) false).run Try.prog w9 = .ok (.int .i64 (tv : Int)) w9 := by have := D9.tm.get A; rw [htv] at this; exact this
                  rw [htv] at hne
                  have hne2 : ((tv : Int) == 2) = false := by simp; omega
                  clear hne htv
                  go_wp2_with fail
                  go_roundw
                  case rel => exact ⟨j + 1, hj1, by simp, D9⟩
                  case measure => exact hms2
                · obtain rfl : j = k := by omega
                  have hB := D8.env.1
                  go_wp2_with fail
                  go_at_call 18
                  refine (Under_lit _ g _ 0 (by rw [under_flush]; rfl) D8.held).mono ?_
                  rintro e w9 ⟨rfl, k9⟩
                  have hB := (D8.env.still k9).1
                  clear D8 k9
                  go_wp2
                  go_ret
                  exact ⟨rfl, hB⟩
theorem Once_walk (W : World) (a b c d : Int) (seed : BitVec 64) (oa : Option Addr) (n cap : Nat) (Lf : Nat → Int × BitVec 64 × Bool) (hl : StepsAt W oa n Lf) :
    Calls Try.prog 5 #[.agg (shapeC a b c d seed), .slice oa n cap] W fun e w' => e = .returned (.bool true) ∧ Below W.heap.size W w' := by
  by_cases h : Bad a b c d
  · exact Once_bad W a b c d seed _ h
  · obtain ⟨a, b, c, d, rfl, rfl, rfl, rfl, hf⟩ := fine_of h
    exact Once_fine W a b c d hf seed oa n cap Lf hl
end Go.Proofs.Ytpflodhnniochaa
