/-
  A round of IssueGoes' loop: case 1.
-/
import Derived.Test.YtaeggnnijafooaaIssueGD
namespace Go.Proofs.Ytaeggnnijafooaa
set_option linter.unusedVariables false
open Go.RowKit Go.Maps

set_option maxRecDepth 100000 in
set_option maxHeartbeats 400000000 in
theorem Goes_1 (W : World) (l : List Sx) (cap : Nat) (i0 : TypeInfo) (hi : Try.prog.info? 30 = some i0) (hz0 : i0.zero = some (.agg #[.int .i64 0, .int .i64 0, .int .i64 0, .int .i64 0, .int .i64 0])) (hz1 : i0.size = 5) (hz2 : i0.bytes = 40) (w2 : World) (q : Nat) (wr : World)
    (u2 u4 u6 u7 u8 u9 u10 u11 u12 u13 u14 u15 u16 u17 u18 u19 u20 u21 u22 u23 u24 u25 u26 u31 u32 u33 u34 u35 u36 u37 u38 u39 u40 u41 u42 u43 u44 u45 u46 u47 u48 u49 u50 u51 u52 u53 u54 u55 u56 u57 u58 u59 u60 u61 u62 u63 u64 u65 u66 u67 u68 u69 u70 u71 u72 u73 u74 u75 u76 u77 u78 u79 u80 u81 u82 u83 u84 u85 u86 u87 u88 u89 u90 u91 u92 u93 u94 u95 u96 u97 u98 u99 u100 u101 u102 u103 u104 u105 u106 u107 u108 u109 u110 u111 u112 u113 u114 u115 u116 u117 u118 u119 u120 u121 u122 u123 u124 u125 u126 u127 u128 u129 u130 u131 u132 u133 u134 u135 u136 u137 u138 u139 u140 u141 u142 u143 u144 u145 u146 u147 u148 u149 u150 u151 u152 u153 u154 u155 u156 u157 u158 u159 u160 u161 u162 u163 u164 u165 u166 u167 u168 u169 u170 u171 u172 u173 u174 u175 u176 u177 u178 u179 u180 u181 u182 u183 u184 u185 u186 u187 u188 u189 u190 u191 u192 u193 u194 u195 u196 u197 u198 u199 u200 u201 u202 u203 u204 u205 u206 u207 u208 u209 u210 u211 u212 u213 u214 u215 u216 u217 u218 u219 u220 u221 u222 u223 u224 u225 u226 u227 u228 u229 u230 u231 u232 u233 u234 u235 u236 u237 u238 u239 u240 u241 u242 u243 u244 u245 u246 u247 u248 u249 u250 u251 u252 u253 u254 u255 u256 u257 u258 u259 u260 u261 u262 u263 u264 u265 u266 u267 u268 u269 u270 u271 u272 u273 u274 u275 u276 : Value)
    (i m : Nat) (bl : Int → Nat) (s inn : List En) (hperm : inn.Perm s) (hin : i < l.length) (a : Addr) (x : Sx) (hnw : (Lit.int .i64 x.n).wf = true) (huw : EnWf x.u) (hfw : ∀ k, (Lit.int .i64 (x.f k)).wf = true)
    (d0 : wr.cell? (a.add (i * 12)) = some (.int .i64 x.kind)) (d1 : wr.cell? ⟨(a.add (i * 12)).block, (a.add (i * 12)).off + 1, none⟩ = some (.int .i64 x.n)) (d2 : wr.cell? ⟨(a.add (i * 12)).block, (a.add (i * 12)).off + 2, none⟩ = some (.int .i64 x.u.tag)) (d3 : wr.cell? ⟨(a.add (i * 12)).block, (a.add (i * 12)).off + 3, none⟩ = some (.int .i64 x.u.unit)) (d4 : wr.cell? ⟨(a.add (i * 12)).block, (a.add (i * 12)).off + 4, none⟩ = some (.int .i64 x.u.a)) (d5 : wr.cell? ⟨(a.add (i * 12)).block, (a.add (i * 12)).off + 5, none⟩ = some (.int .i64 x.u.b)) (d6 : wr.cell? ⟨(a.add (i * 12)).block, (a.add (i * 12)).off + 6, none⟩ = some (.int .i64 x.u.c)) (d7 : wr.cell? ⟨(a.add (i * 12)).block, (a.add (i * 12)).off + 7, none⟩ = some (.int .i64 (x.f 0))) (d8 : wr.cell? ⟨(a.add (i * 12)).block, (a.add (i * 12)).off + 8, none⟩ = some (.int .i64 (x.f 1))) (d9 : wr.cell? ⟨(a.add (i * 12)).block, (a.add (i * 12)).off + 9, none⟩ = some (.int .i64 (x.f 2))) (d10 : wr.cell? ⟨(a.add (i * 12)).block, (a.add (i * 12)).off + 10, none⟩ = some (.int .i64 (x.f 3))) (d11 : wr.cell? ⟨(a.add (i * 12)).block, (a.add (i * 12)).off + 11, none⟩ = some (.int .i64 (x.f 4)))
    (hin2 : (i : Int) < (l.length : Int)) (hi0 : 0 ≤ (i : Int)) (hnm : (l.length : Int) ≤ 9223372036854775807)
    (hX : XAt (wr.alloc (.cells #[.int .i64 x.kind, .int .i64 x.n, .int .i64 x.u.tag, .int .i64 x.u.unit, .int .i64 x.u.a, .int .i64 x.u.b, .int .i64 x.u.c, .int .i64 (x.f 0), .int .i64 (x.f 1), .int .i64 (x.f 2), .int .i64 (x.f 3), .int .i64 (x.f 4)] 33)) wr.heap.size x) (G5 : Goe W (wr.alloc (.cells #[.int .i64 x.kind, .int .i64 x.n, .int .i64 x.u.tag, .int .i64 x.u.unit, .int .i64 x.u.a, .int .i64 x.u.b, .int .i64 x.u.c, .int .i64 (x.f 0), .int .i64 (x.f 1), .int .i64 (x.f 2), .int .i64 (x.f 3), .int .i64 (x.f 4)] 33)) ⟨q, m, bl⟩ u4 s inn) (hsrt : Sorted s) (hroom : (s.length : Int) ≤ 64) (hil2 : inn.length ≤ 64) (hxb : Hid (∀ y, (G.own ⟨q, m, bl⟩ s y ∨ u4.ownBlock = some y) → y < wr.heap.size)) (hil : Hid (inn.length = s.length))
    (hk0 : ¬ x.kind = 0) (hk1 : x.kind = 1) (Q : Exit → Act → World → Prop)
    (hR : Hid (∀ {u2 u4 u5 u6 u7 u8 u9 u10 u11 u12 u13 u14 u15 u16 u17 u18 u19 u20 u21 u22 u23 u24 u25 u26 u31 u32 u33 u34 u35 u36 u37 u38 u39 u40 u41 u42 u43 u44 u45 u46 u47 u48 u49 u50 u51 u52 u53 u54 u55 u56 u57 u58 u59 u60 u61 u62 u63 u64 u65 u66 u67 u68 u69 u70 u71 u72 u73 u74 u75 u76 u77 u78 u79 u80 u81 u82 u83 u84 u85 u86 u87 u88 u89 u90 u91 u92 u93 u94 u95 u96 u97 u98 u99 u100 u101 u102 u103 u104 u105 u106 u107 u108 u109 u110 u111 u112 u113 u114 u115 u116 u117 u118 u119 u120 u121 u122 u123 u124 u125 u126 u127 u128 u129 u130 u131 u132 u133 u134 u135 u136 u137 u138 u139 u140 u141 u142 u143 u144 u145 u146 u147 u148 u149 u150 u151 u152 u153 u154 u155 u156 u157 u158 u159 u160 u161 u162 u163 u164 u165 u166 u167 u168 u169 u170 u171 u172 u173 u174 u175 u176 u177 u178 u179 u180 u181 u182 u183 u184 u185 u186 u187 u188 u189 u190 u191 u192 u193 u194 u195 u196 u197 u198 u199 u200 u201 u202 u203 u204 u205 u206 u207 u208 u209 u210 u211 u212 u213 u214 u215 u216 u217 u218 u219 u220 u221 u222 u223 u224 u225 u226 u227 u228 u229 u230 u231 u232 u233 u234 u235 u236 u237 u238 u239 u240 u241 u242 u243 u244 u245 u246 u247 u248 u249 u250 u251 u252 u253 u254 u255 u256 u257 u258 u259 u260 u261 u262 u263 u264 u265 u266 u267 u268 u269 u270 u271 u272 u273 u274 u275 u276 : Value} {w' : World}, (∃ (i m : Nat) (bl : Int → Nat) (s inn : List En), i ≤ l.length ∧ u5 = .int .i64 i ∧ Goe W w' ⟨q, m, bl⟩ u4 s inn ∧ inn.Perm s) ∧ l.length - (intOf u5).toNat < l.length - (intOf (.int .i64 (i : Int))).toNat → Q .normal ⟨List.toArray ((.slice (some a) l.length cap) :: undef :: u2 :: (.pointer (some ⟨q, 0, none⟩)) :: u4 :: u5 :: u6 :: u7 :: u8 :: u9 :: u10 :: u11 :: u12 :: u13 :: u14 :: u15 :: u16 :: u17 :: u18 :: u19 :: u20 :: u21 :: u22 :: u23 :: u24 :: u25 :: u26 :: (.bool true) :: (.bool false) :: (.pointer (some ⟨q, 0, none⟩)) :: (.slice (some ⟨w2.heap.size, 0, none⟩) 0 0) :: u31 :: u32 :: u33 :: u34 :: u35 :: u36 :: u37 :: u38 :: u39 :: u40 :: u41 :: u42 :: u43 :: u44 :: u45 :: u46 :: u47 :: u48 :: u49 :: u50 :: u51 :: u52 :: u53 :: u54 :: u55 :: u56 :: u57 :: u58 :: u59 :: u60 :: u61 :: u62 :: u63 :: u64 :: u65 :: u66 :: u67 :: u68 :: u69 :: u70 :: u71 :: u72 :: u73 :: u74 :: u75 :: u76 :: u77 :: u78 :: u79 :: u80 :: u81 :: u82 :: u83 :: u84 :: u85 :: u86 :: u87 :: u88 :: u89 :: u90 :: u91 :: u92 :: u93 :: u94 :: u95 :: u96 :: u97 :: u98 :: u99 :: u100 :: u101 :: u102 :: u103 :: u104 :: u105 :: u106 :: u107 :: u108 :: u109 :: u110 :: u111 :: u112 :: u113 :: u114 :: u115 :: u116 :: u117 :: u118 :: u119 :: u120 :: u121 :: u122 :: u123 :: u124 :: u125 :: u126 :: u127 :: u128 :: u129 :: u130 :: u131 :: u132 :: u133 :: u134 :: u135 :: u136 :: u137 :: u138 :: u139 :: u140 :: u141 :: u142 :: u143 :: u144 :: u145 :: u146 :: u147 :: u148 :: u149 :: u150 :: u151 :: u152 :: u153 :: u154 :: u155 :: u156 :: u157 :: u158 :: u159 :: u160 :: u161 :: u162 :: u163 :: u164 :: u165 :: u166 :: u167 :: u168 :: u169 :: u170 :: u171 :: u172 :: u173 :: u174 :: u175 :: u176 :: u177 :: u178 :: u179 :: u180 :: u181 :: u182 :: u183 :: u184 :: u185 :: u186 :: u187 :: u188 :: u189 :: u190 :: u191 :: u192 :: u193 :: u194 :: u195 :: u196 :: u197 :: u198 :: u199 :: u200 :: u201 :: u202 :: u203 :: u204 :: u205 :: u206 :: u207 :: u208 :: u209 :: u210 :: u211 :: u212 :: u213 :: u214 :: u215 :: u216 :: u217 :: u218 :: u219 :: u220 :: u221 :: u222 :: u223 :: u224 :: u225 :: u226 :: u227 :: u228 :: u229 :: u230 :: u231 :: u232 :: u233 :: u234 :: u235 :: u236 :: u237 :: u238 :: u239 :: u240 :: u241 :: u242 :: u243 :: u244 :: u245 :: u246 :: u247 :: u248 :: u249 :: u250 :: u251 :: u252 :: u253 :: u254 :: u255 :: u256 :: u257 :: u258 :: u259 :: u260 :: u261 :: u262 :: u263 :: u264 :: u265 :: u266 :: u267 :: u268 :: u269 :: u270 :: u271 :: u272 :: u273 :: u274 :: u275 :: u276 :: []), []⟩ w')) :
    Code.wp Try.prog goesBody Q ⟨List.toArray ((.slice (some a) l.length cap) :: undef :: u2 :: (.pointer (some ⟨q, 0, none⟩)) :: u4 :: (.int .i64 i) :: u6 :: u7 :: u8 :: u9 :: u10 :: u11 :: u12 :: u13 :: u14 :: u15 :: u16 :: u17 :: u18 :: u19 :: u20 :: u21 :: u22 :: u23 :: u24 :: u25 :: u26 :: (.bool true) :: (.bool false) :: (.pointer (some ⟨q, 0, none⟩)) :: (.slice (some ⟨w2.heap.size, 0, none⟩) 0 0) :: u31 :: u32 :: u33 :: u34 :: u35 :: u36 :: u37 :: u38 :: u39 :: u40 :: u41 :: u42 :: u43 :: u44 :: u45 :: u46 :: u47 :: u48 :: u49 :: u50 :: u51 :: u52 :: u53 :: u54 :: u55 :: u56 :: u57 :: u58 :: u59 :: u60 :: u61 :: u62 :: u63 :: u64 :: u65 :: u66 :: u67 :: u68 :: u69 :: u70 :: u71 :: u72 :: u73 :: u74 :: u75 :: u76 :: u77 :: u78 :: u79 :: u80 :: u81 :: u82 :: u83 :: u84 :: u85 :: u86 :: u87 :: u88 :: u89 :: u90 :: u91 :: u92 :: u93 :: u94 :: u95 :: u96 :: u97 :: u98 :: u99 :: u100 :: u101 :: u102 :: u103 :: u104 :: u105 :: u106 :: u107 :: u108 :: u109 :: u110 :: u111 :: u112 :: u113 :: u114 :: u115 :: u116 :: u117 :: u118 :: u119 :: u120 :: u121 :: u122 :: u123 :: u124 :: u125 :: u126 :: u127 :: u128 :: u129 :: u130 :: u131 :: u132 :: u133 :: u134 :: u135 :: u136 :: u137 :: u138 :: u139 :: u140 :: u141 :: u142 :: u143 :: u144 :: u145 :: u146 :: u147 :: u148 :: u149 :: u150 :: u151 :: u152 :: u153 :: u154 :: u155 :: u156 :: u157 :: u158 :: u159 :: u160 :: u161 :: u162 :: u163 :: u164 :: u165 :: u166 :: u167 :: u168 :: u169 :: u170 :: u171 :: u172 :: u173 :: u174 :: u175 :: u176 :: u177 :: u178 :: u179 :: u180 :: u181 :: u182 :: u183 :: u184 :: u185 :: u186 :: u187 :: u188 :: u189 :: u190 :: u191 :: u192 :: u193 :: u194 :: u195 :: u196 :: u197 :: u198 :: u199 :: u200 :: u201 :: u202 :: u203 :: u204 :: u205 :: u206 :: u207 :: u208 :: u209 :: u210 :: u211 :: u212 :: u213 :: u214 :: u215 :: u216 :: u217 :: u218 :: u219 :: u220 :: u221 :: u222 :: u223 :: u224 :: u225 :: u226 :: u227 :: u228 :: u229 :: u230 :: u231 :: u232 :: u233 :: u234 :: u235 :: u236 :: u237 :: u238 :: u239 :: u240 :: u241 :: u242 :: u243 :: u244 :: u245 :: u246 :: u247 :: u248 :: u249 :: u250 :: u251 :: u252 :: u253 :: u254 :: u255 :: u256 :: u257 :: u258 :: u259 :: u260 :: u261 :: u262 :: u263 :: u264 :: u265 :: u266 :: u267 :: u268 :: u269 :: u270 :: u271 :: u272 :: u273 :: u274 :: u275 :: u276 :: []), []⟩ wr := by
  have hms := meas_k hin
  conv => arg 2; whnf
  rw [hk1] at hX G5
  go_wp2_with fail
  go_at_call 13
  refine (Wake_any _ _ 64 x.n s G5.q hnw).mono ?_
  rintro e w6 ⟨rfl, h6, k6⟩
  have hX6 := hX.kept k6 fun e => Nat.lt_irrefl _ (hxb.out _ (.inl e))
  have G6 := G5.qs h6 k6 (fun y hy => .inl (own_wake hy))
  replace G6 := G6.as (held_str G6.q) (fun y hy => own_to (strike_tag x.n) (own_map (s := s) (f := strK x.n 3) (fun e => rfl) hy))
  have hperm6 : (inn.map (strK x.n 3)).Perm (s.map (strK x.n 3)) := hperm.map _
  clear G5 k6 hX h6
  generalize wr.heap.size = xb at *
  obtain ⟨z, zc, hz, -⟩ := G6.row.form
  subst hz
  go_wp2_with fail
  go_loopw [7] (fun kv wr' => ∃ (d r : List En), inn = d ++ r ∧ kv = .int .i64 d.length ∧ Goe W wr' ⟨q, m, bl⟩ (.slice z inn.length zc) (s.map (strK x.n 3)) (d.map (strK x.n 3) ++ r) ∧ XAt wr' xb x) (fun kv _ => inn.length - (intOf kv).toNat)
  case atStart => exact ⟨[], inn, rfl, rfl, G6, hX6⟩
  case round =>
    clear G6 hX6
    obtain ⟨d, r, hd, rfl, G7, hX7⟩ := hrel
    have hsl : inn.length = d.length + r.length := by rw [hd, List.length_append]
    have hdk : (d.length : Int) < 1000 := by omega
    cases r with
    | nil =>
      obtain rfl : inn = d := by rw [hd, List.append_nil]
      rw [List.append_nil] at G7
      have hnot : ¬ (inn.length : Int) < (inn.length : Int) := Int.lt_irrefl _
      have hlm : ∀ z c, Value.slice z inn.length c = Value.slice z (inn.map (strK x.n 3)).length c := fun z c => by rw [List.length_map]
      rw [hlm] at G7
      clear hd hsl hX7
      have hlen9 := G7.q.room.1
      rw [hlm]
      clear hlm
      go_wp2_with fail
      go_at_call 20
      refine (Tags_ints _ _ 64 _ G7.q).mono ?_
      rintro e w9 ⟨v9, rfl, i9, k9⟩
      obtain ⟨z10, c10, hv10, -⟩ := i9
      have hl10 : ∀ z c, Value.slice z (tags (s.map (strK x.n 3))).length c = Value.slice z inn.length c := fun z c => by rw [length_tags, ← hperm6.length_eq, List.length_map]
      rw [hl10] at hv10
      subst hv10
      have G9 := G7.on k9
      clear k9 hl10
      go_wp2
      exact hR.out ⟨⟨i + 1, m, bl, s.map (strK x.n 3), inn.map (strK x.n 3), hin, by simp, (by have h := G9; rw [List.length_map] at h; exact h), hperm6⟩, hms⟩
    | cons e r =>
      have hin3 : (d.length : Int) < (inn.length : Int) := by simp at hsl; omega
      have hin0 : 0 ≤ (d.length : Int) := by omega
      have hms2 := meas_k (k := d.length) (n := inn.length) (by simp at hsl; omega)
      have hd2 : inn = (d ++ [e]) ++ r := by rw [hd]; simp
      have hmap : (d ++ [e]).map (strK x.n 3) = d.map (strK x.n 3) ++ [strK x.n 3 e] := by simp
      have hln : ∀ e' : En, inn.length = (d.map (strK x.n 3) ++ e' :: r).length := fun e' => by rw [hd]; simp
      have hzz : ∃ rb, z = some ⟨rb, 0, none⟩ := by
        obtain ⟨z', c', hv, hz'⟩ := G7.row.form
        injection hv with h1 h2 h3
        obtain ⟨b', hb', -⟩ := hz' (by simp; omega)
        exact ⟨b', h1.trans hb'⟩
      obtain ⟨rb, rfl⟩ := hzz
      have hrbx : rb < xb := hxb.out rb (.inr rfl)
      have hdl : (d.map (strK x.n 3)).length = d.length := List.length_map _
      replace hd2 := hide hd2
      replace hmap := hide hmap
      replace hln := hide hln
      replace hdl := hide hdl
      clear hd hsl
      go_wp2_with fail
      go_loopw [8] (fun jv wr' => ∃ j : Nat, j ≤ 3 ∧ jv = .int .i64 j ∧ Goe W wr' ⟨q, m, bl⟩ (.slice (some ⟨rb, 0, none⟩) inn.length zc) (s.map (strK x.n 3)) (d.map (strK x.n 3) ++ strK x.n j e :: r) ∧ XAt wr' xb x) (fun jv _ => 3 - (intOf jv).toNat)
      case atStart => exact ⟨0, Nat.zero_le _, rfl, G7, hX7⟩
      case round =>
        clear G7 hX7
        obtain ⟨j, hj, rfl, G8, hX8⟩ := hrel
        by_cases hj3 : j < 3
        · have hms3 := meas3 hj3
          have dj := G8.at.nth hj3
          rw [hdl.out] at dj
          have x1 := hX8.d1
          have hj0 : 0 ≤ (j : Int) := by omega
          have hj3' : (j : Int) < 3 := by omega
          by_cases hy : nth (strK x.n j e) j = x.n
          · rw [hy] at dj
            replace hy := hide hy
            go_wp2_with fail
            go_quiet (fail)
            have G9 := G8.on ((Kept.refl (fun _ => False) wr).drewN nq)
            have hX9 := hX8.kept ((Kept.refl (fun _ => False) wr).drewN nq) (fun e => e)
            generalize wr.drewN nq = wq3 at *
            have hr6 := G9.row
            unfold URow at hr6
            rw [← hln.out] at hr6
            have hfr := World.ownsRow.frozenAt hr6 (d.length * 5 + 2 + j)
            have dj2 := G9.at.nth hj3
            rw [hdl.out] at dj2
            have G10 := G9.put (hln.out _) hj3 hy.out
            rw [hdl.out] at G10
            have hX10 := hX9.kept (S := fun b => b = rb) ((Kept.refl _ wq3).setCell ⟨rb, d.length * 5 + 2 + j, none⟩ (.int .i64 (-1)) (.inl rfl)) (fun e => by omega)
            clear hr6 G8 hX8 G9 hX9
            go_wp2
            go_roundw
            case rel => exact ⟨j + 1, hj3, by simp, G10, hX10⟩
            case measure => exact hms3
          · have hst := strK_step hj3 hy
            generalize hyy : nth (strK x.n j e) j = y at dj hy
            replace hst := hide hst
            clear hyy
            go_wp2_with fail
            go_quiet (fail)
            have G9 := G8.on ((Kept.refl (fun _ => False) wr).drewN nq)
            have hX9 := hX8.kept ((Kept.refl (fun _ => False) wr).drewN nq) (fun e => e)
            generalize wr.drewN nq = wq3 at *
            go_wp2
            go_roundw
            case rel => exact ⟨j + 1, hj3, by simp, by rw [hst.out]; exact G9, hX9⟩
            case measure => exact hms3
        · obtain rfl : j = 3 := by omega
          have hj3 : ¬ (3 : Int) < 3 := by omega
          go_wp2
          go_roundw
          case rel => exact ⟨d ++ [e], r, hd2.out, by simp, by rw [hmap.out]; simpa using G8, hX8⟩
          case measure => exact hms2
end Go.Proofs.Ytaeggnnijafooaa
