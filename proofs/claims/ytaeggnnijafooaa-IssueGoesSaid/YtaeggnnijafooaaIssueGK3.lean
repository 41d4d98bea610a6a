/-
  A round of IssueGoes' loop: case 3.
-/
import Derived.Test.YtaeggnnijafooaaIssueGD
namespace Go.Proofs.Ytaeggnnijafooaa
set_option linter.unusedVariables false
open Go.RowKit Go.Maps

set_option maxRecDepth 100000 in
set_option maxHeartbeats 400000000 in
theorem Goes_3 (W : World) (l : List Sx) (cap : Nat) (i0 : TypeInfo) (hi : Try.prog.info? 30 = some i0) (hz0 : i0.zero = some (.agg #[.int .i64 0, .int .i64 0, .int .i64 0, .int .i64 0, .int .i64 0])) (hz1 : i0.size = 5) (hz2 : i0.bytes = 40) (w2 : World) (q : Nat) (wr : World)
    (u2 u4 u6 u7 u8 u9 u10 u11 u12 u13 u14 u15 u16 u17 u18 u19 u20 u21 u22 u23 u24 u25 u26 u31 u32 u33 u34 u35 u36 u37 u38 u39 u40 u41 u42 u43 u44 u45 u46 u47 u48 u49 u50 u51 u52 u53 u54 u55 u56 u57 u58 u59 u60 u61 u62 u63 u64 u65 u66 u67 u68 u69 u70 u71 u72 u73 u74 u75 u76 u77 u78 u79 u80 u81 u82 u83 u84 u85 u86 u87 u88 u89 u90 u91 u92 u93 u94 u95 u96 u97 u98 u99 u100 u101 u102 u103 u104 u105 u106 u107 u108 u109 u110 u111 u112 u113 u114 u115 u116 u117 u118 u119 u120 u121 u122 u123 u124 u125 u126 u127 u128 u129 u130 u131 u132 u133 u134 u135 u136 u137 u138 u139 u140 u141 u142 u143 u144 u145 u146 u147 u148 u149 u150 u151 u152 u153 u154 u155 u156 u157 u158 u159 u160 u161 u162 u163 u164 u165 u166 u167 u168 u169 u170 u171 u172 u173 u174 u175 u176 u177 u178 u179 u180 u181 u182 u183 u184 u185 u186 u187 u188 u189 u190 u191 u192 u193 u194 u195 u196 u197 u198 u199 u200 u201 u202 u203 u204 u205 u206 u207 u208 u209 u210 u211 u212 u213 u214 u215 u216 u217 u218 u219 u220 u221 u222 u223 u224 u225 u226 u227 u228 u229 u230 u231 u232 u233 u234 u235 u236 u237 u238 u239 u240 u241 u242 u243 u244 u245 u246 u247 u248 u249 u250 u251 u252 u253 u254 u255 u256 u257 u258 u259 u260 u261 u262 u263 u264 u265 u266 u267 u268 u269 u270 u271 u272 u273 u274 u275 u276 : Value)
    (i m : Nat) (bl : Int → Nat) (s inn : List En) (hperm : inn.Perm s) (hin : i < l.length) (a : Addr) (x : Sx) (hnw : (Lit.int .i64 x.n).wf = true) (huw : EnWf x.u) (hfw : ∀ k, (Lit.int .i64 (x.f k)).wf = true)
    (d0 : wr.cell? (a.add (i * 12)) = some (.int .i64 x.kind)) (d1 : wr.cell? ⟨(a.add (i * 12)).block, (a.add (i * 12)).off + 1, none⟩ = some (.int .i64 x.n)) (d2 : wr.cell? ⟨(a.add (i * 12)).block, (a.add (i * 12)).off + 2, none⟩ = some (.int .i64 x.u.tag)) (d3 : wr.cell? ⟨(a.add (i * 12)).block, (a.add (i * 12)).off + 3, none⟩ = some (.int .i64 x.u.unit)) (d4 : wr.cell? ⟨(a.add (i * 12)).block, (a.add (i * 12)).off + 4, none⟩ = some (.int .i64 x.u.a)) (d5 : wr.cell? ⟨(a.add (i * 12)).block, (a.add (i * 12)).off + 5, none⟩ = some (.int .i64 x.u.b)) (d6 : wr.cell? ⟨(a.add (i * 12)).block, (a.add (i * 12)).off + 6, none⟩ = some (.int .i64 x.u.c)) (d7 : wr.cell? ⟨(a.add (i * 12)).block, (a.add (i * 12)).off + 7, none⟩ = some (.int .i64 (x.f 0))) (d8 : wr.cell? ⟨(a.add (i * 12)).block, (a.add (i * 12)).off + 8, none⟩ = some (.int .i64 (x.f 1))) (d9 : wr.cell? ⟨(a.add (i * 12)).block, (a.add (i * 12)).off + 9, none⟩ = some (.int .i64 (x.f 2))) (d10 : wr.cell? ⟨(a.add (i * 12)).block, (a.add (i * 12)).off + 10, none⟩ = some (.int .i64 (x.f 3))) (d11 : wr.cell? ⟨(a.add (i * 12)).block, (a.add (i * 12)).off + 11, none⟩ = some (.int .i64 (x.f 4)))
    (hin2 : (i : Int) < (l.length : Int)) (hi0 : 0 ≤ (i : Int)) (hnm : (l.length : Int) ≤ 9223372036854775807)
    (hX : XAt (wr.alloc (.cells #[.int .i64 x.kind, .int .i64 x.n, .int .i64 x.u.tag, .int .i64 x.u.unit, .int .i64 x.u.a, .int .i64 x.u.b, .int .i64 x.u.c, .int .i64 (x.f 0), .int .i64 (x.f 1), .int .i64 (x.f 2), .int .i64 (x.f 3), .int .i64 (x.f 4)] 33)) wr.heap.size x) (G5 : Goe W (wr.alloc (.cells #[.int .i64 x.kind, .int .i64 x.n, .int .i64 x.u.tag, .int .i64 x.u.unit, .int .i64 x.u.a, .int .i64 x.u.b, .int .i64 x.u.c, .int .i64 (x.f 0), .int .i64 (x.f 1), .int .i64 (x.f 2), .int .i64 (x.f 3), .int .i64 (x.f 4)] 33)) ⟨q, m, bl⟩ u4 s inn) (hsrt : Sorted s) (hroom : (s.length : Int) ≤ 64) (hil2 : inn.length ≤ 64) (hxb : Hid (∀ y, (G.own ⟨q, m, bl⟩ s y ∨ u4.ownBlock = some y) → y < wr.heap.size)) (hil : Hid (inn.length = s.length))
    (hk0 : ¬ x.kind = 0) (hk1 : ¬ x.kind = 1) (hk3 : x.kind = 3) (Q : Exit → Act → World → Prop)
    (hR : Hid (∀ {u2 u4 u5 u6 u7 u8 u9 u10 u11 u12 u13 u14 u15 u16 u17 u18 u19 u20 u21 u22 u23 u24 u25 u26 u31 u32 u33 u34 u35 u36 u37 u38 u39 u40 u41 u42 u43 u44 u45 u46 u47 u48 u49 u50 u51 u52 u53 u54 u55 u56 u57 u58 u59 u60 u61 u62 u63 u64 u65 u66 u67 u68 u69 u70 u71 u72 u73 u74 u75 u76 u77 u78 u79 u80 u81 u82 u83 u84 u85 u86 u87 u88 u89 u90 u91 u92 u93 u94 u95 u96 u97 u98 u99 u100 u101 u102 u103 u104 u105 u106 u107 u108 u109 u110 u111 u112 u113 u114 u115 u116 u117 u118 u119 u120 u121 u122 u123 u124 u125 u126 u127 u128 u129 u130 u131 u132 u133 u134 u135 u136 u137 u138 u139 u140 u141 u142 u143 u144 u145 u146 u147 u148 u149 u150 u151 u152 u153 u154 u155 u156 u157 u158 u159 u160 u161 u162 u163 u164 u165 u166 u167 u168 u169 u170 u171 u172 u173 u174 u175 u176 u177 u178 u179 u180 u181 u182 u183 u184 u185 u186 u187 u188 u189 u190 u191 u192 u193 u194 u195 u196 u197 u198 u199 u200 u201 u202 u203 u204 u205 u206 u207 u208 u209 u210 u211 u212 u213 u214 u215 u216 u217 u218 u219 u220 u221 u222 u223 u224 u225 u226 u227 u228 u229 u230 u231 u232 u233 u234 u235 u236 u237 u238 u239 u240 u241 u242 u243 u244 u245 u246 u247 u248 u249 u250 u251 u252 u253 u254 u255 u256 u257 u258 u259 u260 u261 u262 u263 u264 u265 u266 u267 u268 u269 u270 u271 u272 u273 u274 u275 u276 : Value} {w' : World}, (∃ (i m : Nat) (bl : Int → Nat) (s inn : List En), i ≤ l.length ∧ u5 = .int .i64 i ∧ Goe W w' ⟨q, m, bl⟩ u4 s inn ∧ inn.Perm s) ∧ l.length - (intOf u5).toNat < l.length - (intOf (.int .i64 (i : Int))).toNat → Q .normal ⟨List.toArray ((.slice (some a) l.length cap) :: undef :: u2 :: (.pointer (some ⟨q, 0, none⟩)) :: u4 :: u5 :: u6 :: u7 :: u8 :: u9 :: u10 :: u11 :: u12 :: u13 :: u14 :: u15 :: u16 :: u17 :: u18 :: u19 :: u20 :: u21 :: u22 :: u23 :: u24 :: u25 :: u26 :: (.bool true) :: (.bool false) :: (.pointer (some ⟨q, 0, none⟩)) :: (.slice (some ⟨w2.heap.size, 0, none⟩) 0 0) :: u31 :: u32 :: u33 :: u34 :: u35 :: u36 :: u37 :: u38 :: u39 :: u40 :: u41 :: u42 :: u43 :: u44 :: u45 :: u46 :: u47 :: u48 :: u49 :: u50 :: u51 :: u52 :: u53 :: u54 :: u55 :: u56 :: u57 :: u58 :: u59 :: u60 :: u61 :: u62 :: u63 :: u64 :: u65 :: u66 :: u67 :: u68 :: u69 :: u70 :: u71 :: u72 :: u73 :: u74 :: u75 :: u76 :: u77 :: u78 :: u79 :: u80 :: u81 :: u82 :: u83 :: u84 :: u85 :: u86 :: u87 :: u88 :: u89 :: u90 :: u91 :: u92 :: u93 :: u94 :: u95 :: u96 :: u97 :: u98 :: u99 :: u100 :: u101 :: u102 :: u103 :: u104 :: u105 :: u106 :: u107 :: u108 :: u109 :: u110 :: u111 :: u112 :: u113 :: u114 :: u115 :: u116 :: u117 :: u118 :: u119 :: u120 :: u121 :: u122 :: u123 :: u124 :: u125 :: u126 :: u127 :: u128 :: u129 :: u130 :: u131 :: u132 :: u133 :: u134 :: u135 :: u136 :: u137 :: u138 :: u139 :: u140 :: u141 :: u142 :: u143 :: u144 :: u145 :: u146 :: u147 :: u148 :: u149 :: u150 :: u151 :: u152 :: u153 :: u154 :: u155 :: u156 :: u157 :: u158 :: u159 :: u160 :: u161 :: u162 :: u163 :: u164 :: u165 :: u166 :: u167 :: u168 :: u169 :: u170 :: u171 :: u172 :: u173 :: u174 :: u175 :: u176 :: u177 :: u178 :: u179 :: u180 :: u181 :: u182 :: u183 :: u184 :: u185 :: u186 :: u187 :: u188 :: u189 :: u190 :: u191 :: u192 :: u193 :: u194 :: u195 :: u196 :: u197 :: u198 :: u199 :: u200 :: u201 :: u202 :: u203 :: u204 :: u205 :: u206 :: u207 :: u208 :: u209 :: u210 :: u211 :: u212 :: u213 :: u214 :: u215 :: u216 :: u217 :: u218 :: u219 :: u220 :: u221 :: u222 :: u223 :: u224 :: u225 :: u226 :: u227 :: u228 :: u229 :: u230 :: u231 :: u232 :: u233 :: u234 :: u235 :: u236 :: u237 :: u238 :: u239 :: u240 :: u241 :: u242 :: u243 :: u244 :: u245 :: u246 :: u247 :: u248 :: u249 :: u250 :: u251 :: u252 :: u253 :: u254 :: u255 :: u256 :: u257 :: u258 :: u259 :: u260 :: u261 :: u262 :: u263 :: u264 :: u265 :: u266 :: u267 :: u268 :: u269 :: u270 :: u271 :: u272 :: u273 :: u274 :: u275 :: u276 :: []), []⟩ w')) :
    Code.wp Try.prog goesBody Q ⟨List.toArray ((.slice (some a) l.length cap) :: undef :: u2 :: (.pointer (some ⟨q, 0, none⟩)) :: u4 :: (.int .i64 i) :: u6 :: u7 :: u8 :: u9 :: u10 :: u11 :: u12 :: u13 :: u14 :: u15 :: u16 :: u17 :: u18 :: u19 :: u20 :: u21 :: u22 :: u23 :: u24 :: u25 :: u26 :: (.bool true) :: (.bool false) :: (.pointer (some ⟨q, 0, none⟩)) :: (.slice (some ⟨w2.heap.size, 0, none⟩) 0 0) :: u31 :: u32 :: u33 :: u34 :: u35 :: u36 :: u37 :: u38 :: u39 :: u40 :: u41 :: u42 :: u43 :: u44 :: u45 :: u46 :: u47 :: u48 :: u49 :: u50 :: u51 :: u52 :: u53 :: u54 :: u55 :: u56 :: u57 :: u58 :: u59 :: u60 :: u61 :: u62 :: u63 :: u64 :: u65 :: u66 :: u67 :: u68 :: u69 :: u70 :: u71 :: u72 :: u73 :: u74 :: u75 :: u76 :: u77 :: u78 :: u79 :: u80 :: u81 :: u82 :: u83 :: u84 :: u85 :: u86 :: u87 :: u88 :: u89 :: u90 :: u91 :: u92 :: u93 :: u94 :: u95 :: u96 :: u97 :: u98 :: u99 :: u100 :: u101 :: u102 :: u103 :: u104 :: u105 :: u106 :: u107 :: u108 :: u109 :: u110 :: u111 :: u112 :: u113 :: u114 :: u115 :: u116 :: u117 :: u118 :: u119 :: u120 :: u121 :: u122 :: u123 :: u124 :: u125 :: u126 :: u127 :: u128 :: u129 :: u130 :: u131 :: u132 :: u133 :: u134 :: u135 :: u136 :: u137 :: u138 :: u139 :: u140 :: u141 :: u142 :: u143 :: u144 :: u145 :: u146 :: u147 :: u148 :: u149 :: u150 :: u151 :: u152 :: u153 :: u154 :: u155 :: u156 :: u157 :: u158 :: u159 :: u160 :: u161 :: u162 :: u163 :: u164 :: u165 :: u166 :: u167 :: u168 :: u169 :: u170 :: u171 :: u172 :: u173 :: u174 :: u175 :: u176 :: u177 :: u178 :: u179 :: u180 :: u181 :: u182 :: u183 :: u184 :: u185 :: u186 :: u187 :: u188 :: u189 :: u190 :: u191 :: u192 :: u193 :: u194 :: u195 :: u196 :: u197 :: u198 :: u199 :: u200 :: u201 :: u202 :: u203 :: u204 :: u205 :: u206 :: u207 :: u208 :: u209 :: u210 :: u211 :: u212 :: u213 :: u214 :: u215 :: u216 :: u217 :: u218 :: u219 :: u220 :: u221 :: u222 :: u223 :: u224 :: u225 :: u226 :: u227 :: u228 :: u229 :: u230 :: u231 :: u232 :: u233 :: u234 :: u235 :: u236 :: u237 :: u238 :: u239 :: u240 :: u241 :: u242 :: u243 :: u244 :: u245 :: u246 :: u247 :: u248 :: u249 :: u250 :: u251 :: u252 :: u253 :: u254 :: u255 :: u256 :: u257 :: u258 :: u259 :: u260 :: u261 :: u262 :: u263 :: u264 :: u265 :: u266 :: u267 :: u268 :: u269 :: u270 :: u271 :: u272 :: u273 :: u274 :: u275 :: u276 :: []), []⟩ wr := by
  have hms := meas_k hin
  conv => arg 2; whnf
  rw [hk3] at hX G5
  go_wp2_with fail
  go_at_call 18
  refine (Drop_any _ _ 64 x.n s G5.q).mono ?_
  rintro e w6 ⟨rfl, h6, k6⟩
  have hX6 := hX.kept k6 fun e => Nat.lt_irrefl _ (hxb.out _ (.inl e))
  have G6 := G5.qs h6 k6 (fun y hy => .inl (own_mono (fun e he => (List.mem_filter.1 he).1) hy))
  have hperm6 : (dropL x.n inn).Perm (dropL x.n s) := hperm.filter _
  have hcnt := drop_count x.n s
  have hcl6 := hperm6.length_eq
  have hcI : (inn.length : Int) - ((dropL x.n inn).length : Int) = (dropN x.n s : Int) := by have := hil.out; omega
  have hcd : dropN x.n s ≤ 64 := by have := dropN_le x.n s; omega
  clear G5 k6 hX h6 hcnt hcl6
  generalize wr.heap.size = xb at *
  generalize dropN x.n s = N at *
  obtain ⟨z, zc, hz, hzr⟩ := G6.row.form
  subst hz
  replace hzr := hide hzr
  replace hcI := hide hcI
  go_wp2_with fail
  have hW6 : W.heap.size ≤ w6.heap.size := G6.mq.still.size
  have q3 : URow (w6.alloc (.cells #[] 30)) w6.heap.size (.slice (some ⟨w6.heap.size, 0, none⟩) 0 0) [] := World.ownsRow_made w6 #[] 0 (Nat.le_refl _) (Nat.zero_le _) rfl
  have k3 : Still w6 (w6.alloc (.cells #[] 30)) := (Kept.refl _ w6).alloc _
  generalize w6.alloc (.cells #[] 30) = w7 at *
  go_loopw [10, 11] (fun ov kv wr' => ∃ (d r : List En), inn = d ++ r ∧ kv = .int .i64 d.length ∧ URow wr' w6.heap.size ov (dropL x.n d) ∧ Still w6 wr') (fun _ kv _ => inn.length - (intOf kv).toNat)
  case atStart => exact ⟨[], inn, rfl, rfl, q3, k3⟩
  case round =>
    clear q3 k3
    obtain ⟨d, r, hd, rfl, hrow, k7⟩ := hrel
    have hsl : inn.length = d.length + r.length := by rw [hd, List.length_append]
    have hdk : (d.length : Int) < 1000 := by omega
    cases r with
    | nil =>
      obtain rfl : inn = d := by rw [hd, List.append_nil]
      have hnot : ¬ (inn.length : Int) < (inn.length : Int) := Int.lt_irrefl _
      have G8 := G6.lay k7 hrow
      obtain ⟨zo, co, hzo, -⟩ := hrow.form
      subst hzo
      have hcI2 := hcI.out
      have hNk : (N : Int) < 1000 := by omega
      clear hd hsl hrow hcI
      have hlen9 := G8.q.room.1
      go_wp2_with fail
      go_at_call 20
      refine (Tags_ints _ _ 64 _ G8.q).mono ?_
      rintro e w9 ⟨v9, rfl, i9, k9⟩
      obtain ⟨z10, c10, hv10, -⟩ := i9
      have hl10 : ∀ z c, Value.slice z (tags (dropL x.n s)).length c = Value.slice z (dropL x.n inn).length c := fun z c => by rw [length_tags, ← hperm6.length_eq]
      rw [hl10] at hv10
      subst hv10
      have G9 := G8.on k9
      clear k9 hl10
      go_wp2
      exact hR.out ⟨⟨i + 1, m, bl, dropL x.n s, dropL x.n inn, hin, by simp, G9, hperm6⟩, hms⟩
    | cons e r =>
      obtain ⟨rb, hrb0, -, -, hra⟩ := hzr.out (by simp at hsl; omega)
      subst hrb0
      have hse : inn[d.length]? = some e := by rw [hd]; simp
      have hin3 : (d.length : Int) < (inn.length : Int) := by simp at hsl; omega
      have hin0 : 0 ≤ (d.length : Int) := by omega
      have hms2 := meas_k (k := d.length) (n := inn.length) (by simp at hsl; omega)
      have hd2 : inn = (d ++ [e]) ++ r := by rw [hd]; simp
      have hEn := hra _ _ hse
      have hX7 := hX6.kept k7 (fun e => e)
      obtain ⟨d0, d1, d2, d3, d4⟩ := hEn.on k7 (fun e => e)
      have x1 := hX7.d1
      have hdl : (dropL x.n d).length ≤ 64 := by have := dropL_le x.n d; omega
      replace hd2 := hide hd2
      replace hEn := hide hEn
      clear hd hsl hse hra hX7
      by_cases hx : x.n < e.tag
      · have hL : dropL x.n (d ++ [e]) = dropL x.n d := by rw [dropL_snoc, if_pos hx]
        replace hL := hide hL
        go_wp2_with fail
        go_quiet (fail)
        have k8 := k7.drewN nq
        have hrow8 := hrow.still ((Kept.refl (fun _ => False) wr).drewN nq)
        generalize wr.drewN nq = wq at *
        go_wp2_with fail
        go_roundw
        case rel => exact ⟨d ++ [e], r, hd2.out, by simp, by rw [hL.out]; exact hrow8, k8⟩
        case measure => exact hms2
      · have hL : dropL x.n (d ++ [e]) = dropL x.n d ++ [e] := by rw [dropL_snoc, if_neg hx]
        replace hL := hide hL
        have hx2 : e.tag ≤ x.n := by omega
        go_wp2_with fail
        go_quiet (fail)
        have k8 := k7.drewN nq
        have hrow8 := hrow.still ((Kept.refl (fun _ => False) wr).drewN nq)
        generalize wr.drewN nq = wq at *
        obtain ⟨d0, d1, d2, d3, d4⟩ := hEn.out.on k8 (fun e => e)
        have hszr : w6.heap.size ≤ wq.heap.size := k8.size
        go_wp2_with (first
          | (at_builtin; refine wpList_append_own_at _ rfl _ _ 45 rfl w6.heap.size 30 i0 _ 5 40 Try.underlying45 hi hz0 hz1 hz2 rfl (by decide) _ _ _ rfl (World.ownsRow.alloc hrow8 _) ⟨wq.heap.size, 0, none⟩ 1 1 [.int .i64 e.tag, .int .i64 e.unit, .int .i64 e.a, .int .i64 e.b, .int .i64 e.c] rfl rfl (news_one rfl) (by simp [Value.oneCell']) (by unfold maxLen; omega) (by omega) (by simp; omega) ?_; intro v8 w8 hown8 hg8 hnil8 hloc8; go_frame))
        have k9 : Still w6 w8 := (k8.alloc _).grown hg8 (fun p hp => .inr (URow.lt hrow8 p hp).1)
        have hrow9 := URow.app hown8
        go_roundw
        case rel => exact ⟨d ++ [e], r, hd2.out, by simp, by rw [hL.out]; exact hrow9, k9⟩
        case measure => exact hms2
end Go.Proofs.Ytaeggnnijafooaa
