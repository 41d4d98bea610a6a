/-
  A round of CacheOnce's loop: Ask.
-/
import Derived.Test.YtpflodhnniochaaOnceF
namespace Go.Proofs.Ytpflodhnniochaa
set_option linter.unusedVariables false
open Go.RowKit Go.Maps

set_option maxRecDepth 100000 in
set_option maxHeartbeats 400000000 in
theorem Once_0 (W : World) (sets ways ns delay : Nat) (hfine : Fine sets ways ns delay) (seed : BitVec 64) (g : G) (mt mp : Nat) (ap : Apt W g mt mp) (a : Addr) (n cap k : Nat) (kd : Int) (at_ : BitVec 64) (wb : Bool) (wr : World) (s : St) (T P : BitVec 64 → Nat)
    (O : Ost W (shapeC sets ways ns delay seed) sets ways ns g mt mp s T P wr) (hkn : k < n) (hin2 : (k : Int) < (n : Int)) (hi0 : 0 ≤ (k : Int)) (hnm : (n : Int) ≤ 9223372036854775807)
    (d0 : wr.cell? (a.add (k * 3)) = some (.int .i64 kd)) (d1 : wr.cell? ⟨(a.add (k * 3)).block, (a.add (k * 3)).off + 1, none⟩ = some (.int .u64 (U at_))) (d2 : wr.cell? ⟨(a.add (k * 3)).block, (a.add (k * 3)).off + 2, none⟩ = some (.bool wb))
    {c0 c3 c17 c18 c19 c20 c21 c22 c23 c24 c25 c26 c27 c28 c29 c30 c31 c32 c33 c34 c35 c36 c37 c38 c39 c40 c41 c42 c43 c263 c264 c265 c266 c267 c268 c269 c270 c271 c272 c273 c274 c275 c276 c277 c278 c279 c280 c281 c282 c283 c284 c285 c286 c287 c288 c289 c290 c291 c292 c293 c294 c295 c296 c297 c298 c299 c300 c301 c302 c303 c304 c305 c306 c307 c308 c309 c310 c311 c312 c313 c314 c315 c316 c317 c318 c319 c320 c321 c322 c323 c324 c325 c326 c327 : Value} {u4 u9 u10 u11 u12 u13 u14 u15 u16 u44 u45 u46 u47 u48 u49 u50 u51 u52 u53 u54 u55 u56 u57 u58 u59 u60 u61 u62 u63 u64 u65 u66 u67 u68 u69 u70 u71 u72 u73 u74 u75 u76 u77 u78 u79 u80 u81 u82 u83 u84 u85 u86 u87 u88 u89 u90 u91 u92 u93 u94 u95 u96 u97 u98 u99 u100 u101 u102 u103 u104 u105 u106 u107 u108 u109 u110 u111 u112 u113 u114 u115 u116 u117 u118 u119 u120 u121 u122 u123 u124 u125 u126 u127 u128 u129 u130 u131 u132 u133 u134 u135 u136 u137 u138 u139 u140 u141 u142 u143 u144 u145 u146 u147 u148 u149 u150 u151 u152 u153 u154 u155 u156 u157 u158 u159 u160 u161 u162 u163 u164 u165 u166 u167 u168 u169 u170 u171 u172 u173 u174 u175 u176 u177 u178 u179 u180 u181 u182 u183 u184 u185 u186 u187 u188 u189 u190 u191 u192 u193 u194 u195 u196 u197 u198 u199 u200 u201 u202 u203 u204 u205 u206 u207 u208 u209 u210 u211 u212 u213 u214 u215 u216 u217 u218 u219 u220 u221 u222 u223 u224 u225 u226 u227 u228 u229 u230 u231 u232 u233 u234 u235 u236 u237 u238 u239 u240 u241 u242 u243 u244 u245 u246 u247 u248 u249 u250 u251 u252 u253 u254 u255 u256 u257 u258 u259 u260 u261 u262 : Value}
    (hkind : kd = 0) (Q : Exit → Act → World → Prop)
    (hR : Hid (∀ {u4 u8 u9 u10 u11 u12 u13 u14 u15 u16 u44 u45 u46 u47 u48 u49 u50 u51 u52 u53 u54 u55 u56 u57 u58 u59 u60 u61 u62 u63 u64 u65 u66 u67 u68 u69 u70 u71 u72 u73 u74 u75 u76 u77 u78 u79 u80 u81 u82 u83 u84 u85 u86 u87 u88 u89 u90 u91 u92 u93 u94 u95 u96 u97 u98 u99 u100 u101 u102 u103 u104 u105 u106 u107 u108 u109 u110 u111 u112 u113 u114 u115 u116 u117 u118 u119 u120 u121 u122 u123 u124 u125 u126 u127 u128 u129 u130 u131 u132 u133 u134 u135 u136 u137 u138 u139 u140 u141 u142 u143 u144 u145 u146 u147 u148 u149 u150 u151 u152 u153 u154 u155 u156 u157 u158 u159 u160 u161 u162 u163 u164 u165 u166 u167 u168 u169 u170 u171 u172 u173 u174 u175 u176 u177 u178 u179 u180 u181 u182 u183 u184 u185 u186 u187 u188 u189 u190 u191 u192 u193 u194 u195 u196 u197 u198 u199 u200 u201 u202 u203 u204 u205 u206 u207 u208 u209 u210 u211 u212 u213 u214 u215 u216 u217 u218 u219 u220 u221 u222 u223 u224 u225 u226 u227 u228 u229 u230 u231 u232 u233 u234 u235 u236 u237 u238 u239 u240 u241 u242 u243 u244 u245 u246 u247 u248 u249 u250 u251 u252 u253 u254 u255 u256 u257 u258 u259 u260 u261 u262 : Value} {w' : World}, (∃ (k : Nat) (s : St) (T P : BitVec 64 → Nat), k ≤ n ∧ u8 = .int .i64 k ∧ Ost W (shapeC sets ways ns delay seed) sets ways ns g mt mp s T P w') ∧ n - (intOf u8).toNat < n - (intOf (.int .i64 (k : Int))).toNat → Q .normal ⟨List.toArray (c0 :: (.slice (some a) n cap) :: (.pointer (some ⟨W.heap.size, 0, none⟩)) :: c3 :: u4 :: (.pointer (some ⟨g.c, 0, none⟩)) :: (.map (some mt)) :: (.map (some mp)) :: u8 :: u9 :: u10 :: u11 :: u12 :: u13 :: u14 :: u15 :: u16 :: c17 :: c18 :: c19 :: c20 :: c21 :: c22 :: c23 :: c24 :: c25 :: c26 :: c27 :: c28 :: c29 :: c30 :: c31 :: c32 :: c33 :: c34 :: c35 :: c36 :: c37 :: c38 :: c39 :: c40 :: c41 :: c42 :: c43 :: u44 :: u45 :: u46 :: u47 :: u48 :: u49 :: u50 :: u51 :: u52 :: u53 :: u54 :: u55 :: u56 :: u57 :: u58 :: u59 :: u60 :: u61 :: u62 :: u63 :: u64 :: u65 :: u66 :: u67 :: u68 :: u69 :: u70 :: u71 :: u72 :: u73 :: u74 :: u75 :: u76 :: u77 :: u78 :: u79 :: u80 :: u81 :: u82 :: u83 :: u84 :: u85 :: u86 :: u87 :: u88 :: u89 :: u90 :: u91 :: u92 :: u93 :: u94 :: u95 :: u96 :: u97 :: u98 :: u99 :: u100 :: u101 :: u102 :: u103 :: u104 :: u105 :: u106 :: u107 :: u108 :: u109 :: u110 :: u111 :: u112 :: u113 :: u114 :: u115 :: u116 :: u117 :: u118 :: u119 :: u120 :: u121 :: u122 :: u123 :: u124 :: u125 :: u126 :: u127 :: u128 :: u129 :: u130 :: u131 :: u132 :: u133 :: u134 :: u135 :: u136 :: u137 :: u138 :: u139 :: u140 :: u141 :: u142 :: u143 :: u144 :: u145 :: u146 :: u147 :: u148 :: u149 :: u150 :: u151 :: u152 :: u153 :: u154 :: u155 :: u156 :: u157 :: u158 :: u159 :: u160 :: u161 :: u162 :: u163 :: u164 :: u165 :: u166 :: u167 :: u168 :: u169 :: u170 :: u171 :: u172 :: u173 :: u174 :: u175 :: u176 :: u177 :: u178 :: u179 :: u180 :: u181 :: u182 :: u183 :: u184 :: u185 :: u186 :: u187 :: u188 :: u189 :: u190 :: u191 :: u192 :: u193 :: u194 :: u195 :: u196 :: u197 :: u198 :: u199 :: u200 :: u201 :: u202 :: u203 :: u204 :: u205 :: u206 :: u207 :: u208 :: u209 :: u210 :: u211 :: u212 :: u213 :: u214 :: u215 :: u216 :: u217 :: u218 :: u219 :: u220 :: u221 :: u222 :: u223 :: u224 :: u225 :: u226 :: u227 :: u228 :: u229 :: u230 :: u231 :: u232 :: u233 :: u234 :: u235 :: u236 :: u237 :: u238 :: u239 :: u240 :: u241 :: u242 :: u243 :: u244 :: u245 :: u246 :: u247 :: u248 :: u249 :: u250 :: u251 :: u252 :: u253 :: u254 :: u255 :: u256 :: u257 :: u258 :: u259 :: u260 :: u261 :: u262 :: c263 :: c264 :: c265 :: c266 :: c267 :: c268 :: c269 :: c270 :: c271 :: c272 :: c273 :: c274 :: c275 :: c276 :: c277 :: c278 :: c279 :: c280 :: c281 :: c282 :: c283 :: c284 :: c285 :: c286 :: c287 :: c288 :: c289 :: c290 :: c291 :: c292 :: c293 :: c294 :: c295 :: c296 :: c297 :: c298 :: c299 :: c300 :: c301 :: c302 :: c303 :: c304 :: c305 :: c306 :: c307 :: c308 :: c309 :: c310 :: c311 :: c312 :: c313 :: c314 :: c315 :: c316 :: c317 :: c318 :: c319 :: c320 :: c321 :: c322 :: c323 :: c324 :: c325 :: c326 :: c327 :: []), []⟩ w')) :
    Code.wp Try.prog onceBody Q ⟨List.toArray (c0 :: (.slice (some a) n cap) :: (.pointer (some ⟨W.heap.size, 0, none⟩)) :: c3 :: u4 :: (.pointer (some ⟨g.c, 0, none⟩)) :: (.map (some mt)) :: (.map (some mp)) :: (.int .i64 (k : Int)) :: u9 :: u10 :: u11 :: u12 :: u13 :: u14 :: u15 :: u16 :: c17 :: c18 :: c19 :: c20 :: c21 :: c22 :: c23 :: c24 :: c25 :: c26 :: c27 :: c28 :: c29 :: c30 :: c31 :: c32 :: c33 :: c34 :: c35 :: c36 :: c37 :: c38 :: c39 :: c40 :: c41 :: c42 :: c43 :: u44 :: u45 :: u46 :: u47 :: u48 :: u49 :: u50 :: u51 :: u52 :: u53 :: u54 :: u55 :: u56 :: u57 :: u58 :: u59 :: u60 :: u61 :: u62 :: u63 :: u64 :: u65 :: u66 :: u67 :: u68 :: u69 :: u70 :: u71 :: u72 :: u73 :: u74 :: u75 :: u76 :: u77 :: u78 :: u79 :: u80 :: u81 :: u82 :: u83 :: u84 :: u85 :: u86 :: u87 :: u88 :: u89 :: u90 :: u91 :: u92 :: u93 :: u94 :: u95 :: u96 :: u97 :: u98 :: u99 :: u100 :: u101 :: u102 :: u103 :: u104 :: u105 :: u106 :: u107 :: u108 :: u109 :: u110 :: u111 :: u112 :: u113 :: u114 :: u115 :: u116 :: u117 :: u118 :: u119 :: u120 :: u121 :: u122 :: u123 :: u124 :: u125 :: u126 :: u127 :: u128 :: u129 :: u130 :: u131 :: u132 :: u133 :: u134 :: u135 :: u136 :: u137 :: u138 :: u139 :: u140 :: u141 :: u142 :: u143 :: u144 :: u145 :: u146 :: u147 :: u148 :: u149 :: u150 :: u151 :: u152 :: u153 :: u154 :: u155 :: u156 :: u157 :: u158 :: u159 :: u160 :: u161 :: u162 :: u163 :: u164 :: u165 :: u166 :: u167 :: u168 :: u169 :: u170 :: u171 :: u172 :: u173 :: u174 :: u175 :: u176 :: u177 :: u178 :: u179 :: u180 :: u181 :: u182 :: u183 :: u184 :: u185 :: u186 :: u187 :: u188 :: u189 :: u190 :: u191 :: u192 :: u193 :: u194 :: u195 :: u196 :: u197 :: u198 :: u199 :: u200 :: u201 :: u202 :: u203 :: u204 :: u205 :: u206 :: u207 :: u208 :: u209 :: u210 :: u211 :: u212 :: u213 :: u214 :: u215 :: u216 :: u217 :: u218 :: u219 :: u220 :: u221 :: u222 :: u223 :: u224 :: u225 :: u226 :: u227 :: u228 :: u229 :: u230 :: u231 :: u232 :: u233 :: u234 :: u235 :: u236 :: u237 :: u238 :: u239 :: u240 :: u241 :: u242 :: u243 :: u244 :: u245 :: u246 :: u247 :: u248 :: u249 :: u250 :: u251 :: u252 :: u253 :: u254 :: u255 :: u256 :: u257 :: u258 :: u259 :: u260 :: u261 :: u262 :: c263 :: c264 :: c265 :: c266 :: c267 :: c268 :: c269 :: c270 :: c271 :: c272 :: c273 :: c274 :: c275 :: c276 :: c277 :: c278 :: c279 :: c280 :: c281 :: c282 :: c283 :: c284 :: c285 :: c286 :: c287 :: c288 :: c289 :: c290 :: c291 :: c292 :: c293 :: c294 :: c295 :: c296 :: c297 :: c298 :: c299 :: c300 :: c301 :: c302 :: c303 :: c304 :: c305 :: c306 :: c307 :: c308 :: c309 :: c310 :: c311 :: c312 :: c313 :: c314 :: c315 :: c316 :: c317 :: c318 :: c319 :: c320 :: c321 :: c322 :: c323 :: c324 :: c325 :: c326 :: c327 :: []), []⟩ wr := by
  have hms := meas_succ2 hkn
  have hk1 : k + 1 ≤ n := hkn
  conv => arg 2; whnf
  subst hkind
  have hL : Top ((at_ ||| 9223372036854775808#64) / 64#64) := ⟨at_, rfl⟩
  have hmask : ((at_ ||| 9223372036854775808#64) / 64#64) <<< 6 = (at_ ||| 9223372036854775808#64) &&& 18446744073709551552#64 := mask6 (at_ ||| 9223372036854775808#64)
  have O2 := O.wd.alloc (Obj.cells #[.int .i64 0, .int .u64 (U (at_ ||| 9223372036854775808#64)), .bool wb] 32)
  generalize hLe : (at_ ||| 9223372036854775808#64) / 64#64 = L at hL hmask
  have hask := law_ask O.law hL wb
  rw [hmask] at hask
  replace hmask := hide hmask
  replace hLe := hide hLe
  replace hask := hide hask
  cases wb
  · go_wp2_with fail
    go_at_call 11
    refine (Ask_any _ g s _ _ O2.held).mono ?_
    rw [hLe.out]
    rintro e w6 ⟨rfl, h6, k6⟩
    have D6 := O2.own ap h6 (fr_ask O.wd.fr O.law.con.ok.delay.1 L false) k6
    have hs6 := ask_sets s L false
    have hw6 := ask_ways s L false
    have hn6 := (ask_same s L false).2.1
    replace hask := hask.out
    generalize (at_ ||| 9223372036854775808#64) &&& 18446744073709551552#64 = A at hask ⊢
    rcases hask with ⟨hT, hr, hlaw⟩ | ⟨hT, hP, hr, hlaw⟩ | ⟨hT, hP, hr, hlaw⟩ | ⟨hT, hP, hr, hs, hund⟩
    · rw [hr]
      clear hr
      generalize (askS s L false).1 = s6 at h6 D6 hs6 hw6 hn6 hlaw
      have hl2 := O.law.le2 A
      rcases (by omega : T A = 1 ∨ T A = 2) with htv | htv
      · as_aux_lemma =>
          have hlook : (Instr.lookup 51 (.map (some mt)) (.int .u64 (U A)) false).run Try.prog w6 = .ok (.int .i64 1) w6 := by have := D6.tm.get A; rw [htv] at this; exact this
          obtain ⟨w7, hput, D7, -⟩ := D6.putT ap O.law.fewT (by decide) A (n := 1) (by decide) (by decide)
          replace hput : (Instr.mapUpdate 51 (.map (some mt)) (.int .u64 (U A)) (.int .i64 1)).run Try.prog w6 = .ok () w7 := hput
          rw [htv] at hlaw
          have O7 : Ost W (shapeC sets ways ns delay seed) sets ways ns g mt mp s6 (updN T A 1) P w7 := ⟨D7, hlaw, hs6.trans O.sets, hw6.trans O.ways, hn6.trans O.ns⟩
          clear hmask hLe O2 k6 h6 htv hl2 hT hlaw D7 hs6 hw6 hn6 D6
          obtain ⟨nT, hnT, hn5, hlt⟩ := O7.lens
          replace hlt := hlt 3
          obtain ⟨x0, x1, -⟩ := O7.wd.env.cells
          have hmul := mul_sw hfine
          go_wp2_with fail
          go_at_call 18
          refine (Under_any _ g _ O7.wd.held).mono ?_
          rintro e w8 ⟨rfl, k8⟩
          have O8 := O7.still k8
          have hlp := O8.lenp 3
          clear hlt x0 x1 O7 k8
          go_wp2
          exact hR.out ⟨⟨k + 1, _, _, _, hk1, by simp, O8⟩, hms⟩
      · as_aux_lemma =>
          have hmx : max (2 : Int) 1 = 2 := by decide

          have hlook : (Instr.lookup 51 (.map (some mt)) (.int .u64 (U A)) false).run Try.prog w6 = .ok (.int .i64 2) w6 := by have := D6.tm.get A; rw [htv] at this; exact this
          obtain ⟨w7, hput, D7, -⟩ := D6.putT ap O.law.fewT (by decide) A (n := 2) (by decide) (by decide)
          replace hput : (Instr.mapUpdate 51 (.map (some mt)) (.int .u64 (U A)) (.int .i64 2)).run Try.prog w6 = .ok () w7 := hput
          rw [htv] at hlaw
          have O7 : Ost W (shapeC sets ways ns delay seed) sets ways ns g mt mp s6 (updN T A 2) P w7 := ⟨D7, hlaw, hs6.trans O.sets, hw6.trans O.ways, hn6.trans O.ns⟩
          clear hmask hLe O2 k6 h6 htv hl2 hT hlaw D7 hs6 hw6 hn6 D6
          obtain ⟨nT, hnT, hn5, hlt⟩ := O7.lens
          replace hlt := hlt 3
          obtain ⟨x0, x1, -⟩ := O7.wd.env.cells
          have hmul := mul_sw hfine
          go_wp2_with fail
          go_at_call 18
          refine (Under_any _ g _ O7.wd.held).mono ?_
          rintro e w8 ⟨rfl, k8⟩
          have O8 := O7.still k8
          have hlp := O8.lenp 3
          clear hlt x0 x1 O7 k8
          go_wp2
          exact hR.out ⟨⟨k + 1, _, _, _, hk1, by simp, O8⟩, hms⟩
    · rw [hr]
      clear hr
      generalize (askS s L false).1 = s6 at h6 D6 hs6 hw6 hn6 hlaw
      have hl2 := O.law.le2P A
      rcases (by omega : P A = 1 ∨ P A = 2) with htv | htv
      · as_aux_lemma =>
          have htv0 := hT
          have hlook0 : (Instr.lookup 51 (.map (some mt)) (.int .u64 (U A)) false).run Try.prog w6 = .ok (.int .i64 0) w6 := by have := D6.tm.get A; rw [htv0] at this; exact this
          have hlook : (Instr.lookup 51 (.map (some mp)) (.int .u64 (U A)) false).run Try.prog w6 = .ok (.int .i64 1) w6 := by have := D6.pm.get A; rw [htv] at this; exact this
          obtain ⟨w7, hput, D7, -⟩ := D6.putP ap O.law.fewP (by decide) A (n := 1) (by decide) (by decide)
          replace hput : (Instr.mapUpdate 51 (.map (some mp)) (.int .u64 (U A)) (.int .i64 1)).run Try.prog w6 = .ok () w7 := hput
          rw [htv] at hlaw
          have O7 : Ost W (shapeC sets ways ns delay seed) sets ways ns g mt mp s6 T (updN P A 1) w7 := ⟨D7, hlaw, hs6.trans O.sets, hw6.trans O.ways, hn6.trans O.ns⟩
          clear hmask hLe O2 k6 h6 htv htv0 hl2 hT hP hlaw D7 hs6 hw6 hn6 D6
          obtain ⟨nT, hnT, hn5, hlt⟩ := O7.lens
          replace hlt := hlt 3
          obtain ⟨x0, x1, -⟩ := O7.wd.env.cells
          have hmul := mul_sw hfine
          go_wp2_with fail
          go_at_call 18
          refine (Under_any _ g _ O7.wd.held).mono ?_
          rintro e w8 ⟨rfl, k8⟩
          have O8 := O7.still k8
          have hlp := O8.lenp 3
          clear hlt x0 x1 O7 k8
          go_wp2
          exact hR.out ⟨⟨k + 1, _, _, _, hk1, by simp, O8⟩, hms⟩
      · as_aux_lemma =>
          have hmx : max (2 : Int) 1 = 2 := by decide

          have htv0 := hT
          have hlook0 : (Instr.lookup 51 (.map (some mt)) (.int .u64 (U A)) false).run Try.prog w6 = .ok (.int .i64 0) w6 := by have := D6.tm.get A; rw [htv0] at this; exact this
          have hlook : (Instr.lookup 51 (.map (some mp)) (.int .u64 (U A)) false).run Try.prog w6 = .ok (.int .i64 2) w6 := by have := D6.pm.get A; rw [htv] at this; exact this
          obtain ⟨w7, hput, D7, -⟩ := D6.putP ap O.law.fewP (by decide) A (n := 2) (by decide) (by decide)
          replace hput : (Instr.mapUpdate 51 (.map (some mp)) (.int .u64 (U A)) (.int .i64 2)).run Try.prog w6 = .ok () w7 := hput
          rw [htv] at hlaw
          have O7 : Ost W (shapeC sets ways ns delay seed) sets ways ns g mt mp s6 T (updN P A 2) w7 := ⟨D7, hlaw, hs6.trans O.sets, hw6.trans O.ways, hn6.trans O.ns⟩
          clear hmask hLe O2 k6 h6 htv htv0 hl2 hT hP hlaw D7 hs6 hw6 hn6 D6
          obtain ⟨nT, hnT, hn5, hlt⟩ := O7.lens
          replace hlt := hlt 3
          obtain ⟨x0, x1, -⟩ := O7.wd.env.cells
          have hmul := mul_sw hfine
          go_wp2_with fail
          go_at_call 18
          refine (Under_any _ g _ O7.wd.held).mono ?_
          rintro e w8 ⟨rfl, k8⟩
          have O8 := O7.still k8
          have hlp := O8.lenp 3
          clear hlt x0 x1 O7 k8
          go_wp2
          exact hR.out ⟨⟨k + 1, _, _, _, hk1, by simp, O8⟩, hms⟩
    · rw [hr]
      clear hr
      generalize (askS s L false).1 = s6 at h6 D6 hs6 hw6 hn6 hlaw
      as_aux_lemma =>
        have htv0 := hT
        have hlook0 : (Instr.lookup 51 (.map (some mt)) (.int .u64 (U A)) false).run Try.prog w6 = .ok (.int .i64 0) w6 := by have := D6.tm.get A; rw [htv0] at this; exact this
        clear htv0
        have htv0 := hP
        have hlook : (Instr.lookup 51 (.map (some mp)) (.int .u64 (U A)) false).run Try.prog w6 = .ok (.int .i64 0) w6 := by have := D6.pm.get A; rw [htv0] at this; exact this
        obtain ⟨w7, hput, D7, -⟩ := D6.putP ap O.law.fewP (by decide) A (n := 1) (by decide) (by decide)
        replace hput : (Instr.mapUpdate 51 (.map (some mp)) (.int .u64 (U A)) (.int .i64 1)).run Try.prog w6 = .ok () w7 := hput
        have O7 : Ost W (shapeC sets ways ns delay seed) sets ways ns g mt mp s6 T (updN P A 1) w7 := ⟨D7, hlaw, hs6.trans O.sets, hw6.trans O.ways, hn6.trans O.ns⟩
        clear hmask hLe O2 k6 h6 htv0 hT hP hlaw D7 hs6 hw6 hn6 D6
        obtain ⟨nT, hnT, hn5, hlt⟩ := O7.lens
        replace hlt := hlt 3
        obtain ⟨x0, x1, -⟩ := O7.wd.env.cells
        have hmul := mul_sw hfine
        go_wp2_with fail
        go_at_call 18
        refine (Under_any _ g _ O7.wd.held).mono ?_
        rintro e w8 ⟨rfl, k8⟩
        have O8 := O7.still k8
        have hlp := O8.lenp 3
        clear hlt x0 x1 O7 k8
        go_wp2
        exact hR.out ⟨⟨k + 1, _, _, _, hk1, by simp, O8⟩, hms⟩
    · rw [hr]
      clear hr
      rw [hs] at h6 D6
      clear hs
      as_aux_lemma =>
        have htv0 := hT
        have hlook0 : (Instr.lookup 51 (.map (some mt)) (.int .u64 (U A)) false).run Try.prog w6 = .ok (.int .i64 0) w6 := by have := D6.tm.get A; rw [htv0] at this; exact this
        clear htv0
        have htv0 := hP
        have hlook : (Instr.lookup 51 (.map (some mp)) (.int .u64 (U A)) false).run Try.prog w6 = .ok (.int .i64 0) w6 := by have := D6.pm.get A; rw [htv0] at this; exact this
        have O6 : Ost W (shapeC sets ways ns delay seed) sets ways ns g mt mp s T P w6 := ⟨D6, O.law, O.sets, O.ways, O.ns⟩
        clear hmask hLe O2 k6 h6 htv0 hT hP hs6 hw6 hn6 D6
        have hund2 : ((underS s s.ns : Nat) : Int) = (ns : Int) := by rw [hund, O.ns]
        have HH := O6.wd.held.drew
        have OO := hide O6.drew
        go_wp2_with fail
        go_region_held3 (fun w' => Env W (shapeC sets ways ns delay seed) w' ∧ w'.cell? ⟨W.heap.size, 2, none⟩ = some (.int .i64 (ns : Nat)))
          (first | assumption | exact ⟨OO.out.wd.env, OO.out.wd.env.cells.2.2.1⟩ | exact ⟨(OO.out.still k9).wd.env, (OO.out.still k9).wd.env.cells.2.2.1⟩)
          (first
          | (go_at_call 18; refine (Under_lit _ g s _ hund2 HH).mono ?_; rintro e w9 ⟨rfl, k9⟩))
        all_goals
          have O7 := OO.out.still k9
          clear OO O6 HH k9 hlook hlook0
          obtain ⟨nT, hnT, hn5, hlt⟩ := O7.lens
          replace hlt := hlt 3
          obtain ⟨x0, x1, -⟩ := O7.wd.env.cells
          have hmul := mul_sw hfine
          go_wp2_with fail
          go_at_call 18
          refine (Under_any _ g _ O7.wd.held).mono ?_
          rintro e w8 ⟨rfl, k8⟩
          have O8 := O7.still k8
          have hlp := O8.lenp 3
          clear hlt x0 x1 O7 k8
          go_wp2
          exact hR.out ⟨⟨k + 1, _, _, _, hk1, by simp, O8⟩, hms⟩
  · go_wp2_with fail
    go_at_call 11
    refine (Ask_any _ g s _ _ O2.held).mono ?_
    rw [hLe.out]
    rintro e w6 ⟨rfl, h6, k6⟩
    have D6 := O2.own ap h6 (fr_ask O.wd.fr O.law.con.ok.delay.1 L true) k6
    have hs6 := ask_sets s L true
    have hw6 := ask_ways s L true
    have hn6 := (ask_same s L true).2.1
    replace hask := hask.out
    generalize (at_ ||| 9223372036854775808#64) &&& 18446744073709551552#64 = A at hask ⊢
    rcases hask with ⟨hT, hr, hlaw⟩ | ⟨hT, hP, hr, hlaw⟩ | ⟨hT, hP, hr, hlaw⟩ | ⟨hT, hP, hr, hs, hund⟩
    · rw [hr]
      clear hr
      generalize (askS s L true).1 = s6 at h6 D6 hs6 hw6 hn6 hlaw
      have hl2 := O.law.le2 A
      rcases (by omega : T A = 1 ∨ T A = 2) with htv | htv
      · as_aux_lemma =>
          have hmx : max (1 : Int) 2 = 2 := by decide

          have hlook : (Instr.lookup 51 (.map (some mt)) (.int .u64 (U A)) false).run Try.prog w6 = .ok (.int .i64 1) w6 := by have := D6.tm.get A; rw [htv] at this; exact this
          obtain ⟨w7, hput, D7, -⟩ := D6.putT ap O.law.fewT (by decide) A (n := 2) (by decide) (by decide)
          replace hput : (Instr.mapUpdate 51 (.map (some mt)) (.int .u64 (U A)) (.int .i64 2)).run Try.prog w6 = .ok () w7 := hput
          rw [htv] at hlaw
          have O7 : Ost W (shapeC sets ways ns delay seed) sets ways ns g mt mp s6 (updN T A 2) P w7 := ⟨D7, hlaw, hs6.trans O.sets, hw6.trans O.ways, hn6.trans O.ns⟩
          clear hmask hLe O2 k6 h6 htv hl2 hT hlaw D7 hs6 hw6 hn6 D6
          obtain ⟨nT, hnT, hn5, hlt⟩ := O7.lens
          replace hlt := hlt 3
          obtain ⟨x0, x1, -⟩ := O7.wd.env.cells
          have hmul := mul_sw hfine
          go_wp2_with fail
          go_at_call 18
          refine (Under_any _ g _ O7.wd.held).mono ?_
          rintro e w8 ⟨rfl, k8⟩
          have O8 := O7.still k8
          have hlp := O8.lenp 3
          clear hlt x0 x1 O7 k8
          go_wp2
          exact hR.out ⟨⟨k + 1, _, _, _, hk1, by simp, O8⟩, hms⟩
      · as_aux_lemma =>
          have hlook : (Instr.lookup 51 (.map (some mt)) (.int .u64 (U A)) false).run Try.prog w6 = .ok (.int .i64 2) w6 := by have := D6.tm.get A; rw [htv] at this; exact this
          obtain ⟨w7, hput, D7, -⟩ := D6.putT ap O.law.fewT (by decide) A (n := 2) (by decide) (by decide)
          replace hput : (Instr.mapUpdate 51 (.map (some mt)) (.int .u64 (U A)) (.int .i64 2)).run Try.prog w6 = .ok () w7 := hput
          rw [htv] at hlaw
          have O7 : Ost W (shapeC sets ways ns delay seed) sets ways ns g mt mp s6 (updN T A 2) P w7 := ⟨D7, hlaw, hs6.trans O.sets, hw6.trans O.ways, hn6.trans O.ns⟩
          clear hmask hLe O2 k6 h6 htv hl2 hT hlaw D7 hs6 hw6 hn6 D6
          obtain ⟨nT, hnT, hn5, hlt⟩ := O7.lens
          replace hlt := hlt 3
          obtain ⟨x0, x1, -⟩ := O7.wd.env.cells
          have hmul := mul_sw hfine
          go_wp2_with fail
          go_at_call 18
          refine (Under_any _ g _ O7.wd.held).mono ?_
          rintro e w8 ⟨rfl, k8⟩
          have O8 := O7.still k8
          have hlp := O8.lenp 3
          clear hlt x0 x1 O7 k8
          go_wp2
          exact hR.out ⟨⟨k + 1, _, _, _, hk1, by simp, O8⟩, hms⟩
    · rw [hr]
      clear hr
      generalize (askS s L true).1 = s6 at h6 D6 hs6 hw6 hn6 hlaw
      have hl2 := O.law.le2P A
      rcases (by omega : P A = 1 ∨ P A = 2) with htv | htv
      · as_aux_lemma =>
          have hmx : max (1 : Int) 2 = 2 := by decide

          have htv0 := hT
          have hlook0 : (Instr.lookup 51 (.map (some mt)) (.int .u64 (U A)) false).run Try.prog w6 = .ok (.int .i64 0) w6 := by have := D6.tm.get A; rw [htv0] at this; exact this
          have hlook : (Instr.lookup 51 (.map (some mp)) (.int .u64 (U A)) false).run Try.prog w6 = .ok (.int .i64 1) w6 := by have := D6.pm.get A; rw [htv] at this; exact this
          obtain ⟨w7, hput, D7, -⟩ := D6.putP ap O.law.fewP (by decide) A (n := 2) (by decide) (by decide)
          replace hput : (Instr.mapUpdate 51 (.map (some mp)) (.int .u64 (U A)) (.int .i64 2)).run Try.prog w6 = .ok () w7 := hput
          rw [htv] at hlaw
          have O7 : Ost W (shapeC sets ways ns delay seed) sets ways ns g mt mp s6 T (updN P A 2) w7 := ⟨D7, hlaw, hs6.trans O.sets, hw6.trans O.ways, hn6.trans O.ns⟩
          clear hmask hLe O2 k6 h6 htv htv0 hl2 hT hP hlaw D7 hs6 hw6 hn6 D6
          obtain ⟨nT, hnT, hn5, hlt⟩ := O7.lens
          replace hlt := hlt 3
          obtain ⟨x0, x1, -⟩ := O7.wd.env.cells
          have hmul := mul_sw hfine
          go_wp2_with fail
          go_at_call 18
          refine (Under_any _ g _ O7.wd.held).mono ?_
          rintro e w8 ⟨rfl, k8⟩
          have O8 := O7.still k8
          have hlp := O8.lenp 3
          clear hlt x0 x1 O7 k8
          go_wp2
          exact hR.out ⟨⟨k + 1, _, _, _, hk1, by simp, O8⟩, hms⟩
      · as_aux_lemma =>
          have htv0 := hT
          have hlook0 : (Instr.lookup 51 (.map (some mt)) (.int .u64 (U A)) false).run Try.prog w6 = .ok (.int .i64 0) w6 := by have := D6.tm.get A; rw [htv0] at this; exact this
          have hlook : (Instr.lookup 51 (.map (some mp)) (.int .u64 (U A)) false).run Try.prog w6 = .ok (.int .i64 2) w6 := by have := D6.pm.get A; rw [htv] at this; exact this
          obtain ⟨w7, hput, D7, -⟩ := D6.putP ap O.law.fewP (by decide) A (n := 2) (by decide) (by decide)
          replace hput : (Instr.mapUpdate 51 (.map (some mp)) (.int .u64 (U A)) (.int .i64 2)).run Try.prog w6 = .ok () w7 := hput
          rw [htv] at hlaw
          have O7 : Ost W (shapeC sets ways ns delay seed) sets ways ns g mt mp s6 T (updN P A 2) w7 := ⟨D7, hlaw, hs6.trans O.sets, hw6.trans O.ways, hn6.trans O.ns⟩
          clear hmask hLe O2 k6 h6 htv htv0 hl2 hT hP hlaw D7 hs6 hw6 hn6 D6
          obtain ⟨nT, hnT, hn5, hlt⟩ := O7.lens
          replace hlt := hlt 3
          obtain ⟨x0, x1, -⟩ := O7.wd.env.cells
          have hmul := mul_sw hfine
          go_wp2_with fail
          go_at_call 18
          refine (Under_any _ g _ O7.wd.held).mono ?_
          rintro e w8 ⟨rfl, k8⟩
          have O8 := O7.still k8
          have hlp := O8.lenp 3
          clear hlt x0 x1 O7 k8
          go_wp2
          exact hR.out ⟨⟨k + 1, _, _, _, hk1, by simp, O8⟩, hms⟩
    · rw [hr]
      clear hr
      generalize (askS s L true).1 = s6 at h6 D6 hs6 hw6 hn6 hlaw
      as_aux_lemma =>
        have htv0 := hT
        have hlook0 : (Instr.lookup 51 (.map (some mt)) (.int .u64 (U A)) false).run Try.prog w6 = .ok (.int .i64 0) w6 := by have := D6.tm.get A; rw [htv0] at this; exact this
        clear htv0
        have htv0 := hP
        have hlook : (Instr.lookup 51 (.map (some mp)) (.int .u64 (U A)) false).run Try.prog w6 = .ok (.int .i64 0) w6 := by have := D6.pm.get A; rw [htv0] at this; exact this
        obtain ⟨w7, hput, D7, -⟩ := D6.putP ap O.law.fewP (by decide) A (n := 2) (by decide) (by decide)
        replace hput : (Instr.mapUpdate 51 (.map (some mp)) (.int .u64 (U A)) (.int .i64 2)).run Try.prog w6 = .ok () w7 := hput
        have O7 : Ost W (shapeC sets ways ns delay seed) sets ways ns g mt mp s6 T (updN P A 2) w7 := ⟨D7, hlaw, hs6.trans O.sets, hw6.trans O.ways, hn6.trans O.ns⟩
        clear hmask hLe O2 k6 h6 htv0 hT hP hlaw D7 hs6 hw6 hn6 D6
        obtain ⟨nT, hnT, hn5, hlt⟩ := O7.lens
        replace hlt := hlt 3
        obtain ⟨x0, x1, -⟩ := O7.wd.env.cells
        have hmul := mul_sw hfine
        go_wp2_with fail
        go_at_call 18
        refine (Under_any _ g _ O7.wd.held).mono ?_
        rintro e w8 ⟨rfl, k8⟩
        have O8 := O7.still k8
        have hlp := O8.lenp 3
        clear hlt x0 x1 O7 k8
        go_wp2
        exact hR.out ⟨⟨k + 1, _, _, _, hk1, by simp, O8⟩, hms⟩
    · rw [hr]
      clear hr
      rw [hs] at h6 D6
      clear hs
      as_aux_lemma =>
        have htv0 := hT
        have hlook0 : (Instr.lookup 51 (.map (some mt)) (.int .u64 (U A)) false).run Try.prog w6 = .ok (.int .i64 0) w6 := by have := D6.tm.get A; rw [htv0] at this; exact this
        clear htv0
        have htv0 := hP
        have hlook : (Instr.lookup 51 (.map (some mp)) (.int .u64 (U A)) false).run Try.prog w6 = .ok (.int .i64 0) w6 := by have := D6.pm.get A; rw [htv0] at this; exact this
        have O6 : Ost W (shapeC sets ways ns delay seed) sets ways ns g mt mp s T P w6 := ⟨D6, O.law, O.sets, O.ways, O.ns⟩
        clear hmask hLe O2 k6 h6 htv0 hT hP hs6 hw6 hn6 D6
        have hund2 : ((underS s s.ns : Nat) : Int) = (ns : Int) := by rw [hund, O.ns]
        have HH := O6.wd.held.drew
        have OO := hide O6.drew
        go_wp2_with fail
        go_region_held3 (fun w' => Env W (shapeC sets ways ns delay seed) w' ∧ w'.cell? ⟨W.heap.size, 2, none⟩ = some (.int .i64 (ns : Nat)))
          (first | assumption | exact ⟨OO.out.wd.env, OO.out.wd.env.cells.2.2.1⟩ | exact ⟨(OO.out.still k9).wd.env, (OO.out.still k9).wd.env.cells.2.2.1⟩)
          (first
          | (go_at_call 18; refine (Under_lit _ g s _ hund2 HH).mono ?_; rintro e w9 ⟨rfl, k9⟩))
        all_goals
          have O7 := OO.out.still k9
          clear OO O6 HH k9 hlook hlook0
          obtain ⟨nT, hnT, hn5, hlt⟩ := O7.lens
          replace hlt := hlt 3
          obtain ⟨x0, x1, -⟩ := O7.wd.env.cells
          have hmul := mul_sw hfine
          go_wp2_with fail
          go_at_call 18
          refine (Under_any _ g _ O7.wd.held).mono ?_
          rintro e w8 ⟨rfl, k8⟩
          have O8 := O7.still k8
          have hlp := O8.lenp 3
          clear hlt x0 x1 O7 k8
          go_wp2
          exact hR.out ⟨⟨k + 1, _, _, _, hk1, by simp, O8⟩, hms⟩
end Go.Proofs.Ytpflodhnniochaa
