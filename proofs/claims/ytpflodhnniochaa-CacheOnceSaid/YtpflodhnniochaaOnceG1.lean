/-
  A round of CacheOnce's loop: Tick.
-/
import Derived.Test.YtpflodhnniochaaOnceF
namespace Go.Proofs.Ytpflodhnniochaa
set_option linter.unusedVariables false
open Go.RowKit Go.Maps

set_option maxRecDepth 100000 in
set_option maxHeartbeats 400000000 in
theorem Once_1 (W : World) (sets ways ns delay : Nat) (hfine : Fine sets ways ns delay) (seed : BitVec 64) (g : G) (mt mp : Nat) (ap : Apt W g mt mp) (a : Addr) (n cap k : Nat) (kd : Int) (at_ : BitVec 64) (wb : Bool) (wr : World) (s : St) (T P : BitVec 64 → Nat)
    (O : Ost W (shapeC sets ways ns delay seed) sets ways ns g mt mp s T P wr) (hkn : k < n) (hin2 : (k : Int) < (n : Int)) (hi0 : 0 ≤ (k : Int)) (hnm : (n : Int) ≤ 9223372036854775807)
    (d0 : wr.cell? (a.add (k * 3)) = some (.int .i64 kd)) (d1 : wr.cell? ⟨(a.add (k * 3)).block, (a.add (k * 3)).off + 1, none⟩ = some (.int .u64 (U at_))) (d2 : wr.cell? ⟨(a.add (k * 3)).block, (a.add (k * 3)).off + 2, none⟩ = some (.bool wb))
    {c0 c3 c17 c18 c19 c20 c21 c22 c23 c24 c25 c26 c27 c28 c29 c30 c31 c32 c33 c34 c35 c36 c37 c38 c39 c40 c41 c42 c43 c263 c264 c265 c266 c267 c268 c269 c270 c271 c272 c273 c274 c275 c276 c277 c278 c279 c280 c281 c282 c283 c284 c285 c286 c287 c288 c289 c290 c291 c292 c293 c294 c295 c296 c297 c298 c299 c300 c301 c302 c303 c304 c305 c306 c307 c308 c309 c310 c311 c312 c313 c314 c315 c316 c317 c318 c319 c320 c321 c322 c323 c324 c325 c326 c327 : Value} {u4 u9 u10 u11 u12 u13 u14 u15 u16 u44 u45 u46 u47 u48 u49 u50 u51 u52 u53 u54 u55 u56 u57 u58 u59 u60 u61 u62 u63 u64 u65 u66 u67 u68 u69 u70 u71 u72 u73 u74 u75 u76 u77 u78 u79 u80 u81 u82 u83 u84 u85 u86 u87 u88 u89 u90 u91 u92 u93 u94 u95 u96 u97 u98 u99 u100 u101 u102 u103 u104 u105 u106 u107 u108 u109 u110 u111 u112 u113 u114 u115 u116 u117 u118 u119 u120 u121 u122 u123 u124 u125 u126 u127 u128 u129 u130 u131 u132 u133 u134 u135 u136 u137 u138 u139 u140 u141 u142 u143 u144 u145 u146 u147 u148 u149 u150 u151 u152 u153 u154 u155 u156 u157 u158 u159 u160 u161 u162 u163 u164 u165 u166 u167 u168 u169 u170 u171 u172 u173 u174 u175 u176 u177 u178 u179 u180 u181 u182 u183 u184 u185 u186 u187 u188 u189 u190 u191 u192 u193 u194 u195 u196 u197 u198 u199 u200 u201 u202 u203 u204 u205 u206 u207 u208 u209 u210 u211 u212 u213 u214 u215 u216 u217 u218 u219 u220 u221 u222 u223 u224 u225 u226 u227 u228 u229 u230 u231 u232 u233 u234 u235 u236 u237 u238 u239 u240 u241 u242 u243 u244 u245 u246 u247 u248 u249 u250 u251 u252 u253 u254 u255 u256 u257 u258 u259 u260 u261 u262 : Value}
    (hkind : kd = 1) (Q : Exit → Act → World → Prop)
    (hR : Hid (∀ {u4 u8 u9 u10 u11 u12 u13 u14 u15 u16 u44 u45 u46 u47 u48 u49 u50 u51 u52 u53 u54 u55 u56 u57 u58 u59 u60 u61 u62 u63 u64 u65 u66 u67 u68 u69 u70 u71 u72 u73 u74 u75 u76 u77 u78 u79 u80 u81 u82 u83 u84 u85 u86 u87 u88 u89 u90 u91 u92 u93 u94 u95 u96 u97 u98 u99 u100 u101 u102 u103 u104 u105 u106 u107 u108 u109 u110 u111 u112 u113 u114 u115 u116 u117 u118 u119 u120 u121 u122 u123 u124 u125 u126 u127 u128 u129 u130 u131 u132 u133 u134 u135 u136 u137 u138 u139 u140 u141 u142 u143 u144 u145 u146 u147 u148 u149 u150 u151 u152 u153 u154 u155 u156 u157 u158 u159 u160 u161 u162 u163 u164 u165 u166 u167 u168 u169 u170 u171 u172 u173 u174 u175 u176 u177 u178 u179 u180 u181 u182 u183 u184 u185 u186 u187 u188 u189 u190 u191 u192 u193 u194 u195 u196 u197 u198 u199 u200 u201 u202 u203 u204 u205 u206 u207 u208 u209 u210 u211 u212 u213 u214 u215 u216 u217 u218 u219 u220 u221 u222 u223 u224 u225 u226 u227 u228 u229 u230 u231 u232 u233 u234 u235 u236 u237 u238 u239 u240 u241 u242 u243 u244 u245 u246 u247 u248 u249 u250 u251 u252 u253 u254 u255 u256 u257 u258 u259 u260 u261 u262 : Value} {w' : World}, (∃ (k : Nat) (s : St) (T P : BitVec 64 → Nat), k ≤ n ∧ u8 = .int .i64 k ∧ Ost W (shapeC sets ways ns delay seed) sets ways ns g mt mp s T P w') ∧ n - (intOf u8).toNat < n - (intOf (.int .i64 (k : Int))).toNat → Q .normal ⟨List.toArray (c0 :: (.slice (some a) n cap) :: (.pointer (some ⟨W.heap.size, 0, none⟩)) :: c3 :: u4 :: (.pointer (some ⟨g.c, 0, none⟩)) :: (.map (some mt)) :: (.map (some mp)) :: u8 :: u9 :: u10 :: u11 :: u12 :: u13 :: u14 :: u15 :: u16 :: c17 :: c18 :: c19 :: c20 :: c21 :: c22 :: c23 :: c24 :: c25 :: c26 :: c27 :: c28 :: c29 :: c30 :: c31 :: c32 :: c33 :: c34 :: c35 :: c36 :: c37 :: c38 :: c39 :: c40 :: c41 :: c42 :: c43 :: u44 :: u45 :: u46 :: u47 :: u48 :: u49 :: u50 :: u51 :: u52 :: u53 :: u54 :: u55 :: u56 :: u57 :: u58 :: u59 :: u60 :: u61 :: u62 :: u63 :: u64 :: u65 :: u66 :: u67 :: u68 :: u69 :: u70 :: u71 :: u72 :: u73 :: u74 :: u75 :: u76 :: u77 :: u78 :: u79 :: u80 :: u81 :: u82 :: u83 :: u84 :: u85 :: u86 :: u87 :: u88 :: u89 :: u90 :: u91 :: u92 :: u93 :: u94 :: u95 :: u96 :: u97 :: u98 :: u99 :: u100 :: u101 :: u102 :: u103 :: u104 :: u105 :: u106 :: u107 :: u108 :: u109 :: u110 :: u111 :: u112 :: u113 :: u114 :: u115 :: u116 :: u117 :: u118 :: u119 :: u120 :: u121 :: u122 :: u123 :: u124 :: u125 :: u126 :: u127 :: u128 :: u129 :: u130 :: u131 :: u132 :: u133 :: u134 :: u135 :: u136 :: u137 :: u138 :: u139 :: u140 :: u141 :: u142 :: u143 :: u144 :: u145 :: u146 :: u147 :: u148 :: u149 :: u150 :: u151 :: u152 :: u153 :: u154 :: u155 :: u156 :: u157 :: u158 :: u159 :: u160 :: u161 :: u162 :: u163 :: u164 :: u165 :: u166 :: u167 :: u168 :: u169 :: u170 :: u171 :: u172 :: u173 :: u174 :: u175 :: u176 :: u177 :: u178 :: u179 :: u180 :: u181 :: u182 :: u183 :: u184 :: u185 :: u186 :: u187 :: u188 :: u189 :: u190 :: u191 :: u192 :: u193 :: u194 :: u195 :: u196 :: u197 :: u198 :: u199 :: u200 :: u201 :: u202 :: u203 :: u204 :: u205 :: u206 :: u207 :: u208 :: u209 :: u210 :: u211 :: u212 :: u213 :: u214 :: u215 :: u216 :: u217 :: u218 :: u219 :: u220 :: u221 :: u222 :: u223 :: u224 :: u225 :: u226 :: u227 :: u228 :: u229 :: u230 :: u231 :: u232 :: u233 :: u234 :: u235 :: u236 :: u237 :: u238 :: u239 :: u240 :: u241 :: u242 :: u243 :: u244 :: u245 :: u246 :: u247 :: u248 :: u249 :: u250 :: u251 :: u252 :: u253 :: u254 :: u255 :: u256 :: u257 :: u258 :: u259 :: u260 :: u261 :: u262 :: c263 :: c264 :: c265 :: c266 :: c267 :: c268 :: c269 :: c270 :: c271 :: c272 :: c273 :: c274 :: c275 :: c276 :: c277 :: c278 :: c279 :: c280 :: c281 :: c282 :: c283 :: c284 :: c285 :: c286 :: c287 :: c288 :: c289 :: c290 :: c291 :: c292 :: c293 :: c294 :: c295 :: c296 :: c297 :: c298 :: c299 :: c300 :: c301 :: c302 :: c303 :: c304 :: c305 :: c306 :: c307 :: c308 :: c309 :: c310 :: c311 :: c312 :: c313 :: c314 :: c315 :: c316 :: c317 :: c318 :: c319 :: c320 :: c321 :: c322 :: c323 :: c324 :: c325 :: c326 :: c327 :: []), []⟩ w')) :
    Code.wp Try.prog onceBody Q ⟨List.toArray (c0 :: (.slice (some a) n cap) :: (.pointer (some ⟨W.heap.size, 0, none⟩)) :: c3 :: u4 :: (.pointer (some ⟨g.c, 0, none⟩)) :: (.map (some mt)) :: (.map (some mp)) :: (.int .i64 (k : Int)) :: u9 :: u10 :: u11 :: u12 :: u13 :: u14 :: u15 :: u16 :: c17 :: c18 :: c19 :: c20 :: c21 :: c22 :: c23 :: c24 :: c25 :: c26 :: c27 :: c28 :: c29 :: c30 :: c31 :: c32 :: c33 :: c34 :: c35 :: c36 :: c37 :: c38 :: c39 :: c40 :: c41 :: c42 :: c43 :: u44 :: u45 :: u46 :: u47 :: u48 :: u49 :: u50 :: u51 :: u52 :: u53 :: u54 :: u55 :: u56 :: u57 :: u58 :: u59 :: u60 :: u61 :: u62 :: u63 :: u64 :: u65 :: u66 :: u67 :: u68 :: u69 :: u70 :: u71 :: u72 :: u73 :: u74 :: u75 :: u76 :: u77 :: u78 :: u79 :: u80 :: u81 :: u82 :: u83 :: u84 :: u85 :: u86 :: u87 :: u88 :: u89 :: u90 :: u91 :: u92 :: u93 :: u94 :: u95 :: u96 :: u97 :: u98 :: u99 :: u100 :: u101 :: u102 :: u103 :: u104 :: u105 :: u106 :: u107 :: u108 :: u109 :: u110 :: u111 :: u112 :: u113 :: u114 :: u115 :: u116 :: u117 :: u118 :: u119 :: u120 :: u121 :: u122 :: u123 :: u124 :: u125 :: u126 :: u127 :: u128 :: u129 :: u130 :: u131 :: u132 :: u133 :: u134 :: u135 :: u136 :: u137 :: u138 :: u139 :: u140 :: u141 :: u142 :: u143 :: u144 :: u145 :: u146 :: u147 :: u148 :: u149 :: u150 :: u151 :: u152 :: u153 :: u154 :: u155 :: u156 :: u157 :: u158 :: u159 :: u160 :: u161 :: u162 :: u163 :: u164 :: u165 :: u166 :: u167 :: u168 :: u169 :: u170 :: u171 :: u172 :: u173 :: u174 :: u175 :: u176 :: u177 :: u178 :: u179 :: u180 :: u181 :: u182 :: u183 :: u184 :: u185 :: u186 :: u187 :: u188 :: u189 :: u190 :: u191 :: u192 :: u193 :: u194 :: u195 :: u196 :: u197 :: u198 :: u199 :: u200 :: u201 :: u202 :: u203 :: u204 :: u205 :: u206 :: u207 :: u208 :: u209 :: u210 :: u211 :: u212 :: u213 :: u214 :: u215 :: u216 :: u217 :: u218 :: u219 :: u220 :: u221 :: u222 :: u223 :: u224 :: u225 :: u226 :: u227 :: u228 :: u229 :: u230 :: u231 :: u232 :: u233 :: u234 :: u235 :: u236 :: u237 :: u238 :: u239 :: u240 :: u241 :: u242 :: u243 :: u244 :: u245 :: u246 :: u247 :: u248 :: u249 :: u250 :: u251 :: u252 :: u253 :: u254 :: u255 :: u256 :: u257 :: u258 :: u259 :: u260 :: u261 :: u262 :: c263 :: c264 :: c265 :: c266 :: c267 :: c268 :: c269 :: c270 :: c271 :: c272 :: c273 :: c274 :: c275 :: c276 :: c277 :: c278 :: c279 :: c280 :: c281 :: c282 :: c283 :: c284 :: c285 :: c286 :: c287 :: c288 :: c289 :: c290 :: c291 :: c292 :: c293 :: c294 :: c295 :: c296 :: c297 :: c298 :: c299 :: c300 :: c301 :: c302 :: c303 :: c304 :: c305 :: c306 :: c307 :: c308 :: c309 :: c310 :: c311 :: c312 :: c313 :: c314 :: c315 :: c316 :: c317 :: c318 :: c319 :: c320 :: c321 :: c322 :: c323 :: c324 :: c325 :: c326 :: c327 :: []), []⟩ wr := by
  have hms := meas_succ2 hkn
  have hk1 : k + 1 ≤ n := hkn
  conv => arg 2; whnf
  subst hkind
  have O2 := O.still ((Kept.refl _ wr).alloc (Obj.cells #[.int .i64 1, .int .u64 (U (at_ ||| 9223372036854775808#64)), .bool wb] 32))
  have hmtl := O2.wd.tm.lt
  have hmpl := O2.wd.pm.lt
  cases wb
  all_goals
    go_wp2_with fail
    go_at_call 13
    refine (Tick_any _ g s O2.wd.held O2.wd.fr).mono ?_
    rintro e w6 ⟨v, rfl, o6, h6, k6⟩
    obtain ⟨z, zc, rfl, hca⟩ := owns_base o6
    have D6 := O2.wd.own ap h6 (fr_tick O2.wd.fr) k6
    obtain ⟨q1, hok, q3⟩ := law_tick O.law s.ns (Nat.le_refl _)
    have hlen8 : (tickS s s.ns).2.length ≤ 8 := Nat.le_trans (tick_length s _) O.law.con.ok.ns.2
    have hs6 : (tickS s s.ns).1.sets = sets := q1.trans O.sets
    have hw6 : (tickS s s.ns).1.ways = ways := (tick_ways s _).trans O.ways
    have hn6 : (tickS s s.ns).1.ns = ns := (tick_ns s _).trans O.ns
    have hmne := m_ne O.law.con.ok
    have hm : s.m = BitVec.ofNat 64 sets := by unfold St.m; rw [O.sets]
    rw [O.sets] at hmne
    rw [hm] at hok
    have hfT := hide O.law.fewT
    have hfP := hide O.law.fewP
    generalize tickS s s.ns = r at D6 hok q3 hca hlen8 hs6 hw6 hn6
    obtain ⟨s6, ds⟩ := r
    simp only [] at D6 hok q3 hca hlen8 hs6 hw6 hn6
    have hcc : Hid (0 < ds.length → ∃ b, z = some ⟨b, 0, none⟩ ∧ b ≠ mt ∧ b ≠ mp ∧ ∀ j u, (dnCells ds)[j]? = some u → w6.cell? ⟨b, j, none⟩ = some u) := hide (fun h0 => by
      obtain ⟨b, e, hb, hc⟩ := hca h0
      exact ⟨b, e, fun e => Nat.lt_irrefl _ (Nat.lt_of_lt_of_le hmtl (e ▸ hb)), fun e => Nat.lt_irrefl _ (Nat.lt_of_lt_of_le hmpl (e ▸ hb)), hc⟩)
    replace hok := hide hok
    replace q3 := hide q3
    replace hs6 := hide hs6
    replace hw6 := hide hw6
    replace hn6 := hide hn6
    simp only []
    clear q1 hm hca o6 h6 k6 O2 hmtl hmpl d0 d1 d2
    as_aux_lemma =>
      go_wp2_with fail
      go_loopw [14] (fun jv wr => ∃ j : Nat, j ≤ ds.length ∧ jv = .int .i64 j ∧ Wd W (shapeC sets ways ns delay seed) g mt mp s6 (run (T, P) (ds.take j)).1 (run (T, P) (ds.take j)).2 wr ∧ Kept (Two2 mt mp) w6 wr) (fun jv _ => ds.length - (intOf jv).toNat)
      case atStart => exact ⟨0, Nat.zero_le _, rfl, D6, Kept.refl _ _⟩
      case round =>
        obtain ⟨j, hj, rfl, D7, k7⟩ := hrel
        clear D6
        by_cases hjl : j < ds.length
        · obtain ⟨b, rfl, hbt, hbp, hcs⟩ := hcc.out (by omega)
          have hjl2 : (j : Int) < (ds.length : Int) := by omega
          have hj0 : 0 ≤ (j : Int) := by omega
          have hms2 := meas_succ2 hjl
          have hj1 : j + 1 ≤ ds.length := hjl
          have hd := List.getElem?_eq_getElem hjl
          generalize ds[j] = d at hd
          have hb2 : ¬ Two2 mt mp b := fun e => e.elim hbt hbp
          have ck0 := hcs _ _ (dn_at ds j d hd).1
          have ck1 := hcs _ _ (dn_at ds j d hd).2
          have ck2 := hcs _ _ (dn_at3 ds j d hd)
          have x0 := k7.cell ck0 hb2
          have x1 := k7.cell ck1 hb2
          have x2 := k7.cell ck2 hb2
          obtain ⟨p1, p2, p3, p4, p5⟩ := hok.out j d hd
          have hrt := hide (run_take (q := (T, P)) hd)
          have hfT2 : Few (run (T, P) (ds.take j)).1 1000 := fun ka h1 h2 => Nat.le_trans (few_run (q := (T, P)) hfT.out (ds.take j) ka h1 h2) (by rw [List.length_take]; omega)
          have hfP2 : Few (run (T, P) (ds.take j)).2 8 := few_runP (q := (T, P)) hfP.out _
          replace hfT2 := hide hfT2
          replace hfP2 := hide hfP2
          replace hms := hide hms
          clear hcs hd hok hcc
          have hRun := hide (run_le2 (q := (T, P)) O.law.le2 O.law.le2P (ds.take j))
          generalize run (T, P) (ds.take j) = q at D7 p1 p2 p3 p4 p5 hrt hfT2 hfP2 hRun
          obtain ⟨qT, qP⟩ := q
          simp only [] at D7 p1 p2 p3 p4 hrt hfT2 hfP2 hRun
          generalize hpv : qP d.at_ = pv at p1 p2
          have hpv0 : ((pv : Int) == 0) = false := by simp; omega
          have l1 : (Instr.lookup 51 (.map (some mp)) (.int .u64 (U d.at_)) false).run Try.prog wr = .ok (.int .i64 (pv : Int)) wr := by have := D7.pm.get d.at_; rw [hpv] at this; exact this
          have l2 : (Instr.lookup 51 (.map (some mt)) (.int .u64 (U d.at_)) false).run Try.prog wr = .ok (.int .i64 0) wr := by have := D7.tm.get d.at_; rw [p3] at this; exact this
          replace ck0 := hide ck0
          replace ck1 := hide ck1
          replace ck2 := hide ck2
          replace hpv := hide hpv
          replace p3 := hide p3
          replace p1 := hide p1
          by_cases ho : d.out = 0#64
          · have hwf := p5 ho
            rw [ho] at x1
            rw [hwf] at x2
            have x1 : wr.cell? ⟨b, j * 3 + 1, none⟩ = some (.int .u64 0) := x1
            clear p4 p5
            go_wp2_with fail
            clear l1 l2 x0 x1 x2
            have D18 := D7.drew
            have k18 := k7.drew
            have x0 := k18.cell ck0.out hb2
            have l1 : (Instr.lookup 51 (.map (some mp)) (.int .u64 (U d.at_)) false).run Try.prog wr.drew = .ok (.int .i64 (pv : Int)) wr.drew := by have := D18.pm.get d.at_; rw [hpv.out] at this; exact this
            obtain ⟨hput, D19, t19⟩ := D18.putA ap (hfT2.out) (by decide) d.at_ p1.out p2
            have k19 := k18.turnT t19
            obtain ⟨hput2, -, -⟩ := D19.putA ap ((hfT2.out).upd d.at_ pv) (by decide) d.at_ p1.out p2
            have y0 := k19.cell ck0.out hb2
            have m1 : (Instr.lookup 51 (.map (some mp)) (.int .u64 (U d.at_)) false).run Try.prog (after (putU mt d.at_ pv) wr.drew) = .ok (.int .i64 (pv : Int)) (after (putU mt d.at_ pv) wr.drew) := by have := D19.pm.get d.at_; rw [hpv.out] at this; exact this
            replace D19 := hide D19
            replace k19 := hide k19
            clear D7 D18 k7 k18 t19
            go_region_held3 (fun w' => w'.cell? ⟨b, j * 3, none⟩ = some (.int .u64 (U d.at_)) ∧ (Instr.lookup 51 (.map (some mp)) (.int .u64 (U d.at_)) false).run Try.prog w' = .ok (.int .i64 (pv : Int)) w' ∧ (Instr.mapUpdate 51 (.map (some mt)) (.int .u64 (U d.at_)) (.int .i64 (pv : Int))).run Try.prog w' = .ok () (after (putU mt d.at_ pv) w'))
              (first | assumption | exact ⟨x0, l1, hput⟩ | exact ⟨y0, m1, hput2⟩)
              (fail)
            clear l1 x0 hput hput2 y0 m1
            replace D19 := D19.out
            replace k19 := k19.out
            generalize after (putU mt d.at_ pv) wr.drew = w19 at D19 k19 ⊢
            have x0 := k19.cell ck0.out hb2
            obtain ⟨w20, hdel, D20, t20⟩ := D19.dropP ap d.at_ 0
            have k20 := k19.turnP t20
            have hT3 : Hid (doD (qT, qP) d = (updN qT d.at_ pv, updN qP d.at_ 0)) := hide (by unfold doD; simp only []; rw [if_pos ho, hpv.out])
            clear D19 k19 t20
            go_wp2_with fail
            go_roundw
            case rel => exact ⟨j + 1, hj1, by simp, by rw [hrt.out, hT3.out]; exact D20, k20⟩
            case measure => exact hms2
          · obtain ⟨p6, p7, p8⟩ := p4 ho
            have q1 : ¬ U d.out = 0 := fun h => ho (U_zero.1 h)
            have q2 : (U d.out != 0) = true := by simpa using q1
            have hle2 : qT d.out ≤ 2 := hRun.out d.out
            replace p7 : d.written = decide (qT d.out = 2) := p7
            obtain ⟨tv, htv⟩ : ∃ tv, qT d.out = tv := ⟨_, rfl⟩
            rw [htv] at p6 p7 hle2
            have hTw : (tv = 1 ∧ d.written = false) ∨ (tv = 2 ∧ d.written = true) := by
              rcases (by omega : tv = 1 ∨ tv = 2) with e | e
              · subst e; exact .inl ⟨rfl, p7⟩
              · subst e; exact .inr ⟨rfl, p7⟩
            have x3 := D7.env.cells.1
            have p8U : U ((d.out / 64#64) % BitVec.ofNat 64 sets) = U ((d.at_ / 64#64) % BitVec.ofNat 64 sets) := by rw [p8]
            replace p8U := hide p8U
            clear p5 p7 p8 p6 hle2
            rcases hTw with ⟨rfl, hwr⟩ | ⟨rfl, hwr⟩
            · rw [hwr] at x2
              have hlo : ∀ n, (Instr.lookup 51 (.map (some mt)) (.int .u64 (U d.out)) false).run Try.prog (wr.drewN n) = .ok (.int .i64 1) (wr.drewN n) := fun n => by have := (D7.drewN n).tm.get d.out; rw [htv] at this; exact this
              have hmne2 := hmne
              have p8U := p8U.out
              clear htv
              as_aux_lemma =>
                go_wp2_with fail
                go_quiet (fail)
                have D8 := D7.drewN nq
                have k8 := k7.drewN nq
                clear l1 l2 x0 x1 x2 x3 hlo D7 k7
                generalize wr.drewN nq = w8 at D8 k8 ⊢
                have x0 := k8.cell ck0.out hb2
                have x1 := k8.cell ck1.out hb2
                obtain ⟨w9, hdelT, D9, t9⟩ := D8.dropT ap d.out 0
                have k9 := k8.turnT t9
                clear D8 k8 t9
                go_wp2_with fail
                clear hdelT x0 x1
                have D18 := D9.drew
                have k18 := k9.drew
                have x0 := k18.cell ck0.out hb2
                have l1 : (Instr.lookup 51 (.map (some mp)) (.int .u64 (U d.at_)) false).run Try.prog w9.drew = .ok (.int .i64 (pv : Int)) w9.drew := by have := D18.pm.get d.at_; rw [hpv.out] at this; exact this
                obtain ⟨hput, D19, t19⟩ := D18.putA ap ((hfT2.out.del d.out)) (by decide) d.at_ p1.out p2
                have k19 := k18.turnT t19
                obtain ⟨hput2, -, -⟩ := D19.putA ap (((hfT2.out.del d.out)).upd d.at_ pv) (by decide) d.at_ p1.out p2
                have y0 := k19.cell ck0.out hb2
                have m1 : (Instr.lookup 51 (.map (some mp)) (.int .u64 (U d.at_)) false).run Try.prog (after (putU mt d.at_ pv) w9.drew) = .ok (.int .i64 (pv : Int)) (after (putU mt d.at_ pv) w9.drew) := by have := D19.pm.get d.at_; rw [hpv.out] at this; exact this
                replace D19 := hide D19
                replace k19 := hide k19
                clear D9 D18 k9 k18 t19
                go_region_held3 (fun w' => w'.cell? ⟨b, j * 3, none⟩ = some (.int .u64 (U d.at_)) ∧ (Instr.lookup 51 (.map (some mp)) (.int .u64 (U d.at_)) false).run Try.prog w' = .ok (.int .i64 (pv : Int)) w' ∧ (Instr.mapUpdate 51 (.map (some mt)) (.int .u64 (U d.at_)) (.int .i64 (pv : Int))).run Try.prog w' = .ok () (after (putU mt d.at_ pv) w'))
                  (first | assumption | exact ⟨x0, l1, hput⟩ | exact ⟨y0, m1, hput2⟩)
                  (fail)
                clear l1 x0 hput hput2 y0 m1
                replace D19 := D19.out
                replace k19 := k19.out
                generalize after (putU mt d.at_ pv) w9.drew = w19 at D19 k19 ⊢
                have x0 := k19.cell ck0.out hb2
                obtain ⟨w20, hdel, D20, t20⟩ := D19.dropP ap d.at_ 0
                have k20 := k19.turnP t20
                have hT3 : Hid (doD (qT, qP) d = (updN (updN qT d.out 0) d.at_ pv, updN qP d.at_ 0)) := hide (by unfold doD; simp only []; rw [if_neg ho, hpv.out])
                clear D19 k19 t20
                go_wp2_with fail
                go_roundw
                case rel => exact ⟨j + 1, hj1, by simp, by rw [hrt.out, hT3.out]; exact D20, k20⟩
                case measure => exact hms2
            · rw [hwr] at x2
              have hlo : ∀ n, (Instr.lookup 51 (.map (some mt)) (.int .u64 (U d.out)) false).run Try.prog (wr.drewN n) = .ok (.int .i64 2) (wr.drewN n) := fun n => by have := (D7.drewN n).tm.get d.out; rw [htv] at this; exact this
              have hmne2 := hmne
              have p8U := p8U.out
              clear htv
              as_aux_lemma =>
                go_wp2_with fail
                go_quiet (fail)
                have D8 := D7.drewN nq
                have k8 := k7.drewN nq
                clear l1 l2 x0 x1 x2 x3 hlo D7 k7
                generalize wr.drewN nq = w8 at D8 k8 ⊢
                have x0 := k8.cell ck0.out hb2
                have x1 := k8.cell ck1.out hb2
                obtain ⟨w9, hdelT, D9, t9⟩ := D8.dropT ap d.out 0
                have k9 := k8.turnT t9
                clear D8 k8 t9
                go_wp2_with fail
                clear hdelT x0 x1
                have D18 := D9.drew
                have k18 := k9.drew
                have x0 := k18.cell ck0.out hb2
                have l1 : (Instr.lookup 51 (.map (some mp)) (.int .u64 (U d.at_)) false).run Try.prog w9.drew = .ok (.int .i64 (pv : Int)) w9.drew := by have := D18.pm.get d.at_; rw [hpv.out] at this; exact this
                obtain ⟨hput, D19, t19⟩ := D18.putA ap ((hfT2.out.del d.out)) (by decide) d.at_ p1.out p2
                have k19 := k18.turnT t19
                obtain ⟨hput2, -, -⟩ := D19.putA ap (((hfT2.out.del d.out)).upd d.at_ pv) (by decide) d.at_ p1.out p2
                have y0 := k19.cell ck0.out hb2
                have m1 : (Instr.lookup 51 (.map (some mp)) (.int .u64 (U d.at_)) false).run Try.prog (after (putU mt d.at_ pv) w9.drew) = .ok (.int .i64 (pv : Int)) (after (putU mt d.at_ pv) w9.drew) := by have := D19.pm.get d.at_; rw [hpv.out] at this; exact this
                replace D19 := hide D19
                replace k19 := hide k19
                clear D9 D18 k9 k18 t19
                go_region_held3 (fun w' => w'.cell? ⟨b, j * 3, none⟩ = some (.int .u64 (U d.at_)) ∧ (Instr.lookup 51 (.map (some mp)) (.int .u64 (U d.at_)) false).run Try.prog w' = .ok (.int .i64 (pv : Int)) w' ∧ (Instr.mapUpdate 51 (.map (some mt)) (.int .u64 (U d.at_)) (.int .i64 (pv : Int))).run Try.prog w' = .ok () (after (putU mt d.at_ pv) w'))
                  (first | assumption | exact ⟨x0, l1, hput⟩ | exact ⟨y0, m1, hput2⟩)
                  (fail)
                clear l1 x0 hput hput2 y0 m1
                replace D19 := D19.out
                replace k19 := k19.out
                generalize after (putU mt d.at_ pv) w9.drew = w19 at D19 k19 ⊢
                have x0 := k19.cell ck0.out hb2
                obtain ⟨w20, hdel, D20, t20⟩ := D19.dropP ap d.at_ 0
                have k20 := k19.turnP t20
                have hT3 : Hid (doD (qT, qP) d = (updN (updN qT d.out 0) d.at_ pv, updN qP d.at_ 0)) := hide (by unfold doD; simp only []; rw [if_neg ho, hpv.out])
                clear D19 k19 t20
                go_wp2_with fail
                go_roundw
                case rel => exact ⟨j + 1, hj1, by simp, by rw [hrt.out, hT3.out]; exact D20, k20⟩
                case measure => exact hms2
        · obtain rfl : j = ds.length := by omega
          rw [List.take_length] at D7
          have O7 : Ost W (shapeC sets ways ns delay seed) sets ways ns g mt mp s6 _ _ _ := ⟨D7, q3.out, hs6.out, hw6.out, hn6.out⟩
          clear D7 q3 hs6 hw6 hn6 k7 hcc hok hfT hfP hmne
          as_aux_lemma =>
            obtain ⟨nT, hnT, hn5, hlt⟩ := O7.lens
            replace hlt := hlt 3
            obtain ⟨x0, x1, -⟩ := O7.wd.env.cells
            have hmul := mul_sw hfine
            go_wp2_with fail
            go_at_call 18
            refine (Under_any _ g _ O7.wd.held).mono ?_
            rintro e w18 ⟨rfl, k18⟩
            have O8 := O7.still k18
            have hlp := O8.lenp 3
            clear hlt x0 x1 O7 k18
            go_wp2
            exact hR.out ⟨⟨k + 1, _, _, _, hk1, by simp, O8⟩, hms⟩
end Go.Proofs.Ytpflodhnniochaa
