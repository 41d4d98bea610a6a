/-
  A round of IssueGoes' loop: case 4.
-/
import Derived.Test.YtaeggnnijafooaaIssueGD
namespace Go.Proofs.Ytaeggnnijafooaa
set_option linter.unusedVariables false
open Go.RowKit Go.Maps

set_option maxRecDepth 100000 in
set_option maxHeartbeats 400000000 in
theorem Goes_4 (W : World) (l : List Sx) (cap : Nat) (i0 : TypeInfo) (hi : Try.prog.info? 30 = some i0) (hz0 : i0.zero = some (.agg #[.int .i64 0, .int .i64 0, .int .i64 0, .int .i64 0, .int .i64 0])) (hz1 : i0.size = 5) (hz2 : i0.bytes = 40) (w2 : World) (q : Nat) (wr : World)
    (u2 u4 u6 u7 u8 u9 u10 u11 u12 u13 u14 u15 u16 u17 u18 u19 u20 u21 u22 u23 u24 u25 u26 u31 u32 u33 u34 u35 u36 u37 u38 u39 u40 u41 u42 u43 u44 u45 u46 u47 u48 u49 u50 u51 u52 u53 u54 u55 u56 u57 u58 u59 u60 u61 u62 u63 u64 u65 u66 u67 u68 u69 u70 u71 u72 u73 u74 u75 u76 u77 u78 u79 u80 u81 u82 u83 u84 u85 u86 u87 u88 u89 u90 u91 u92 u93 u94 u95 u96 u97 u98 u99 u100 u101 u102 u103 u104 u105 u106 u107 u108 u109 u110 u111 u112 u113 u114 u115 u116 u117 u118 u119 u120 u121 u122 u123 u124 u125 u126 u127 u128 u129 u130 u131 u132 u133 u134 u135 u136 u137 u138 u139 u140 u141 u142 u143 u144 u145 u146 u147 u148 u149 u150 u151 u152 u153 u154 u155 u156 u157 u158 u159 u160 u161 u162 u163 u164 u165 u166 u167 u168 u169 u170 u171 u172 u173 u174 u175 u176 u177 u178 u179 u180 u181 u182 u183 u184 u185 u186 u187 u188 u189 u190 u191 u192 u193 u194 u195 u196 u197 u198 u199 u200 u201 u202 u203 u204 u205 u206 u207 u208 u209 u210 u211 u212 u213 u214 u215 u216 u217 u218 u219 u220 u221 u222 u223 u224 u225 u226 u227 u228 u229 u230 u231 u232 u233 u234 u235 u236 u237 u238 u239 u240 u241 u242 u243 u244 u245 u246 u247 u248 u249 u250 u251 u252 u253 u254 u255 u256 u257 u258 u259 u260 u261 u262 u263 u264 u265 u266 u267 u268 u269 u270 u271 u272 u273 u274 u275 u276 : Value)
    (i m : Nat) (bl : Int → Nat) (s inn : List En) (hperm : inn.Perm s) (hin : i < l.length) (a : Addr) (x : Sx) (hnw : (Lit.int .i64 x.n).wf = true) (huw : EnWf x.u) (hfw : ∀ k, (Lit.int .i64 (x.f k)).wf = true)
    (d0 : wr.cell? (a.add (i * 12)) = some (.int .i64 x.kind)) (d1 : wr.cell? ⟨(a.add (i * 12)).block, (a.add (i * 12)).off + 1, none⟩ = some (.int .i64 x.n)) (d2 : wr.cell? ⟨(a.add (i * 12)).block, (a.add (i * 12)).off + 2, none⟩ = some (.int .i64 x.u.tag)) (d3 : wr.cell? ⟨(a.add (i * 12)).block, (a.add (i * 12)).off + 3, none⟩ = some (.int .i64 x.u.unit)) (d4 : wr.cell? ⟨(a.add (i * 12)).block, (a.add (i * 12)).off + 4, none⟩ = some (.int .i64 x.u.a)) (d5 : wr.cell? ⟨(a.add (i * 12)).block, (a.add (i * 12)).off + 5, none⟩ = some (.int .i64 x.u.b)) (d6 : wr.cell? ⟨(a.add (i * 12)).block, (a.add (i * 12)).off + 6, none⟩ = some (.int .i64 x.u.c)) (d7 : wr.cell? ⟨(a.add (i * 12)).block, (a.add (i * 12)).off + 7, none⟩ = some (.int .i64 (x.f 0))) (d8 : wr.cell? ⟨(a.add (i * 12)).block, (a.add (i * 12)).off + 8, none⟩ = some (.int .i64 (x.f 1))) (d9 : wr.cell? ⟨(a.add (i * 12)).block, (a.add (i * 12)).off + 9, none⟩ = some (.int .i64 (x.f 2))) (d10 : wr.cell? ⟨(a.add (i * 12)).block, (a.add (i * 12)).off + 10, none⟩ = some (.int .i64 (x.f 3))) (d11 : wr.cell? ⟨(a.add (i * 12)).block, (a.add (i * 12)).off + 11, none⟩ = some (.int .i64 (x.f 4)))
    (hin2 : (i : Int) < (l.length : Int)) (hi0 : 0 ≤ (i : Int)) (hnm : (l.length : Int) ≤ 9223372036854775807)
    (hX : XAt (wr.alloc (.cells #[.int .i64 x.kind, .int .i64 x.n, .int .i64 x.u.tag, .int .i64 x.u.unit, .int .i64 x.u.a, .int .i64 x.u.b, .int .i64 x.u.c, .int .i64 (x.f 0), .int .i64 (x.f 1), .int .i64 (x.f 2), .int .i64 (x.f 3), .int .i64 (x.f 4)] 33)) wr.heap.size x) (G5 : Goe W (wr.alloc (.cells #[.int .i64 x.kind, .int .i64 x.n, .int .i64 x.u.tag, .int .i64 x.u.unit, .int .i64 x.u.a, .int .i64 x.u.b, .int .i64 x.u.c, .int .i64 (x.f 0), .int .i64 (x.f 1), .int .i64 (x.f 2), .int .i64 (x.f 3), .int .i64 (x.f 4)] 33)) ⟨q, m, bl⟩ u4 s inn) (hsrt : Sorted s) (hroom : (s.length : Int) ≤ 64) (hil2 : inn.length ≤ 64) (hxb : Hid (∀ y, (G.own ⟨q, m, bl⟩ s y ∨ u4.ownBlock = some y) → y < wr.heap.size)) (hil : Hid (inn.length = s.length))
    (hk0 : ¬ x.kind = 0) (hk1 : ¬ x.kind = 1) (hk3 : ¬ x.kind = 3) (Q : Exit → Act → World → Prop)
    (hR : Hid (∀ {u2 u4 u5 u6 u7 u8 u9 u10 u11 u12 u13 u14 u15 u16 u17 u18 u19 u20 u21 u22 u23 u24 u25 u26 u31 u32 u33 u34 u35 u36 u37 u38 u39 u40 u41 u42 u43 u44 u45 u46 u47 u48 u49 u50 u51 u52 u53 u54 u55 u56 u57 u58 u59 u60 u61 u62 u63 u64 u65 u66 u67 u68 u69 u70 u71 u72 u73 u74 u75 u76 u77 u78 u79 u80 u81 u82 u83 u84 u85 u86 u87 u88 u89 u90 u91 u92 u93 u94 u95 u96 u97 u98 u99 u100 u101 u102 u103 u104 u105 u106 u107 u108 u109 u110 u111 u112 u113 u114 u115 u116 u117 u118 u119 u120 u121 u122 u123 u124 u125 u126 u127 u128 u129 u130 u131 u132 u133 u134 u135 u136 u137 u138 u139 u140 u141 u142 u143 u144 u145 u146 u147 u148 u149 u150 u151 u152 u153 u154 u155 u156 u157 u158 u159 u160 u161 u162 u163 u164 u165 u166 u167 u168 u169 u170 u171 u172 u173 u174 u175 u176 u177 u178 u179 u180 u181 u182 u183 u184 u185 u186 u187 u188 u189 u190 u191 u192 u193 u194 u195 u196 u197 u198 u199 u200 u201 u202 u203 u204 u205 u206 u207 u208 u209 u210 u211 u212 u213 u214 u215 u216 u217 u218 u219 u220 u221 u222 u223 u224 u225 u226 u227 u228 u229 u230 u231 u232 u233 u234 u235 u236 u237 u238 u239 u240 u241 u242 u243 u244 u245 u246 u247 u248 u249 u250 u251 u252 u253 u254 u255 u256 u257 u258 u259 u260 u261 u262 u263 u264 u265 u266 u267 u268 u269 u270 u271 u272 u273 u274 u275 u276 : Value} {w' : World}, (∃ (i m : Nat) (bl : Int → Nat) (s inn : List En), i ≤ l.length ∧ u5 = .int .i64 i ∧ Goe W w' ⟨q, m, bl⟩ u4 s inn ∧ inn.Perm s) ∧ l.length - (intOf u5).toNat < l.length - (intOf (.int .i64 (i : Int))).toNat → Q .normal ⟨List.toArray ((.slice (some a) l.length cap) :: undef :: u2 :: (.pointer (some ⟨q, 0, none⟩)) :: u4 :: u5 :: u6 :: u7 :: u8 :: u9 :: u10 :: u11 :: u12 :: u13 :: u14 :: u15 :: u16 :: u17 :: u18 :: u19 :: u20 :: u21 :: u22 :: u23 :: u24 :: u25 :: u26 :: (.bool true) :: (.bool false) :: (.pointer (some ⟨q, 0, none⟩)) :: (.slice (some ⟨w2.heap.size, 0, none⟩) 0 0) :: u31 :: u32 :: u33 :: u34 :: u35 :: u36 :: u37 :: u38 :: u39 :: u40 :: u41 :: u42 :: u43 :: u44 :: u45 :: u46 :: u47 :: u48 :: u49 :: u50 :: u51 :: u52 :: u53 :: u54 :: u55 :: u56 :: u57 :: u58 :: u59 :: u60 :: u61 :: u62 :: u63 :: u64 :: u65 :: u66 :: u67 :: u68 :: u69 :: u70 :: u71 :: u72 :: u73 :: u74 :: u75 :: u76 :: u77 :: u78 :: u79 :: u80 :: u81 :: u82 :: u83 :: u84 :: u85 :: u86 :: u87 :: u88 :: u89 :: u90 :: u91 :: u92 :: u93 :: u94 :: u95 :: u96 :: u97 :: u98 :: u99 :: u100 :: u101 :: u102 :: u103 :: u104 :: u105 :: u106 :: u107 :: u108 :: u109 :: u110 :: u111 :: u112 :: u113 :: u114 :: u115 :: u116 :: u117 :: u118 :: u119 :: u120 :: u121 :: u122 :: u123 :: u124 :: u125 :: u126 :: u127 :: u128 :: u129 :: u130 :: u131 :: u132 :: u133 :: u134 :: u135 :: u136 :: u137 :: u138 :: u139 :: u140 :: u141 :: u142 :: u143 :: u144 :: u145 :: u146 :: u147 :: u148 :: u149 :: u150 :: u151 :: u152 :: u153 :: u154 :: u155 :: u156 :: u157 :: u158 :: u159 :: u160 :: u161 :: u162 :: u163 :: u164 :: u165 :: u166 :: u167 :: u168 :: u169 :: u170 :: u171 :: u172 :: u173 :: u174 :: u175 :: u176 :: u177 :: u178 :: u179 :: u180 :: u181 :: u182 :: u183 :: u184 :: u185 :: u186 :: u187 :: u188 :: u189 :: u190 :: u191 :: u192 :: u193 :: u194 :: u195 :: u196 :: u197 :: u198 :: u199 :: u200 :: u201 :: u202 :: u203 :: u204 :: u205 :: u206 :: u207 :: u208 :: u209 :: u210 :: u211 :: u212 :: u213 :: u214 :: u215 :: u216 :: u217 :: u218 :: u219 :: u220 :: u221 :: u222 :: u223 :: u224 :: u225 :: u226 :: u227 :: u228 :: u229 :: u230 :: u231 :: u232 :: u233 :: u234 :: u235 :: u236 :: u237 :: u238 :: u239 :: u240 :: u241 :: u242 :: u243 :: u244 :: u245 :: u246 :: u247 :: u248 :: u249 :: u250 :: u251 :: u252 :: u253 :: u254 :: u255 :: u256 :: u257 :: u258 :: u259 :: u260 :: u261 :: u262 :: u263 :: u264 :: u265 :: u266 :: u267 :: u268 :: u269 :: u270 :: u271 :: u272 :: u273 :: u274 :: u275 :: u276 :: []), []⟩ w')) :
    Code.wp Try.prog goesBody Q ⟨List.toArray ((.slice (some a) l.length cap) :: undef :: u2 :: (.pointer (some ⟨q, 0, none⟩)) :: u4 :: (.int .i64 i) :: u6 :: u7 :: u8 :: u9 :: u10 :: u11 :: u12 :: u13 :: u14 :: u15 :: u16 :: u17 :: u18 :: u19 :: u20 :: u21 :: u22 :: u23 :: u24 :: u25 :: u26 :: (.bool true) :: (.bool false) :: (.pointer (some ⟨q, 0, none⟩)) :: (.slice (some ⟨w2.heap.size, 0, none⟩) 0 0) :: u31 :: u32 :: u33 :: u34 :: u35 :: u36 :: u37 :: u38 :: u39 :: u40 :: u41 :: u42 :: u43 :: u44 :: u45 :: u46 :: u47 :: u48 :: u49 :: u50 :: u51 :: u52 :: u53 :: u54 :: u55 :: u56 :: u57 :: u58 :: u59 :: u60 :: u61 :: u62 :: u63 :: u64 :: u65 :: u66 :: u67 :: u68 :: u69 :: u70 :: u71 :: u72 :: u73 :: u74 :: u75 :: u76 :: u77 :: u78 :: u79 :: u80 :: u81 :: u82 :: u83 :: u84 :: u85 :: u86 :: u87 :: u88 :: u89 :: u90 :: u91 :: u92 :: u93 :: u94 :: u95 :: u96 :: u97 :: u98 :: u99 :: u100 :: u101 :: u102 :: u103 :: u104 :: u105 :: u106 :: u107 :: u108 :: u109 :: u110 :: u111 :: u112 :: u113 :: u114 :: u115 :: u116 :: u117 :: u118 :: u119 :: u120 :: u121 :: u122 :: u123 :: u124 :: u125 :: u126 :: u127 :: u128 :: u129 :: u130 :: u131 :: u132 :: u133 :: u134 :: u135 :: u136 :: u137 :: u138 :: u139 :: u140 :: u141 :: u142 :: u143 :: u144 :: u145 :: u146 :: u147 :: u148 :: u149 :: u150 :: u151 :: u152 :: u153 :: u154 :: u155 :: u156 :: u157 :: u158 :: u159 :: u160 :: u161 :: u162 :: u163 :: u164 :: u165 :: u166 :: u167 :: u168 :: u169 :: u170 :: u171 :: u172 :: u173 :: u174 :: u175 :: u176 :: u177 :: u178 :: u179 :: u180 :: u181 :: u182 :: u183 :: u184 :: u185 :: u186 :: u187 :: u188 :: u189 :: u190 :: u191 :: u192 :: u193 :: u194 :: u195 :: u196 :: u197 :: u198 :: u199 :: u200 :: u201 :: u202 :: u203 :: u204 :: u205 :: u206 :: u207 :: u208 :: u209 :: u210 :: u211 :: u212 :: u213 :: u214 :: u215 :: u216 :: u217 :: u218 :: u219 :: u220 :: u221 :: u222 :: u223 :: u224 :: u225 :: u226 :: u227 :: u228 :: u229 :: u230 :: u231 :: u232 :: u233 :: u234 :: u235 :: u236 :: u237 :: u238 :: u239 :: u240 :: u241 :: u242 :: u243 :: u244 :: u245 :: u246 :: u247 :: u248 :: u249 :: u250 :: u251 :: u252 :: u253 :: u254 :: u255 :: u256 :: u257 :: u258 :: u259 :: u260 :: u261 :: u262 :: u263 :: u264 :: u265 :: u266 :: u267 :: u268 :: u269 :: u270 :: u271 :: u272 :: u273 :: u274 :: u275 :: u276 :: []), []⟩ wr := by
  have hms := meas_k hin
  conv => arg 2; whnf
  have hX6c := hX
  go_wp2_with fail
  go_at_call 15
  refine (Pick_any _ ⟨q, m, bl⟩ 64 s x.f G5.q hfw).mono ?_
  rintro e w6 ⟨r6, rfl, i6, h6, k6⟩
  have hX6 := hX.kept k6 fun e => Nat.lt_irrefl _ (hxb.out _ (.inl e))
  have G6 := G5.qs h6 k6 (fun y hy => .inl (own_mono (fun e he => (pick_sub x.f s).mem he) hy))
  have hPk : Picks x.f (pickS x.f s).2 (pickS x.f s).1 inn := picks_of hsrt hperm
  have hun : ∀ e ∈ inn, 0 ≤ e.unit ∧ e.unit < 5 := fun e he => G5.q.units e (hperm.mem_iff.1 he)
  have hPl : (pickS x.f s).2.length ≤ 64 := by have := pick_len x.f s; omega
  clear G5 k6 hX hX6c h6 hperm hsrt
  generalize (pickS x.f s).2 = P at *
  generalize (pickS x.f s).1 = R at *
  replace hPk := hide hPk
  replace hun := hide hun
  generalize wr.heap.size = xb at *
  obtain ⟨z, zc, hz, hzr⟩ := G6.row.form
  subst hz
  replace hzr := hide hzr
  obtain ⟨zp, zpc, hzp, hzpr⟩ := i6
  subst hzp
  replace hzpr := hide hzpr
  go_wp2_with fail
  have hW6 : W.heap.size ≤ w6.heap.size := G6.mq.still.size
  have kT : Still w6 (w6.alloc (.cells #[.int .i64 0, .int .i64 0, .int .i64 0, .int .i64 0, .int .i64 0] 31)) := (Kept.refl _ w6).alloc _
  have uT := unat_zero w6
  have sT : (w6.alloc (.cells #[.int .i64 0, .int .i64 0, .int .i64 0, .int .i64 0, .int .i64 0] 31)).heap.size = w6.heap.size + 1 := by simp
  generalize w6.alloc (.cells #[.int .i64 0, .int .i64 0, .int .i64 0, .int .i64 0, .int .i64 0] 31) = wT at *
  have kL : Still wT (wT.alloc (.cells #[.int .i64 0, .int .i64 0, .int .i64 0, .int .i64 0, .int .i64 0] 31)) := (Kept.refl _ wT).alloc _
  have uL := unat_zero wT
  have sL : (wT.alloc (.cells #[.int .i64 0, .int .i64 0, .int .i64 0, .int .i64 0, .int .i64 0] 31)).heap.size = w6.heap.size + 1 + 1 := by simp [sT]
  generalize wT.alloc (.cells #[.int .i64 0, .int .i64 0, .int .i64 0, .int .i64 0, .int .i64 0] 31) = wL at *
  rw [sT] at uL
  replace uT := uT.kept kL (fun e => e)
  have q3 : URow (wL.alloc (.cells #[] 30)) (w6.heap.size + 1 + 1) (.slice (some ⟨w6.heap.size + 1 + 1, 0, none⟩) 0 0) [] := by
    have := World.ownsRow_made (base := w6.heap.size + 1 + 1) (e := 30) (size := 5) wL #[] 0 (by rw [sL]; exact Nat.le_refl _) (Nat.zero_le _) rfl
    rw [sL] at this
    exact this
  have k3 : Still wL (wL.alloc (.cells #[] 30)) := (Kept.refl _ wL).alloc _
  have s3 : w6.heap.size + 1 + 1 ≤ (wL.alloc (.cells #[] 30)).heap.size := by simp [sL]
  generalize wL.alloc (.cells #[] 30) = w7 at *
  replace uT := uT.kept k3 (fun e => e)
  replace uL := uL.kept k3 (fun e => e)
  replace k3 := (kT.trans kL).trans k3
  clear kT kL sT sL
  go_loopw [15, 16, 17] (fun lv nv kv wr' => ∃ (d r : List En) (la : Int → Int), inn = d ++ r ∧ kv = .int .i64 d.length ∧ nv = .int .i64 (d.filter (inT P)).length ∧ URow wr' (w6.heap.size + 1 + 1) lv (d.filter fun e => !inT P e) ∧
    UnAt wr' w6.heap.size (takenF P d) ∧ UnAt wr' (w6.heap.size + 1) la ∧ LastOk P d la ∧ Still w6 wr' ∧ w6.heap.size + 1 + 1 ≤ wr'.heap.size) (fun _ _ kv _ => inn.length - (intOf kv).toNat)
  case atStart => exact ⟨[], inn, fun _ => 0, rfl, rfl, rfl, q3, uT, uL, fun k hk => absurd hk (Nat.lt_irrefl _), k3, s3⟩
  case round =>
    clear q3 uT uL k3 s3
    obtain ⟨d, r, la, hd, rfl, rfl, hrow, uT, uL, hLa, k7, s7⟩ := hrel
    have hsl : inn.length = d.length + r.length := by rw [hd, List.length_append]
    have hdk : (d.length : Int) < 1000 := by omega
    have hfl : (d.filter (inT P)).length ≤ d.length := List.length_filter_le _ _
    have hfl2 : (d.filter fun e => !inT P e).length ≤ d.length := List.length_filter_le _ _
    cases r with
    | nil =>
      obtain rfl : inn = d := by rw [hd, List.append_nil]
      have hnot : ¬ (inn.length : Int) < (inn.length : Int) := Int.lt_irrefl _
      have hnl := hPk.out.len
      rw [hnl]
      have hLm : ∀ e ∈ inn.filter (fun e => !inT P e), e ∈ inn ∧ inT P e = false := fun e he => by
        obtain ⟨h1, h2⟩ := List.mem_filter.1 he
        exact ⟨h1, by simpa using h2⟩
      replace hLm := hide hLm
      have hpermL := hPk.out.left
      obtain ⟨zo, co, hzo, hrl⟩ := hrow.form
      subst hzo
      replace hrl := hide hrl
      replace hLa := hide hLa
      have hLl : (inn.filter fun e => !inT P e).length ≤ 64 := by omega
      generalize (inn.filter fun e => !inT P e) = LL at *
      have hX7 := hX6.kept k7 (fun e => e)
      replace hnl := hide hnl
      replace hpermL := hide hpermL
      clear hd hsl hfl hfl2 hX6 hzr
      go_wp2_with fail
      go_loopw [22] (fun kv wr' => ∃ k : Nat, k ≤ LL.length ∧ kv = .int .i64 k ∧ Still wr wr') (fun kv _ => LL.length - (intOf kv).toNat)
      case atStart => exact ⟨0, Nat.zero_le _, rfl, Kept.refl _ _⟩
      case round =>
        obtain ⟨k, hk, rfl, kk⟩ := hrel
        by_cases hkn : k < LL.length
        · obtain ⟨ob, hob, -, -, hoc⟩ := hrl.out (by omega)
          subst hob
          have hse := List.getElem?_eq_getElem hkn
          generalize LL[k] = e at hse
          obtain ⟨hmem, hpk⟩ := hLm.out e (List.mem_of_getElem? hse)
          have hstay := hPk.out.stay e hmem hpk
          have hkI : (k : Int) < (LL.length : Int) := by omega
          have hk0' : 0 ≤ (k : Int) := by omega
          have hkk : (k : Int) < 1000 := by omega
          have hms2 := meas_k hkn
          obtain ⟨d0, d1, d2, d3, d4⟩ := (hoc _ _ hse).on kk (fun e => e)
          obtain ⟨hu0, hu5⟩ := hun.out e hmem
          obtain ⟨u, hu⟩ : ∃ u : Nat, e.unit = u := ⟨e.unit.toNat, by omega⟩
          have hun5 : u < 5 := by omega
          have hu5' : (u : Int) < 5 := by omega
          have hu0' : 0 ≤ (u : Int) := by omega
          rw [hu] at hstay
          have hlast : 0 < cntU (u : Int) (inn.filter (inT P)) → ready e = true → ¬ e.tag < la (u : Int) := fun hc hr hlt => by
            obtain ⟨y, hy, h1, h2, h3⟩ := hLa.out _ hc
            have := (hstay hr).2 y hy h1 h2
            omega
          have hroomy : ready e = true → x.f (u : Int) ≤ ((cntU (u : Int) (inn.filter (inT P)) : Nat) : Int) := fun hr => (hstay hr).1
          replace hlast := hide hlast
          replace hroomy := hide hroomy
          replace hu := hide hu
          have uT1 := uT.kept kk (fun e => e)
          have uL1 := uL.kept kk (fun e => e)
          have hX1 := hX7.kept kk (fun e => e)
          clear hse hoc hmem hpk hstay hu0 hu5
          go_wp2_with fail
          go_at_call 26
          have ka : Still wr (wr.alloc (.cells #[.int .i64 e.tag, .int .i64 e.unit, .int .i64 e.a, .int .i64 e.b, .int .i64 e.c] 30)) := (Kept.refl _ wr).alloc _
          have hce : ∀ j v, (wr.alloc (.cells #[.int .i64 e.tag, .int .i64 e.unit, .int .i64 e.a, .int .i64 e.b, .int .i64 e.c] 30)).cell? ⟨wr.heap.size, j, none⟩ = some v → ∀ w', Still (wr.alloc (.cells #[.int .i64 e.tag, .int .i64 e.unit, .int .i64 e.a, .int .i64 e.b, .int .i64 e.c] 30)) w' → w'.cell? ⟨wr.heap.size, j, none⟩ = some v := fun j v hc w' k => k.cell hc
          refine (Ready_any _ e).mono ?_
          rintro e' w12 ⟨rfl, k12⟩
          have y0 := hce 0 (.int .i64 e.tag) (by simp) w12 k12
          have y1 := hce 1 (.int .i64 e.unit) (by simp) w12 k12
          rw [hu.out] at y1
          have kx := ka.trans k12
          have xT := (uT1.kept kx (fun e => e)).cell hun5
          have xL := (uL1.kept kx (fun e => e)).cell hun5
          have xU := (hX1.kept kx (fun e => e)).unit hun5
          have kz := kk.trans kx
          have hTc : takenF P inn (u : Int) = ((cntU (u : Int) (inn.filter (inT P)) : Nat) : Int) := rfl
          rw [hTc] at xT
          clear hce ka k12 kx uT1 uL1 hX1 hTc d0 d1 d2 d3 d4
          generalize cntU (u : Int) (inn.filter (inT P)) = cN at *
          generalize la (u : Int) = LA at xL hlast
          generalize x.f (u : Int) = XF at xU hroomy
          cases hr : ready e
          · clear hlast hroomy
            go_wp2_with fail
            go_quiet (fail)
            have kq := kz.drewN nq
            generalize w12.drewN nq = wq at *
            go_wp2_with fail
            go_roundw
            case rel => exact ⟨k + 1, hkn, by simp, kq⟩
            case measure => exact hms2
          · have hrm := hroomy.out hr
            have hld : decide ((cN : Int) < XF) = false := decide_eq_false (by omega)
            by_cases hc0 : cN = 0
            · subst hc0
              have hxf : ¬ (0 : Int) < XF := by omega
              have hxf2 : decide ((0 : Int) < XF) = false := decide_eq_false hxf
              have hxf3 : XF ≤ 0 := by omega
              rw [show ((0 : Nat) : Int) = 0 from rfl] at xT
              clear hlast hroomy hrm hld hxf
              go_wp2_with fail
              go_quiet (fail)
              have kq := kz.drewN nq
              generalize w12.drewN nq = wq at *
              go_wp2_with fail
              go_roundw
              case rel => exact ⟨k + 1, hkn, by simp, kq⟩
              case measure => exact hms2
            · have hcd : decide (0 < (cN : Int)) = true := decide_eq_true (by omega)
              have hcd2 : 0 < cN := by omega
              have hll : decide (e.tag < LA) = false := decide_eq_false (by have := hlast.out hcd2 hr; omega)
              clear hlast hroomy hrm hc0
              go_wp2_with fail
              go_quiet (fail)
              have kq := kz.drewN nq
              generalize w12.drewN nq = wq at *
              go_wp2_with fail
              go_roundw
              case rel => exact ⟨k + 1, hkn, by simp, kq⟩
              case measure => exact hms2
        · obtain rfl : k = LL.length := by omega
          have hir : ¬ (LL.length : Int) < (LL.length : Int) := Int.lt_irrefl _
          have hrow9 := hrow.still kk
          have uT9 := uT.kept kk (fun e => e)
          have hX9 := hX7.kept kk (fun e => e)
          have k9 := k7.trans kk
          have hrise := hPk.out.rise
          replace hrise := hide hrise
          have hmost := hPk.out.most
          replace hmost := hide hmost
          clear hrow uT uL hX7 k7 kk hLa hrl hLm
          go_wp2_with fail
          go_loopw [25] (fun sv wr' => ∃ j : Nat, j ≤ P.length ∧ sv = .int .i64 j ∧ Still wr wr') (fun sv _ => P.length - (intOf sv).toNat)
          case atStart => exact ⟨0, Nat.zero_le _, rfl, Kept.refl _ _⟩
          case round =>
            obtain ⟨j, hj, rfl, kk⟩ := hrel
            by_cases hjn : j < P.length
            · obtain ⟨pb, hpb, -, -, hpc⟩ := hzpr.out (by omega)
              subst hpb
              have hx := List.getElem?_eq_getElem hjn
              have hjI : (j : Int) < (P.length : Int) := by omega
              have hj0 : 0 ≤ (j : Int) := by omega
              have hjk : (j : Int) < 1000 := by omega
              have hms3 := meas_k hjn
              have p0 := (k9.trans kk).cell (hpc _ _ hx)
              cases j with
              | zero =>
                clear p0 hpc hx
                go_wp2_with fail
                go_quiet (fail)
                have kq := kk.drewN nq
                generalize wr.drewN nq = wq at *
                go_wp2_with fail
                go_roundw
                case rel => exact ⟨1, hjn, by simp, kq⟩
                case measure => exact hms3
              | succ j =>
                have hx2 := List.getElem?_eq_getElem (l := P) (i := j) (by omega)
                have p1 := (k9.trans kk).cell (hpc _ _ hx2)
                have hlt : P[j]'(by omega) < P[j + 1] := List.pairwise_iff_getElem.1 hrise.out j (j + 1) (by omega) hjn (by omega)
                generalize P[j + 1] = yy at *
                generalize P[j]'(by omega) = y at *
                have hpd : decide (yy ≤ y) = false := decide_eq_false (by omega)
                have hjp : 0 < j + 1 := Nat.succ_pos _
                have hjb : (j : Int) < (P.length : Int) := by omega
                have hj0' : 0 ≤ (j : Int) := by omega
                have hjpI : (0 : Int) < (j : Int) + 1 := by omega
                clear hpc hx hx2 hlt
                go_wp2_with fail
                go_quiet (fail)
                have kq := kk.drewN nq
                generalize wr.drewN nq = wq at *
                go_wp2_with fail
                go_roundw
                case rel => exact ⟨j + 1 + 1, hjn, by simp, kq⟩
                case measure => simpa using hms3
            · obtain rfl : j = P.length := by omega
              have hir2 : ¬ (P.length : Int) < (P.length : Int) := Int.lt_irrefl _
              have hrow10 := hrow9.still kk
              have uT10 := uT9.kept kk (fun e => e)
              have hX10 := hX9.kept kk (fun e => e)
              have k10 := k9.trans kk
              clear hrow9 uT9 hX9 k9 kk
              go_wp2_with fail
              go_loopw [26] (fun sv wr' => ∃ j : Nat, j ≤ 5 ∧ sv = .int .i64 j ∧ Still wr wr') (fun sv _ => 5 - (intOf sv).toNat)
              case atStart => exact ⟨0, Nat.zero_le _, rfl, Kept.refl _ _⟩
              case round =>
                obtain ⟨j, hj, rfl, kk⟩ := hrel
                by_cases hj5 : j < 5
                · have xT := (uT10.kept kk (fun e => e)).cell hj5
                  have xU := (hX10.kept kk (fun e => e)).unit hj5
                  have hm := hmost.out (j : Int)
                  have hjI : (j : Int) < 5 := by omega
                  have hj0 : 0 ≤ (j : Int) := by omega
                  have hms3 : 5 - (intOf (.int .i64 ((j : Int) + 1))).toNat < 5 - (intOf (.int .i64 (j : Int))).toNat := by simp [intOf]; omega
                  generalize takenF P inn (j : Int) = T at *
                  generalize x.f (j : Int) = F at *
                  have hmx : T ≤ max 0 F := by omega
                  have hmd : decide (max 0 F < T) = false := decide_eq_false (by omega)
                  go_wp2_with fail
                  go_quiet (fail)
                  have kq := kk.drewN nq
                  generalize wr.drewN nq = wq at *
                  go_wp2_with fail
                  go_roundw
                  case rel => exact ⟨j + 1, hj5, by simp, kq⟩
                  case measure => exact hms3
                · obtain rfl : j = 5 := by omega
                  have hir3 : ¬ (5 : Int) < 5 := Int.lt_irrefl _
                  have hrow11 := hrow10.still kk
                  have k11 := k10.trans kk
                  have G8 := G6.lay k11 (Owns.low hrow11 (by omega))
                  clear hrow10 uT10 hX10 k10 kk hrow11 k11
                  have hlen9 := G8.q.room.1
                  go_wp2_with fail
                  go_at_call 20
                  refine (Tags_ints _ _ 64 _ G8.q).mono ?_
                  rintro e w9 ⟨v9, rfl, i9, k9⟩
                  obtain ⟨z10, c10, hv10, -⟩ := i9
                  have hl10 : ∀ z c, Value.slice z (tags R).length c = Value.slice z LL.length c := fun z c => by rw [length_tags, ← hpermL.out.length_eq]
                  rw [hl10] at hv10
                  subst hv10
                  have G9 := G8.on k9
                  clear k9 hl10
                  go_wp2
                  exact hR.out ⟨⟨i + 1, m, bl, R, LL, hin, by simp, G9, hpermL.out⟩, hms⟩
    | cons e r =>
      obtain ⟨rb, hrb0, -, -, hra⟩ := hzr.out (by simp at hsl; omega)
      subst hrb0
      have hse : inn[d.length]? = some e := by rw [hd]; simp
      have hmem : e ∈ inn := by rw [hd]; simp
      have hin3 : (d.length : Int) < (inn.length : Int) := by simp at hsl; omega
      have hin0 : 0 ≤ (d.length : Int) := by omega
      have hms2 := meas_k (k := d.length) (n := inn.length) (by simp at hsl; omega)
      have hd2 : inn = (d ++ [e]) ++ r := by rw [hd]; simp
      obtain ⟨d0, d1, d2, d3, d4⟩ := (hra _ _ hse).on k7 (fun e => e)
      have hdl64 : d.length ≤ 64 := by omega
      obtain ⟨hu0, hu5⟩ := hun.out e hmem
      obtain ⟨u, hu⟩ : ∃ u : Nat, e.unit = u := ⟨e.unit.toNat, by omega⟩
      have hun5 : u < 5 := by omega
      have hu5' : (u : Int) < 5 := by omega
      have hu0' : 0 ≤ (u : Int) := by omega
      replace hu := hide hu
      replace hd2 := hide hd2
      replace hmem := hide hmem
      replace hLa := hide hLa
      clear hd hsl hse hra hu0 hu5
      go_wp2_with fail
      have ka : Still wr (wr.alloc (.cells #[.int .i64 e.tag, .int .i64 e.unit, .int .i64 e.a, .int .i64 e.b, .int .i64 e.c] 30)) := (Kept.refl _ wr).alloc _
      have hce : ∀ j v, (wr.alloc (.cells #[.int .i64 e.tag, .int .i64 e.unit, .int .i64 e.a, .int .i64 e.b, .int .i64 e.c] 30)).cell? ⟨wr.heap.size, j, none⟩ = some v → ∀ w', Still (wr.alloc (.cells #[.int .i64 e.tag, .int .i64 e.unit, .int .i64 e.a, .int .i64 e.b, .int .i64 e.c] 30)) w' → w'.cell? ⟨wr.heap.size, j, none⟩ = some v := fun j v hc w' k => k.cell hc
      have y0 := hce 0 (.int .i64 e.tag) (by simp)
      have y1 := hce 1 (.int .i64 e.unit) (by simp)
      have y2 := hce 2 (.int .i64 e.a) (by simp)
      have y3 := hce 3 (.int .i64 e.b) (by simp)
      have y4 := hce 4 (.int .i64 e.c) (by simp)
      have hrow8 := hrow.still ka
      have uT8 := uT.kept ka (fun e => e)
      have uL8 := uL.kept ka (fun e => e)
      have k8 := k7.trans ka
      have hub : w6.heap.size + 1 + 1 ≤ wr.heap.size := s7
      have s8 := Nat.le_trans s7 ka.size
      clear hce ka hrow uT uL k7 s7 d0 d1 d2 d3 d4
      generalize wr.alloc (.cells #[.int .i64 e.tag, .int .i64 e.unit, .int .i64 e.a, .int .i64 e.b, .int .i64 e.c] 30) = w8 at *
      generalize wr.heap.size = eb at *
      replace y0 := hide y0
      replace y1 := hide y1
      replace y2 := hide y2
      replace y3 := hide y3
      replace y4 := hide y4
      go_wp2_with fail
      go_loopw [19, 20] (fun pv sv wr' => ∃ j : Nat, j ≤ P.length ∧ sv = .int .i64 j ∧ pv = .bool (decide (e.tag ∈ P.take j)) ∧ Still w8 wr') (fun _ sv _ => P.length - (intOf sv).toNat)
      case atStart => exact ⟨0, Nat.zero_le _, rfl, rfl, Kept.refl _ _⟩
      case round =>
        obtain ⟨j, hj, rfl, rfl, k9⟩ := hrel
        by_cases hjn : j < P.length
        · obtain ⟨pb, hpb, -, -, hpc⟩ := hzpr.out (by omega)
          subst hpb
          have hx := List.getElem?_eq_getElem hjn
          generalize P[j] = y at hx
          have p0 := (k8.trans k9).cell (hpc _ _ hx)
          have y0' := y0.out wr k9
          have hjI : (j : Int) < (P.length : Int) := by omega
          have hj0 : 0 ≤ (j : Int) := by omega
          have hjk : (j : Int) < 1000 := by omega
          have hms3 := meas_k hjn
          have htk : decide (e.tag ∈ P.take (j + 1)) = (decide (e.tag ∈ P.take j) || (y == e.tag)) := by
            rw [List.take_add_one, hx, Bool.eq_iff_iff]
            simp only [decide_eq_true_eq, Bool.or_eq_true, beq_iff_eq, List.mem_append, Option.toList_some, List.mem_singleton]
            exact or_congr Iff.rfl ⟨Eq.symm, Eq.symm⟩
          replace htk := hide htk
          clear hpc hx
          cases hf : decide (e.tag ∈ P.take j)
          · rw [hf] at htk
            clear hf
            go_wp2_with fail
            go_quiet (fail)
            have k10 := k9.drewN nq
            generalize wr.drewN nq = wq at *
            go_wp2_with fail
            go_roundw
            case rel => exact ⟨j + 1, hjn, by simp, by rw [htk.out]; rfl, k10⟩
            case measure => exact hms3
          · rw [hf] at htk
            clear hf
            go_wp2_with fail
            go_quiet (fail)
            have k10 := k9.drewN nq
            generalize wr.drewN nq = wq at *
            go_wp2_with fail
            go_roundw
            case rel => exact ⟨j + 1, hjn, by simp, by rw [htk.out]; rfl, k10⟩
            case measure => exact hms3
        · obtain rfl : j = P.length := by omega
          have hir : ¬ (P.length : Int) < (P.length : Int) := Int.lt_irrefl _
          have hfo : decide (e.tag ∈ P.take P.length) = inT P e := by rw [List.take_length]; rfl
          rw [hfo]
          clear hfo
          have hrow9 := hrow8.still k9
          have uT9 := uT8.kept k9 (fun e => e)
          have uL9 := uL8.kept k9 (fun e => e)
          have s9 := Nat.le_trans s8 k9.size
          have y0' := y0.out wr k9
          have y1' := y1.out wr k9
          have y2' := y2.out wr k9
          have y3' := y3.out wr k9
          have y4' := y4.out wr k9
          have k10 := k8.trans k9
          clear hrow8 uT8 uL8
          cases hpk : inT P e
          · have h1 : (d ++ [e]).filter (inT P) = d.filter (inT P) := filter_out hpk
            have h2 : ((d ++ [e]).filter fun e => !inT P e) = (d.filter fun e => !inT P e) ++ [e] := by rw [List.filter_append, List.filter_cons, hpk]; rfl
            have h3 := taken_out (d := d) hpk
            have h4 := last_out hpk hLa.out
            replace h1 := hide h1
            replace h2 := hide h2
            replace h3 := hide h3
            replace h4 := hide h4
            clear hpk
            go_wp2_with (first
              | (at_builtin; refine wpList_append_own_at _ rfl _ _ 45 rfl (w6.heap.size + 1 + 1) 30 i0 _ 5 40 Try.underlying45 hi hz0 hz1 hz2 rfl (by decide) _ _ _ rfl (World.ownsRow.alloc hrow9 _) ⟨wr.heap.size, 0, none⟩ 1 1 [.int .i64 e.tag, .int .i64 e.unit, .int .i64 e.a, .int .i64 e.b, .int .i64 e.c] rfl rfl (news_one rfl) (by simp [Value.oneCell']) (by unfold maxLen; omega) (by omega) (by simp; omega) ?_; intro v8 w11 hown8 hg8 hnil8 hloc8; go_frame))
            have hrow11 := URow.app hown8
            have k11 : Still w6 w11 := (k10.alloc _).grown hg8 (fun p hp => .inr (by have := (URow.lt hrow9 p hp).1; omega))
            have uT11 : UnAt w11 w6.heap.size (takenF P d) := (grown_keep hg8 uT9.lt (fun e => by have := (URow.lt hrow9 _ e).1; omega)).trans uT9
            have uL11 : UnAt w11 (w6.heap.size + 1) la := (grown_keep hg8 uL9.lt (fun e => by have := (URow.lt hrow9 _ e).1; omega)).trans uL9
            have s11 : w6.heap.size + 1 + 1 ≤ w11.heap.size := by have := hg8.size; simp at this; omega
            go_roundw
            case rel => exact ⟨d ++ [e], r, la, hd2.out, by simp, by rw [h1.out], by rw [h2.out]; exact hrow11, by rw [h3.out]; exact uT11, uL11, h4.out, k11, s11⟩
            case measure => exact hms2
          · have hrd := hPk.out.rd e hmem.out hpk
            have h1 : (d ++ [e]).filter (inT P) = d.filter (inT P) ++ [e] := filter_in hpk
            have h2 : ((d ++ [e]).filter fun e => !inT P e) = (d.filter fun e => !inT P e) := by rw [List.filter_append, List.filter_cons, hpk]; simp
            have h3 := taken_in (d := d) hpk
            have h4n := last_new hpk hLa.out
            have h4o := last_old hpk hLa.out
            rw [hu.out] at h3 h4n h4o
            replace h1 := hide h1
            replace h2 := hide h2
            replace h3 := hide h3
            replace h4n := hide h4n
            replace h4o := hide h4o
            clear hpk
            go_wp2_with fail
            go_at_call 26
            refine (Ready_any _ e).mono ?_
            rintro e' w12 ⟨rfl, k12⟩
            rw [hrd]
            have k9b := k9.trans k12
            have hrow12 := hrow9.still k12
            have uT12 := uT9.kept k12 (fun e => e)
            have uL12 := uL9.kept k12 (fun e => e)
            have s12 := Nat.le_trans s9 k12.size
            have y0' := y0.out w12 k9b
            have y1' := y1.out w12 k9b
            rw [hu.out] at y1'
            have k13 := k10.trans k12
            clear k9 k9b k10 k12 hrow9 uT9 uL9 y0 y1 y2 y3 y4 y2' y3' y4' hrd
            have xT := uT12.cell hun5
            have xL := uL12.cell hun5
            have hTc : takenF P d (u : Int) = ((cntU (u : Int) (d.filter (inT P)) : Nat) : Int) := rfl
            have hcle : cntU (u : Int) (d.filter (inT P)) ≤ 64 := by have : cntU (u : Int) (d.filter (inT P)) ≤ (d.filter (inT P)).length := List.length_filter_le _ _; omega
            rw [hTc] at xT
            replace hTc := hide hTc
            generalize hcN : cntU (u : Int) (d.filter (inT P)) = cN at *
            replace hcN := hide hcN
            generalize hLL : la (u : Int) = L at xL
            have hres : ∀ w', UnAt w' w6.heap.size (upd (takenF P d) u (cN + 1)) → UnAt w' w6.heap.size (takenF P (d ++ [e])) := fun w' h => by rw [h3.out, hTc.out]; exact h
            replace hres := hide hres
            by_cases hc0 : cN = 0
            · subst hc0
              go_wp2_with fail
              go_quiet (fail)
              have k14 := k13.drewN nq
              have kd := (Kept.refl (fun _ => False) w12).drewN nq
              have hrowq := hrow12.still kd
              have uTq := uT12.kept kd (fun e => e)
              have uLq := uL12.kept kd (fun e => e)
              have y0q := Kept.cell kd y0' (fun e => e)
              have y1q := Kept.cell kd y1' (fun e => e)
              have sq := Nat.le_trans s12 kd.size
              clear kd hrow12 uT12 uL12 y0' y1' k13 s12
              generalize w12.drewN nq = wq at *
              have xLq := uLq.cell hun5
              have xT := uTq.cell hun5
              rw [hTc.out] at xT
              have hfL := uLq.free u
              have kA : Kept (fun b => b = w6.heap.size + 1) wq (wq.setCell ⟨w6.heap.size + 1, u, none⟩ (.int .i64 e.tag)) := (Kept.refl _ wq).setCell _ _ (.inl rfl)
              have uTA := uTq.kept kA (fun e => by omega)
              have uLA := uLq.set hun5 e.tag
              have hfT := uTq.free u
              have hrowA : URow (wq.setCell ⟨w6.heap.size + 1, u, none⟩ (.int .i64 e.tag)) (w6.heap.size + 1 + 1) _ _ := ownsRow_setCell_below (a := ⟨w6.heap.size + 1, u, none⟩) hrowq (Nat.lt_succ_self _) (.int .i64 e.tag)
              have k15 : Still w6 (wq.setCell ⟨w6.heap.size + 1, u, none⟩ (.int .i64 e.tag)) := k14.setCell _ _ (.inr (Nat.le_succ _))
              have sA : w6.heap.size + 1 + 1 ≤ (wq.setCell ⟨w6.heap.size + 1, u, none⟩ (.int .i64 e.tag)).heap.size := Nat.le_trans sq kA.size
              clear kA hrowq uTq uLq k14 sq
              go_wp2_with fail
              have kB : Kept (fun b => b = w6.heap.size) (wq.setCell ⟨w6.heap.size + 1, u, none⟩ (.int .i64 e.tag)) ((wq.setCell ⟨w6.heap.size + 1, u, none⟩ (.int .i64 e.tag)).setCell ⟨w6.heap.size, u, none⟩ (.int .i64 1)) := (Kept.refl _ _).setCell _ _ (.inl rfl)
              have uTB := uTA.set hun5 1
              have uLB := uLA.kept kB (fun e => by omega)
              have hrowB : URow ((wq.setCell ⟨w6.heap.size + 1, u, none⟩ (.int .i64 e.tag)).setCell ⟨w6.heap.size, u, none⟩ (.int .i64 1)) (w6.heap.size + 1 + 1) _ _ := ownsRow_setCell_below (a := ⟨w6.heap.size, u, none⟩) hrowA (Nat.lt_succ_of_lt (Nat.lt_succ_self _)) (.int .i64 1)
              have k16 : Still w6 ((wq.setCell ⟨w6.heap.size + 1, u, none⟩ (.int .i64 e.tag)).setCell ⟨w6.heap.size, u, none⟩ (.int .i64 1)) := k15.setCell _ _ (.inr (Nat.le_refl _))
              have sB := Nat.le_trans sA kB.size
              go_roundw
              case rel => exact ⟨d ++ [e], r, upd la u e.tag, hd2.out, by simp, by rw [h1.out]; simp, by rw [h2.out]; exact hrowB, hres.out _ (by simpa using uTB), uLB, h4n.out, k16, sB⟩
              case measure => exact hms2
            · have hc1 : ((cN : Int) == 0) = false := by simpa using hc0
              have hckk : (cN : Int) < 1000 := by omega
              by_cases hlt : L < e.tag
              · have hld : decide (L < e.tag) = true := decide_eq_true hlt
                go_wp2_with fail
                go_quiet (fail)
                have k14 := k13.drewN nq
                have kd := (Kept.refl (fun _ => False) w12).drewN nq
                have hrowq := hrow12.still kd
                have uTq := uT12.kept kd (fun e => e)
                have uLq := uL12.kept kd (fun e => e)
                have y0q := Kept.cell kd y0' (fun e => e)
                have y1q := Kept.cell kd y1' (fun e => e)
                have sq := Nat.le_trans s12 kd.size
                clear kd hrow12 uT12 uL12 y0' y1' k13 s12
                generalize w12.drewN nq = wq at *
                have xLq := uLq.cell hun5
                have xT := uTq.cell hun5
                rw [hTc.out] at xT
                have hfL := uLq.free u
                have kA : Kept (fun b => b = w6.heap.size + 1) wq (wq.setCell ⟨w6.heap.size + 1, u, none⟩ (.int .i64 e.tag)) := (Kept.refl _ wq).setCell _ _ (.inl rfl)
                have uTA := uTq.kept kA (fun e => by omega)
                have uLA := uLq.set hun5 e.tag
                have hfT := uTq.free u
                have hrowA : URow (wq.setCell ⟨w6.heap.size + 1, u, none⟩ (.int .i64 e.tag)) (w6.heap.size + 1 + 1) _ _ := ownsRow_setCell_below (a := ⟨w6.heap.size + 1, u, none⟩) hrowq (Nat.lt_succ_self _) (.int .i64 e.tag)
                have k15 : Still w6 (wq.setCell ⟨w6.heap.size + 1, u, none⟩ (.int .i64 e.tag)) := k14.setCell _ _ (.inr (Nat.le_succ _))
                have sA : w6.heap.size + 1 + 1 ≤ (wq.setCell ⟨w6.heap.size + 1, u, none⟩ (.int .i64 e.tag)).heap.size := Nat.le_trans sq kA.size
                clear kA hrowq uTq uLq k14 sq
                go_wp2_with fail
                have kB : Kept (fun b => b = w6.heap.size) (wq.setCell ⟨w6.heap.size + 1, u, none⟩ (.int .i64 e.tag)) ((wq.setCell ⟨w6.heap.size + 1, u, none⟩ (.int .i64 e.tag)).setCell ⟨w6.heap.size, u, none⟩ (.int .i64 (cN + 1))) := (Kept.refl _ _).setCell _ _ (.inl rfl)
                have uTB := uTA.set hun5 (cN + 1)
                have uLB := uLA.kept kB (fun e => by omega)
                have hrowB : URow ((wq.setCell ⟨w6.heap.size + 1, u, none⟩ (.int .i64 e.tag)).setCell ⟨w6.heap.size, u, none⟩ (.int .i64 (cN + 1))) (w6.heap.size + 1 + 1) _ _ := ownsRow_setCell_below (a := ⟨w6.heap.size, u, none⟩) hrowA (Nat.lt_succ_of_lt (Nat.lt_succ_self _)) (.int .i64 (cN + 1))
                have k16 : Still w6 ((wq.setCell ⟨w6.heap.size + 1, u, none⟩ (.int .i64 e.tag)).setCell ⟨w6.heap.size, u, none⟩ (.int .i64 (cN + 1))) := k15.setCell _ _ (.inr (Nat.le_refl _))
                have sB := Nat.le_trans sA kB.size
                go_roundw
                case rel => exact ⟨d ++ [e], r, upd la u e.tag, hd2.out, by simp, by rw [h1.out]; simp, by rw [h2.out]; exact hrowB, hres.out _ (by simpa using uTB), uLB, h4n.out, k16, sB⟩
                case measure => exact hms2
              · have hle : e.tag ≤ L := by omega
                have hld : decide (L < e.tag) = false := decide_eq_false hlt
                clear hlt hle
                go_wp2_with fail
                go_quiet (fail)
                have k14 := k13.drewN nq
                have kd := (Kept.refl (fun _ => False) w12).drewN nq
                have hrowq := hrow12.still kd
                have uTq := uT12.kept kd (fun e => e)
                have uLq := uL12.kept kd (fun e => e)
                have y0q := Kept.cell kd y0' (fun e => e)
                have y1q := Kept.cell kd y1' (fun e => e)
                have sq := Nat.le_trans s12 kd.size
                clear kd hrow12 uT12 uL12 y0' y1' k13 s12
                generalize w12.drewN nq = wq at *
                have xLq := uLq.cell hun5
                have xT := uTq.cell hun5
                rw [hTc.out] at xT
                have hfT := uTq.free u
                go_wp2_with fail
                have kB : Kept (fun b => b = w6.heap.size) wq (wq.setCell ⟨w6.heap.size, u, none⟩ (.int .i64 (cN + 1))) := (Kept.refl _ _).setCell _ _ (.inl rfl)
                have uTB := uTq.set hun5 (cN + 1)
                have uLB := uLq.kept kB (fun e => by omega)
                have hrowB : URow (wq.setCell ⟨w6.heap.size, u, none⟩ (.int .i64 (cN + 1))) (w6.heap.size + 1 + 1) _ _ := ownsRow_setCell_below (a := ⟨w6.heap.size, u, none⟩) hrowq (Nat.lt_succ_of_lt (Nat.lt_succ_self _)) (.int .i64 (cN + 1))
                have k16 : Still w6 (wq.setCell ⟨w6.heap.size, u, none⟩ (.int .i64 (cN + 1))) := k14.setCell _ _ (.inr (Nat.le_refl _))
                have sB := Nat.le_trans sq kB.size
                go_roundw
                case rel => exact ⟨d ++ [e], r, la, hd2.out, by simp, by rw [h1.out]; simp, by rw [h2.out]; exact hrowB, hres.out _ (by simpa using uTB), uLB, h4o.out (by omega), k16, sB⟩
                case measure => exact hms2
end Go.Proofs.Ytaeggnnijafooaa
