/-
  The walk of IssueGoes.
-/
import Derived.Test.YtaeggnnijafooaaIssueGK0
import Derived.Test.YtaeggnnijafooaaIssueGK1
import Derived.Test.YtaeggnnijafooaaIssueGK3
import Derived.Test.YtaeggnnijafooaaIssueGK4
namespace Go.Proofs.Ytaeggnnijafooaa
set_option linter.unusedVariables false
open Go.RowKit Go.Maps

set_option maxRecDepth 100000 in
set_option maxHeartbeats 400000000 in
theorem Goes_fine (W : World) (oa : Option Addr) (l : List Sx) (cap : Nat) (hl : StepsAt W oa l) :
    Calls Try.prog 5 #[.slice oa l.length cap] W fun e w' => e = .returned (.bool true) ∧ Below W.heap.size W w' := by
  obtain ⟨i0, hi, hz0, hz1, hz2⟩ := info_parts infoU
  go_enter Try.func5, Try.ntmps5
  go_wp2_with fail
  go_at_call 8
  refine (fixed_any _).mono ?_
  rintro e w1 ⟨rfl, k1⟩
  go_wp2_with fail
  go_at_call 9
  refine (New_fine w1 64 (by omega)).mono ?_
  rintro e w2 ⟨⟨q, m, bl⟩, rfl, h2, k2, ho⟩
  have M2 : Mine W ⟨q, m, bl⟩ [] w2 := ⟨k1.trans k2, fun x hx => Nat.le_trans k1.size (ho x hx)⟩
  have hW2 : W.heap.size ≤ w2.heap.size := M2.still.size
  go_wp2_with fail
  have G3 : Goe W (w2.alloc (.cells #[] 30)) ⟨q, m, bl⟩ (.slice (some ⟨w2.heap.size, 0, none⟩) 0 0) [] [] :=
    ⟨h2.alloc _, M2.on ((Kept.refl _ w2).alloc _), World.ownsRow_made w2 #[] 0 hW2 (Nat.zero_le _) rfl, fun x hx e => by have h := h2.lt e; have h' := Option.some.inj hx; dsimp at h'; omega⟩
  clear h2 k2 ho k1 M2 hW2
  go_loopw [4, 5] (fun nv iv wr => ∃ (i m : Nat) (bl : Int → Nat) (s inn : List En), i ≤ l.length ∧ iv = .int .i64 i ∧ Goe W wr ⟨q, m, bl⟩ nv s inn ∧ inn.Perm s) (fun _ iv _ => l.length - (intOf iv).toNat)
  case atStart => exact ⟨0, m, bl, [], [], Nat.zero_le _, rfl, G3, List.Perm.refl _⟩
  case round =>
    clear G3 m bl
    obtain ⟨i, m, bl, s, inn, hi', rfl, G4, hperm⟩ := hrel
    by_cases hin : i < l.length
    · obtain ⟨a, rfl, hab, hcl⟩ := hl.2 (by omega)
      have hlk := List.getElem?_eq_getElem hin
      generalize l[i] = x at hlk
      obtain ⟨⟨hnw, huw, hfw⟩, hXA⟩ := hcl i x hlk
      obtain ⟨d0, d1, d2, d3, d4, d5, d6, d7, d8, d9, d10, d11⟩ := hXA.on G4.mq.still
      have hin2 : (i : Int) < (l.length : Int) := by omega
      have hi0 : 0 ≤ (i : Int) := by omega
      have hnm : (l.length : Int) ≤ 9223372036854775807 := by have := hl.1; rw [maxLen_is] at this; omega
      have hms := meas_k hin
      clear hcl hlk
      have hX := xAt_new wr x
      have G5 : Goe W (wr.alloc (.cells #[.int .i64 x.kind, .int .i64 x.n, .int .i64 x.u.tag, .int .i64 x.u.unit, .int .i64 x.u.a, .int .i64 x.u.b, .int .i64 x.u.c, .int .i64 (x.f 0), .int .i64 (x.f 1), .int .i64 (x.f 2), .int .i64 (x.f 3), .int .i64 (x.f 4)] 33)) ⟨q, m, bl⟩ _ s inn := G4.on ((Kept.refl _ wr).alloc _)
      have hxb : ∀ y, (G.own ⟨q, m, bl⟩ s y ∨ u4.ownBlock = some y) → y < wr.heap.size := fun y hy => G4.lt hy
      have hsrt := G4.q.sorted
      have hroom := G4.q.room.1
      have hil : inn.length = s.length := hperm.length_eq
      have hil2 : inn.length ≤ 64 := by omega
      replace hxb := hide hxb
      replace hil := hide hil
      clear G4
      by_cases hk0 : x.kind = 0
      · refine Goes_0 W l cap i0 hi hz0 hz1 hz2 w2 q wr u2 u4 u6 u7 u8 u9 u10 u11 u12 u13 u14 u15 u16 u17 u18 u19 u20 u21 u22 u23 u24 u25 u26 u31 u32 u33 u34 u35 u36 u37 u38 u39 u40 u41 u42 u43 u44 u45 u46 u47 u48 u49 u50 u51 u52 u53 u54 u55 u56 u57 u58 u59 u60 u61 u62 u63 u64 u65 u66 u67 u68 u69 u70 u71 u72 u73 u74 u75 u76 u77 u78 u79 u80 u81 u82 u83 u84 u85 u86 u87 u88 u89 u90 u91 u92 u93 u94 u95 u96 u97 u98 u99 u100 u101 u102 u103 u104 u105 u106 u107 u108 u109 u110 u111 u112 u113 u114 u115 u116 u117 u118 u119 u120 u121 u122 u123 u124 u125 u126 u127 u128 u129 u130 u131 u132 u133 u134 u135 u136 u137 u138 u139 u140 u141 u142 u143 u144 u145 u146 u147 u148 u149 u150 u151 u152 u153 u154 u155 u156 u157 u158 u159 u160 u161 u162 u163 u164 u165 u166 u167 u168 u169 u170 u171 u172 u173 u174 u175 u176 u177 u178 u179 u180 u181 u182 u183 u184 u185 u186 u187 u188 u189 u190 u191 u192 u193 u194 u195 u196 u197 u198 u199 u200 u201 u202 u203 u204 u205 u206 u207 u208 u209 u210 u211 u212 u213 u214 u215 u216 u217 u218 u219 u220 u221 u222 u223 u224 u225 u226 u227 u228 u229 u230 u231 u232 u233 u234 u235 u236 u237 u238 u239 u240 u241 u242 u243 u244 u245 u246 u247 u248 u249 u250 u251 u252 u253 u254 u255 u256 u257 u258 u259 u260 u261 u262 u263 u264 u265 u266 u267 u268 u269 u270 u271 u272 u273 u274 u275 u276 i m bl s inn hperm hin a x hnw huw hfw d0 d1 d2 d3 d4 d5 d6 d7 d8 d9 d10 d11 hin2 hi0 hnm hX G5 hsrt hroom hil2 hxb hil hk0 _ (hide ?_)
        intro hrel2
        show _ ∧ _
        go_roundw
        case rel => exact hrel2.1
        case measure => exact hrel2.2
      by_cases hk1 : x.kind = 1
      · refine Goes_1 W l cap i0 hi hz0 hz1 hz2 w2 q wr u2 u4 u6 u7 u8 u9 u10 u11 u12 u13 u14 u15 u16 u17 u18 u19 u20 u21 u22 u23 u24 u25 u26 u31 u32 u33 u34 u35 u36 u37 u38 u39 u40 u41 u42 u43 u44 u45 u46 u47 u48 u49 u50 u51 u52 u53 u54 u55 u56 u57 u58 u59 u60 u61 u62 u63 u64 u65 u66 u67 u68 u69 u70 u71 u72 u73 u74 u75 u76 u77 u78 u79 u80 u81 u82 u83 u84 u85 u86 u87 u88 u89 u90 u91 u92 u93 u94 u95 u96 u97 u98 u99 u100 u101 u102 u103 u104 u105 u106 u107 u108 u109 u110 u111 u112 u113 u114 u115 u116 u117 u118 u119 u120 u121 u122 u123 u124 u125 u126 u127 u128 u129 u130 u131 u132 u133 u134 u135 u136 u137 u138 u139 u140 u141 u142 u143 u144 u145 u146 u147 u148 u149 u150 u151 u152 u153 u154 u155 u156 u157 u158 u159 u160 u161 u162 u163 u164 u165 u166 u167 u168 u169 u170 u171 u172 u173 u174 u175 u176 u177 u178 u179 u180 u181 u182 u183 u184 u185 u186 u187 u188 u189 u190 u191 u192 u193 u194 u195 u196 u197 u198 u199 u200 u201 u202 u203 u204 u205 u206 u207 u208 u209 u210 u211 u212 u213 u214 u215 u216 u217 u218 u219 u220 u221 u222 u223 u224 u225 u226 u227 u228 u229 u230 u231 u232 u233 u234 u235 u236 u237 u238 u239 u240 u241 u242 u243 u244 u245 u246 u247 u248 u249 u250 u251 u252 u253 u254 u255 u256 u257 u258 u259 u260 u261 u262 u263 u264 u265 u266 u267 u268 u269 u270 u271 u272 u273 u274 u275 u276 i m bl s inn hperm hin a x hnw huw hfw d0 d1 d2 d3 d4 d5 d6 d7 d8 d9 d10 d11 hin2 hi0 hnm hX G5 hsrt hroom hil2 hxb hil hk0 hk1 _ (hide ?_)
        intro hrel2
        show _ ∧ _
        go_roundw
        case rel => exact hrel2.1
        case measure => exact hrel2.2
      by_cases hk3 : x.kind = 3
      · refine Goes_3 W l cap i0 hi hz0 hz1 hz2 w2 q wr u2 u4 u6 u7 u8 u9 u10 u11 u12 u13 u14 u15 u16 u17 u18 u19 u20 u21 u22 u23 u24 u25 u26 u31 u32 u33 u34 u35 u36 u37 u38 u39 u40 u41 u42 u43 u44 u45 u46 u47 u48 u49 u50 u51 u52 u53 u54 u55 u56 u57 u58 u59 u60 u61 u62 u63 u64 u65 u66 u67 u68 u69 u70 u71 u72 u73 u74 u75 u76 u77 u78 u79 u80 u81 u82 u83 u84 u85 u86 u87 u88 u89 u90 u91 u92 u93 u94 u95 u96 u97 u98 u99 u100 u101 u102 u103 u104 u105 u106 u107 u108 u109 u110 u111 u112 u113 u114 u115 u116 u117 u118 u119 u120 u121 u122 u123 u124 u125 u126 u127 u128 u129 u130 u131 u132 u133 u134 u135 u136 u137 u138 u139 u140 u141 u142 u143 u144 u145 u146 u147 u148 u149 u150 u151 u152 u153 u154 u155 u156 u157 u158 u159 u160 u161 u162 u163 u164 u165 u166 u167 u168 u169 u170 u171 u172 u173 u174 u175 u176 u177 u178 u179 u180 u181 u182 u183 u184 u185 u186 u187 u188 u189 u190 u191 u192 u193 u194 u195 u196 u197 u198 u199 u200 u201 u202 u203 u204 u205 u206 u207 u208 u209 u210 u211 u212 u213 u214 u215 u216 u217 u218 u219 u220 u221 u222 u223 u224 u225 u226 u227 u228 u229 u230 u231 u232 u233 u234 u235 u236 u237 u238 u239 u240 u241 u242 u243 u244 u245 u246 u247 u248 u249 u250 u251 u252 u253 u254 u255 u256 u257 u258 u259 u260 u261 u262 u263 u264 u265 u266 u267 u268 u269 u270 u271 u272 u273 u274 u275 u276 i m bl s inn hperm hin a x hnw huw hfw d0 d1 d2 d3 d4 d5 d6 d7 d8 d9 d10 d11 hin2 hi0 hnm hX G5 hsrt hroom hil2 hxb hil hk0 hk1 hk3 _ (hide ?_)
        intro hrel2
        show _ ∧ _
        go_roundw
        case rel => exact hrel2.1
        case measure => exact hrel2.2
      refine Goes_4 W l cap i0 hi hz0 hz1 hz2 w2 q wr u2 u4 u6 u7 u8 u9 u10 u11 u12 u13 u14 u15 u16 u17 u18 u19 u20 u21 u22 u23 u24 u25 u26 u31 u32 u33 u34 u35 u36 u37 u38 u39 u40 u41 u42 u43 u44 u45 u46 u47 u48 u49 u50 u51 u52 u53 u54 u55 u56 u57 u58 u59 u60 u61 u62 u63 u64 u65 u66 u67 u68 u69 u70 u71 u72 u73 u74 u75 u76 u77 u78 u79 u80 u81 u82 u83 u84 u85 u86 u87 u88 u89 u90 u91 u92 u93 u94 u95 u96 u97 u98 u99 u100 u101 u102 u103 u104 u105 u106 u107 u108 u109 u110 u111 u112 u113 u114 u115 u116 u117 u118 u119 u120 u121 u122 u123 u124 u125 u126 u127 u128 u129 u130 u131 u132 u133 u134 u135 u136 u137 u138 u139 u140 u141 u142 u143 u144 u145 u146 u147 u148 u149 u150 u151 u152 u153 u154 u155 u156 u157 u158 u159 u160 u161 u162 u163 u164 u165 u166 u167 u168 u169 u170 u171 u172 u173 u174 u175 u176 u177 u178 u179 u180 u181 u182 u183 u184 u185 u186 u187 u188 u189 u190 u191 u192 u193 u194 u195 u196 u197 u198 u199 u200 u201 u202 u203 u204 u205 u206 u207 u208 u209 u210 u211 u212 u213 u214 u215 u216 u217 u218 u219 u220 u221 u222 u223 u224 u225 u226 u227 u228 u229 u230 u231 u232 u233 u234 u235 u236 u237 u238 u239 u240 u241 u242 u243 u244 u245 u246 u247 u248 u249 u250 u251 u252 u253 u254 u255 u256 u257 u258 u259 u260 u261 u262 u263 u264 u265 u266 u267 u268 u269 u270 u271 u272 u273 u274 u275 u276 i m bl s inn hperm hin a x hnw huw hfw d0 d1 d2 d3 d4 d5 d6 d7 d8 d9 d10 d11 hin2 hi0 hnm hX G5 hsrt hroom hil2 hxb hil hk0 hk1 hk3 _ (hide ?_)
      intro hrel2
      show _ ∧ _
      go_roundw
      case rel => exact hrel2.1
      case measure => exact hrel2.2
    · obtain rfl : i = l.length := by omega
      have hir : ¬ (l.length : Int) < (l.length : Int) := Int.lt_irrefl _
      go_wp2_with fail
      go_ret
      exact ⟨rfl, G4.mq.still.below (Nat.le_refl _) (fun _ _ e => e)⟩
end Go.Proofs.Ytaeggnnijafooaa
