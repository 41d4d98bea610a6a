/-
  The library's sort.Ints at this program's own numbers (the laying was printed by the shelf's tools), and behind it: a row that the call owns is sorted.
-/
import Derived.Shelf.Sort.Plain
import Derived.Shelf.Slices.In.SortNone2
import Derived.Sort.OwnSortedInts
import Derived.Test.YtaeggnnijafooaaKept
namespace Go.Proofs
open Go.Shelf
def Try.lays191_ren : Go.Shelf.Ren := ⟨fun | 191 => 27 | 189 => 28 | 125 => 30 | 257 => 29 | 128 => 40 | 129 => 41 | 294 => 31 | 295 => 32 | 296 => 33 | 297 => 34 | 298 => 35 | 299 => 36 | 216 => 37 | 300 => 38 | 301 => 39 | 328 => 42 | 329 => 43 | 330 => 44 | 331 => 45 | 332 => 46 | 215 => 47 | 343 => 48 | n => n, fun | 28 => 36 | 0 => 0 | 3 => 3 | 46 => 64 | 51 => 75 | 53 => 77 | 4 => 4 | 183 => 67 | 182 => 66 | 131 => 72 | 5 => 5 | 9 => 9 | 218 => 78 | 222 => 82 | 228 => 85 | 229 => 86 | n => n, fun | n => n⟩
theorem Try.lays191 : Go.Proofs.Lays.n191 Try.prog Try.lays191_ren := {
  mixed := by kernel_rfl
  f125 := Try.func30.trans (congrArg some (by kernel_rfl))
  f128 := Try.func40.trans (congrArg some (by kernel_rfl))
  f129 := Try.func41.trans (congrArg some (by kernel_rfl))
  f189 := Try.func28.trans (congrArg some (by kernel_rfl))
  f191 := Try.func27.trans (congrArg some (by kernel_rfl))
  f215 := Try.func47.trans (congrArg some (by kernel_rfl))
  f216 := Try.func37.trans (congrArg some (by kernel_rfl))
  f257 := Try.func29.trans (congrArg some (by kernel_rfl))
  f294 := Try.func31.trans (congrArg some (by kernel_rfl))
  f295 := Try.func32.trans (congrArg some (by kernel_rfl))
  f296 := Try.func33.trans (congrArg some (by kernel_rfl))
  f297 := Try.func34.trans (congrArg some (by kernel_rfl))
  f298 := Try.func35.trans (congrArg some (by kernel_rfl))
  f299 := Try.func36.trans (congrArg some (by kernel_rfl))
  f300 := Try.func38.trans (congrArg some (by kernel_rfl))
  f301 := Try.func39.trans (congrArg some (by kernel_rfl))
  f328 := Try.func42.trans (congrArg some (by kernel_rfl))
  f329 := Try.func43.trans (congrArg some (by kernel_rfl))
  f330 := Try.func44.trans (congrArg some (by kernel_rfl))
  f331 := Try.func45.trans (congrArg some (by kernel_rfl))
  f332 := Try.func46.trans (congrArg some (by kernel_rfl))
  f343 := Try.func48.trans (congrArg some (by kernel_rfl))
  t0 := Try.underlying0
  a0 := Try.isAgg0
  z0 := Try.sizeOf0
  v0 := Try.zeroValue0
  t3 := Try.underlying3
  a3 := Try.isAgg3
  z3 := Try.sizeOf3
  v3 := Try.zeroValue3
  t4 := Try.underlying4
  a4 := Try.isAgg4
  z4 := Try.sizeOf4
  v4 := Try.zeroValue4
  t5 := Try.underlying5
  a5 := Try.isAgg5
  z5 := Try.sizeOf5
  v5 := Try.zeroValue5
  t9 := Try.underlying9
  a9 := Try.isAgg9
  z9 := Try.sizeOf9
  v9 := Try.zeroValue9
  t28 := Try.underlying36
  a28 := Try.isAgg36
  z28 := Try.sizeOf36
  v28 := Try.zeroValue36
  t46 := Try.underlying64
  a46 := Try.isAgg64
  z46 := Try.sizeOf64
  v46 := Try.zeroValue64
  t51 := Try.underlying75
  a51 := Try.isAgg75
  z51 := Try.sizeOf75
  v51 := Try.zeroValue75
  t53 := Try.underlying77
  a53 := Try.isAgg77
  z53 := Try.sizeOf77
  v53 := Try.zeroValue77
  t131 := Try.underlying72
  a131 := Try.isAgg72
  z131 := Try.sizeOf72
  v131 := Try.zeroValue72
  t182 := Try.underlying66
  a182 := Try.isAgg66
  z182 := Try.sizeOf66
  v182 := Try.zeroValue66
  t183 := Try.underlying67
  a183 := Try.isAgg67
  z183 := Try.sizeOf67
  v183 := Try.zeroValue67
  t218 := Try.underlying78
  a218 := Try.isAgg78
  z218 := Try.sizeOf78
  v218 := Try.zeroValue78
  t222 := Try.underlying82
  a222 := Try.isAgg82
  z222 := Try.sizeOf82
  v222 := Try.zeroValue82
  t228 := Try.underlying85
  a228 := Try.isAgg85
  z228 := Try.sizeOf85
  v228 := Try.zeroValue85
  t229 := Try.underlying86
  a229 := Try.isAgg86
  z229 := Try.sizeOf86
  v229 := Try.zeroValue86 }
open Go.Sort Go.RowKit in
theorem Try.sort_Ints (blk off cap : Nat) (zs : List Int) (w : World) (hH : Holds (Value.int .i64) w blk off zs.toArray) (hblk : blk < w.heap.size) (hsz : zs.length < 4611686018427387904) :
    Calls Try.prog 27 #[.slice (some ⟨blk, off, none⟩) zs.length cap] w fun e w' =>
      e = .returned (.tuple #[]) ∧ ∃ n os, w' = grow (putRow (Value.int .i64) (Sort.ahead w n) blk off (zs.mergeSort fun x y => decide (x ≤ y)).toArray) os := Any.sort_Ints Try.lays191 blk off cap zs w hH hblk hsz
open Go.RowKit Go.Sort in
/-- .. and plain. (LAID: no walk: one application.) -/
theorem Try.sort_Ints_none (p : Option Addr) (cap : Nat) (w : World) :
    Calls Try.prog 27 #[.slice p 0 cap] w fun e w' => e = .returned (.tuple #[]) ∧ w' = w := Any.sort_Ints_none Try.lays191 p cap w
end Go.Proofs
namespace Go.Proofs.Ytaeggnnijafooaa
set_option linter.unusedVariables false
open Go.RowKit Go.Maps

theorem sortI (w : World) (base : Nat) (v : Value) (zs : List Int) (ho : w.ownsRow base 3 1 v zs.length (zs.map (Value.int .i64))) (hsz : zs.length < 1000000) :
    Calls Try.prog 27 #[v] w fun e w' => e = .returned (.tuple #[]) ∧ w'.ownsRow base 3 1 v zs.length ((zs.mergeSort fun x y => decide (x ≤ y)).map (Value.int .i64)) ∧ Kept (fun b => base ≤ b) w w' := by
  rcases ho.2 with ⟨rfl, h0⟩ | ⟨g, cap, cur, rfl, hbase, hb, h1, h2, h3, h4⟩
  · refine (Try.sort_Ints_none none 0 w).mono ?_
    rintro e w' ⟨rfl, rfl⟩
    have hz : zs = [] := by simpa using h0
    subst hz
    exact ⟨rfl, by simpa using ho, Kept.refl _ _⟩
  · refine (Try.sort_Ints g 0 cap zs w (holds_of_blockI hb (by simpa using h4)) (Array.getElem?_eq_some_iff.1 hb).1 (by omega)).mono ?_
    rintro e w' ⟨rfl, n, os, rfl⟩
    refine ⟨rfl, ownsRow_sortedI (by simp) hbase hb h1 h2 h3, (Kept.refl _ w).grown (grownBy_sortedI _) ?_⟩
    intro p hp
    cases hp
    exact .inl hbase
end Go.Proofs.Ytaeggnnijafooaa
