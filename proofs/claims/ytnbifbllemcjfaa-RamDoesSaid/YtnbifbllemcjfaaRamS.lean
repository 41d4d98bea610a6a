/-
  The library's sort.Slice at this program's own numbers (the laying was printed by the shelf's tools), and behind it: a row of numbers that the call owns is sorted by Pages' own closure.
-/
import Derived.Shelf.GgSortFunc.Whole
import Derived.Shelf.GgSortFunc.Tiny
import Derived.Shelf.GgSortFunc.Lays
import Derived.Shelf.GgSortFunc.Bodies
import Derived.Lib.RowBridge
import Derived.Lib.SortBridge
import Derived.Sort.LotA
import Derived.Sort.OwnSortedInts
import Derived.Deep.QuietTactic
import Derived.Test.YtnbifbllemcjfaaKept
namespace Go.Proofs
open Go.Shelf
def Try.sa6_ren : Go.Shelf.Ren := ⟨fun | 6 => 29 | 10 => 32 | 11 => 33 | 12 => 34 | 13 => 35 | 14 => 36 | 24 => 46 | 25 => 47 | 26 => 48 | 27 => 49 | 28 => 50 | 29 => 51 | 30 => 52 | 31 => 53 | 32 => 54 | 33 => 55 | 34 => 56 | 35 => 57 | 36 => 58 | 37 => 59 | 38 => 60 | 39 => 61 | n => n, fun | 20 => 20 | 26 => 60 | 35 => 64 | 0 => 0 | 37 => 66 | 3 => 3 | 41 => 43 | 44 => 72 | 49 => 77 | 51 => 30 | 4 => 4 | 54 => 81 | 53 => 80 | 58 => 85 | 5 => 5 | 9 => 9 | 60 => 87 | 64 => 91 | 66 => 93 | 67 => 94 | 17 => 17 | 32 => 61 | 33 => 62 | 82 => 109 | 12 => 12 | 75 => 102 | 76 => 103 | 77 => 104 | 78 => 105 | 79 => 106 | 80 => 107 | n => n, fun | n => n⟩
theorem Try.sa6 : Go.Proofs.LaysGg.n6 Try.prog Try.sa6_ren := {
  mixed := by kernel_rfl
  f6 := Try.func29.trans (congrArg some (by kernel_rfl))
  f10 := Try.func32.trans (congrArg some (by kernel_rfl))
  f11 := Try.func33.trans (congrArg some (by kernel_rfl))
  f12 := Try.func34.trans (congrArg some (by kernel_rfl))
  f13 := Try.func35.trans (congrArg some (by kernel_rfl))
  f14 := Try.func36.trans (congrArg some (by kernel_rfl))
  f24 := Try.func46.trans (congrArg some (by kernel_rfl))
  f25 := Try.func47.trans (congrArg some (by kernel_rfl))
  f26 := Try.func48.trans (congrArg some (by kernel_rfl))
  f27 := Try.func49.trans (congrArg some (by kernel_rfl))
  f28 := Try.func50.trans (congrArg some (by kernel_rfl))
  f29 := Try.func51.trans (congrArg some (by kernel_rfl))
  f30 := Try.func52.trans (congrArg some (by kernel_rfl))
  f31 := Try.func53.trans (congrArg some (by kernel_rfl))
  f32 := Try.func54.trans (congrArg some (by kernel_rfl))
  f33 := Try.func55.trans (congrArg some (by kernel_rfl))
  f34 := Try.func56.trans (congrArg some (by kernel_rfl))
  f35 := Try.func57.trans (congrArg some (by kernel_rfl))
  f36 := Try.func58.trans (congrArg some (by kernel_rfl))
  f37 := Try.func59.trans (congrArg some (by kernel_rfl))
  f38 := Try.func60.trans (congrArg some (by kernel_rfl))
  f39 := Try.func61.trans (congrArg some (by kernel_rfl))
  t0 := Try.underlying0
  a0 := Try.isAgg0
  z0 := Try.sizeOf0
  v0 := Try.zeroValue0
  i0 := by kernel_rfl
  t3 := Try.underlying3
  a3 := Try.isAgg3
  z3 := Try.sizeOf3
  v3 := Try.zeroValue3
  i3 := by kernel_rfl
  t4 := Try.underlying4
  a4 := Try.isAgg4
  z4 := Try.sizeOf4
  v4 := Try.zeroValue4
  i4 := by kernel_rfl
  t5 := Try.underlying5
  a5 := Try.isAgg5
  z5 := Try.sizeOf5
  v5 := Try.zeroValue5
  i5 := by kernel_rfl
  t9 := Try.underlying9
  a9 := Try.isAgg9
  z9 := Try.sizeOf9
  v9 := Try.zeroValue9
  i9 := by kernel_rfl
  t12 := Try.underlying12
  a12 := Try.isAgg12
  z12 := Try.sizeOf12
  v12 := Try.zeroValue12
  i12 := by kernel_rfl
  t17 := Try.underlying17
  a17 := Try.isAgg17
  z17 := Try.sizeOf17
  v17 := Try.zeroValue17
  i17 := by kernel_rfl
  t20 := Try.underlying20
  a20 := Try.isAgg20
  z20 := Try.sizeOf20
  v20 := Try.zeroValue20
  i20 := by kernel_rfl
  t26 := Try.underlying60
  a26 := Try.isAgg60
  z26 := Try.sizeOf60
  v26 := Try.zeroValue60
  i26 := by kernel_rfl
  t32 := Try.underlying61
  a32 := Try.isAgg61
  z32 := Try.sizeOf61
  v32 := Try.zeroValue61
  i32 := by kernel_rfl
  t33 := Try.underlying62
  a33 := Try.isAgg62
  z33 := Try.sizeOf62
  v33 := Try.zeroValue62
  i33 := by kernel_rfl
  t35 := Try.underlying64
  a35 := Try.isAgg64
  z35 := Try.sizeOf64
  v35 := Try.zeroValue64
  i35 := by kernel_rfl
  t37 := Try.underlying66
  a37 := Try.isAgg66
  z37 := Try.sizeOf66
  v37 := Try.zeroValue66
  i37 := by kernel_rfl
  t41 := Try.underlying43
  a41 := Try.isAgg43
  z41 := Try.sizeOf43
  v41 := Try.zeroValue43
  i41 := by kernel_rfl
  t44 := Try.underlying72
  a44 := Try.isAgg72
  z44 := Try.sizeOf72
  v44 := Try.zeroValue72
  i44 := by kernel_rfl
  t49 := Try.underlying77
  a49 := Try.isAgg77
  z49 := Try.sizeOf77
  v49 := Try.zeroValue77
  i49 := by kernel_rfl
  t51 := Try.underlying30
  a51 := Try.isAgg30
  z51 := Try.sizeOf30
  v51 := Try.zeroValue30
  i51 := by kernel_rfl
  t53 := Try.underlying80
  a53 := Try.isAgg80
  z53 := Try.sizeOf80
  v53 := Try.zeroValue80
  i53 := by kernel_rfl
  t54 := Try.underlying81
  a54 := Try.isAgg81
  z54 := Try.sizeOf81
  v54 := Try.zeroValue81
  i54 := by kernel_rfl
  t58 := Try.underlying85
  a58 := Try.isAgg85
  z58 := Try.sizeOf85
  v58 := Try.zeroValue85
  i58 := by kernel_rfl
  t60 := Try.underlying87
  a60 := Try.isAgg87
  z60 := Try.sizeOf87
  v60 := Try.zeroValue87
  i60 := by kernel_rfl
  t64 := Try.underlying91
  a64 := Try.isAgg91
  z64 := Try.sizeOf91
  v64 := Try.zeroValue91
  i64 := by kernel_rfl
  t66 := Try.underlying93
  a66 := Try.isAgg93
  z66 := Try.sizeOf93
  v66 := Try.zeroValue93
  i66 := by kernel_rfl
  t67 := Try.underlying94
  a67 := Try.isAgg94
  z67 := Try.sizeOf94
  v67 := Try.zeroValue94
  i67 := by kernel_rfl
  t75 := Try.underlying102
  a75 := Try.isAgg102
  z75 := Try.sizeOf102
  v75 := Try.zeroValue102
  i75 := by kernel_rfl
  t76 := Try.underlying103
  a76 := Try.isAgg103
  z76 := Try.sizeOf103
  v76 := Try.zeroValue103
  i76 := by kernel_rfl
  t77 := Try.underlying104
  a77 := Try.isAgg104
  z77 := Try.sizeOf104
  v77 := Try.zeroValue104
  i77 := by kernel_rfl
  t78 := Try.underlying105
  a78 := Try.isAgg105
  z78 := Try.sizeOf105
  v78 := Try.zeroValue105
  i78 := by kernel_rfl
  t79 := Try.underlying106
  a79 := Try.isAgg106
  z79 := Try.sizeOf106
  v79 := Try.zeroValue106
  i79 := by kernel_rfl
  t80 := Try.underlying107
  a80 := Try.isAgg107
  z80 := Try.sizeOf107
  v80 := Try.zeroValue107
  i80 := by kernel_rfl
  t82 := Try.underlying109
  a82 := Try.isAgg109
  z82 := Try.sizeOf109
  v82 := Try.zeroValue109
  i82 := by kernel_rfl }
end Go.Proofs
namespace Go.Proofs.Ytnbifbllemcjfaa
set_option linter.unusedVariables false
open Go.Shelf Go.RowKit Go.Lib Go.Sort Go.Maps

noncomputable def siT : TypeInfo := (Try.prog.info? 37).get (by kernel_rfl)
noncomputable def siE : TypeInfo := (Try.prog.info? 30).get (by kernel_rfl)
theorem siK (n : Nat) (h2 : 2 ≤ n) : Lib.swapperK n siE 11 = 5 := by
  have a : siE.hasPointers = false := by kernel_rfl
  have b : siE.bytes = 8 := by kernel_rfl
  have c : (n == 0) = false := by simp; omega
  have d : (n == 1) = false := by simp; omega
  simp [Lib.swapperK, a, b, c, d]
/-- There is one sorted permutation. -/
theorem ints_sorted_eq (d d' : Array Int) (hp : PermIn 0 d.size d d') (hs : SortedIn ltInt 0 d.size d') : d' = (d.toList.mergeSort fun x y => decide (x ≤ y)).toArray := by
  have h := sorted_unique_holds (lt := ltInt) swo_ltInt (fun x y h1 h2 => by simp only [ltInt, decide_eq_false_iff_not] at h1 h2; omega) d d' hp hs
  have e : (fun x y : Int => !ltInt y x) = fun x y => decide (x ≤ y) := by
    funext x y
    simp only [ltInt]
    by_cases h : x ≤ y
    · first | (simp [h]; done) | (simp [h]; omega)
    · first | (simp [h]; done) | (simp [h]; omega)
  rw [e] at h
  rw [← h]
set_option maxHeartbeats 2000000 in
/-- Pages' own closure. -/
theorem less_nums (blk off c Bs size : Nat) (W : World) (F : Nat → Int) (hs : W.cell? ⟨Bs, 0, none⟩ = some (.slice (some ⟨blk, off, none⟩) size c))
    (hc : ∀ t, t < size → W.cell? ⟨blk, off + t, none⟩ = some (.int .u64 (F t))) (i j : Nat) (hi : i < size) (hj : j < size) :
    Calls Try.prog 30 #[.int .i64 i, .int .i64 j, .pointer (some ⟨Bs, 0, none⟩)] W fun e w' => e = .returned (.bool (decide (F i < F j))) ∧ ∃ q, w' = W.drewN q := by
  have ci := hc i hi
  have cj := hc j hj
  go_enter Try.func30, Try.ntmps30
  go_wp2
  go_quiet (fail)
  go_wp2
  go_ret
  exact ⟨rfl, nq, rfl⟩
set_option maxHeartbeats 2000000 in
/-- Two elements or more. -/
theorem slice_small (blk c Bs : Nat) (d : Array Int) (h2 : 2 ≤ d.size) (h12 : d.size < 4611686018427387904) (w : World) (hH : Holds (Value.int .u64) w blk 0 d) (hblk : blk < w.heap.size)
    (hs : w.cell? ⟨Bs, 0, none⟩ = some (.slice (some ⟨blk, 0, none⟩) d.size c)) (hB : Bs < w.heap.size) (hne : Bs ≠ blk) :
    Calls Try.prog 29 #[.iface 37 (.slice (some ⟨blk, 0, none⟩) d.size c), .func (.func 30) #[] #[.pointer (some ⟨Bs, 0, none⟩)]] w fun e w' =>
      e = .returned (.tuple #[]) ∧ ∃ n os, w' = grow (putRow (Value.int .u64) (Sort.ahead w n) blk 0 (d.toList.mergeSort fun x y => decide (x ≤ y)).toArray) os := by
  have hless : LessReads Try.prog 30 #[.pointer (some ⟨Bs, 0, none⟩)] (Value.int .u64) ltInt blk 0 d.size w := by
    intro m os dk hsz i j hi hj
    have e : sortWorld (Value.int .u64) w blk 0 m dk os = putRow (Value.int .u64) (grow (Sort.ahead w m) os) blk 0 dk := by
      unfold sortWorld; rw [putRow_grow _ (Sort.ahead w m) _ blk 0 _ hblk]
    have hHg : Holds (Value.int .u64) (grow (Sort.ahead w m) os) blk 0 d := holds_grow _ _ _ blk 0 d hblk (holds_ahead _ _ _ _ _ _ hH)
    refine less_nums blk 0 c Bs d.size _ (fun t => dk[t]!) ?_ (fun t ht => ?_) i j hi hj
    · rw [e, cell?_putRow_other _ _ blk 0 dk _ (Or.inl (by show Bs ≠ blk; omega)), cell?_grow _ _ _ (by show Bs < w.heap.size; exact hB)]
      exact hs
    · rw [e]; exact cell?_putRow _ _ blk 0 d dk hHg hsz t (by omega)
  have hS := Any.sort_Slice_sorted Try.sa6 37 30 siT siE (by kernel_rfl) (by kernel_rfl) (by kernel_rfl) (by kernel_rfl) 11 (fun _ => by kernel_rfl) (by kernel_rfl) (fun _ => by kernel_rfl) (Value.int .u64) (fun _ => rfl) ltInt swo_ltInt 30 _
    (enters_of Try.func30 (by kernel_rfl) rfl) blk 0 c d h2 h12 41 (by rw [siK _ h2]; kernel_rfl) true
    (fun args W => run_callFunc_extern Try.func41 (by kernel_rfl) (by kernel_rfl) (by kernel_rfl) (e := Extern.ReflectliteSwapper.swap true) (by kernel_rfl) args W) _ hless hH hblk
  change Calls Try.prog 29 _ _ _ at hS
  refine hS.mono ?_
  rintro e w' ⟨rfl, d', n, os, hp, hso, rfl⟩
  rw [ints_sorted_eq d d' hp hso]
  exact ⟨rfl, n, os, rfl⟩
set_option maxHeartbeats 2000000 in
/-- No element or one. -/
theorem slice_tiny (p : Option Addr) (n c : Nat) (h1 : n ≤ 1) (w : World) (lb : Array Value) :
    Calls Try.prog 29 #[.iface 37 (.slice p n c), .func (.func 30) #[] lb] w fun e w' => e = .returned (.tuple #[]) ∧ ∃ os, w' = grow w os := by
  have hK : Lib.swapperK n siE 11 = n + 1 := by
    rcases Nat.eq_zero_or_pos n with h | h
    · subst h; simp [Lib.swapperK]
    · obtain rfl : n = 1 := by omega
      simp [Lib.swapperK]
  exact Any.sort_Slice_tiny Try.sa6 37 30 siT siE (by kernel_rfl) (by kernel_rfl) (by kernel_rfl) (by kernel_rfl) 11 (fun _ => by kernel_rfl) p n c h1 (37 + n) (by
    rw [hK]
    rcases Nat.eq_zero_or_pos n with h | h
    · subst h; kernel_rfl
    · obtain rfl : n = 1 := by omega
      kernel_rfl) (.func 30) #[] lb w
theorem holds_of_blockU {w : World} {g : Nat} {cur : Array Value} {e : TypeId} {ss : List Int} (hb : w.heap[g]? = some (.cells cur e (0, 0))) (ht : cur.toList.take ss.length = ss.map (Value.int .u64)) : Holds (Value.int .u64) w g 0 ss.toArray := by
  intro j hj
  have hj' : j < ss.length := by simpa using hj
  refine ⟨?_, by simp [World.frozen?, hb]⟩
  have h1 : (cur.toList.take ss.length)[j]? = (ss.map (Value.int .u64))[j]? := by rw [ht]
  rw [List.getElem?_take_of_lt hj'] at h1
  simp only [World.cell?, hb, Nat.zero_add]
  simp only [Option.isSome_none, Bool.false_eq_true, if_false]
  rw [← Array.getElem?_toList, h1]
  simp [hj']
theorem heap_sortedU {w : World} {g n : Nat} {os : Array Obj} {cur : Array Value} {e : TypeId} {fr : Nat × Nat} (d : Array Int) (hb : w.heap[g]? = some (.cells cur e fr)) :
    (grow (putRow (Value.int .u64) (Sort.ahead w n) g 0 d) os).heap[g]? = some (.cells (putCells (Value.int .u64) 0 d cur) e fr) := by
  have hg : g < w.heap.size := (Array.getElem?_eq_some_iff.1 hb).1
  rw [heap_grow_old _ _ (by simpa using hg)]
  simp [putRow, mapBlock, Sort.ahead, Array.getElem?_modify, hb, onCells]
theorem grownBy_sortedU {w : World} {g n : Nat} {os : Array Obj} (d : Array Int) : w.grownBy (grow (putRow (Value.int .u64) (Sort.ahead w n) g 0 d) os) (some g) := by
  refine ⟨rfl, rfl, rfl, by simp, fun k hk hne => ?_⟩
  rw [heap_grow_old _ _ (by simpa using hk)]
  have : g ≠ k := fun e => hne (by rw [e])
  simp [putRow, mapBlock, Sort.ahead, Array.getElem?_modify, this]
theorem grownBy_grow {w : World} {os : Array Obj} : w.grownBy (grow w os) none := by
  refine ⟨rfl, rfl, rfl, by simp, fun k hk hne => ?_⟩
  rw [heap_grow_old _ _ (by simpa using hk)]
theorem take_putCellsU (cur : Array Value) (ts : List Int) (h : ts.length ≤ cur.size) : (putCells (Value.int .u64) 0 ts.toArray cur).toList.take ts.length = ts.map (Value.int .u64) := by
  apply List.ext_getElem?
  intro j
  by_cases hj : j < ts.length
  · rw [List.getElem?_take_of_lt hj, Array.getElem?_toList]
    simp [putCells, hj, show j < cur.size by omega]
  · rw [List.getElem?_take_eq_none (by omega), List.getElem?_eq_none (by simp; omega)]
theorem ownsRow_sortedU {w : World} {base g cap n : Nat} {e : TypeId} {os : Array Obj} {cur : Array Value} {ss ts : List Int} (hl : ts.length = ss.length) (hbase : base ≤ g) (hb : w.heap[g]? = some (.cells cur e (0, 0)))
    (h1 : ss.length ≤ cap) (h2 : cap ≤ maxLen) (h3 : cur.size = cap * 1) :
    (grow (putRow (Value.int .u64) (Sort.ahead w n) g 0 ts.toArray) os).ownsRow base e 1 (.slice (some ⟨g, 0, none⟩) ss.length cap) ss.length (ts.map (Value.int .u64)) :=
  ⟨by simp [hl], .inr ⟨g, cap, _, rfl, hbase, heap_sortedU _ hb, h1, h2, by simp [putCells, h3], by rw [Nat.mul_one, ← hl]; exact take_putCellsU cur ts (by omega)⟩⟩
/-- A row that the call owns is sorted. -/
theorem sortU (w : World) (base Bs : Nat) (v : Value) (zs : List Int) (ho : w.ownsRow base 30 1 v zs.length (zs.map (Value.int .u64))) (hsz : zs.length < 1000000)
    (hs : w.cell? ⟨Bs, 0, none⟩ = some v) (hB : Bs < w.heap.size) (hne : ∀ b, v.ownBlock = some b → Bs ≠ b) :
    Calls Try.prog 29 #[.iface 37 v, .func (.func 30) #[] #[.pointer (some ⟨Bs, 0, none⟩)]] w fun e w' =>
      e = .returned (.tuple #[]) ∧ w'.ownsRow base 30 1 v zs.length ((zs.mergeSort fun x y => decide (x ≤ y)).map (Value.int .u64)) ∧ w.grownBy w' v.ownBlock := by
  by_cases h2 : 2 ≤ zs.length
  · rcases ho.2 with ⟨rfl, h0⟩ | ⟨g, cap, cur, rfl, hbase, hb, h1, h3, h4, h5⟩
    · have hz : zs = [] := by simpa using h0
      subst hz
      simp at h2
    · have h5' : cur.toList.take zs.length = zs.map (Value.int .u64) := by simpa using h5
      refine (slice_small g cap Bs zs.toArray (by simpa using h2) (by simp; omega) w (holds_of_blockU hb h5') (Array.getElem?_eq_some_iff.1 hb).1 (by simpa using hs) hB (hne g rfl)).mono ?_
      rintro e w' ⟨rfl, n, os, rfl⟩
      exact ⟨rfl, ownsRow_sortedU (by simp) hbase hb h1 h3 h4, grownBy_sortedU _⟩
  · have hm : zs.mergeSort (fun x y => decide (x ≤ y)) = zs := by
      match zs, h2 with
      | [], _ => simp
      | [x], _ => simp
      | x :: y :: r, hl => simp at hl
    obtain ⟨p, c, rfl⟩ : ∃ p c, v = .slice p zs.length c := by
      rcases ho.2 with ⟨rfl, h0⟩ | ⟨g, cap, cur, rfl, r⟩
      · have hz : zs = [] := by simpa using h0
        subst hz
        exact ⟨none, 0, rfl⟩
      · exact ⟨_, _, rfl⟩
    refine (slice_tiny p zs.length c (by omega) w _).mono ?_
    rintro e w' ⟨rfl, os, rfl⟩
    rw [hm]
    have hg : w.grownBy (grow w os) none := grownBy_grow
    exact ⟨rfl, ho.kept hg (by cases (Value.slice p zs.length c).ownBlock <;> simp), hg.but _⟩
end Go.Proofs.Ytnbifbllemcjfaa
