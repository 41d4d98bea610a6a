/-
  What reads and writes of the registers come to. Nothing of the program's code stands here. (Printed by gen_csre.py.)
-/
import Derived.Test.YtgkajhpmgeofkaaRegs
namespace Go.Proofs.Ytgkajhpmgeofkaa
set_option linter.unusedVariables false

def layS (old v mask : BitVec 64) : BitVec 64 := old &&& ~~~mask ||| v &&& mask
def settledS (m : BitVec 64) : BitVec 64 := if (m &&& 8288682#64 ||| 42949672960#64) >>> 13 &&& 3#64 = 3#64 then (m &&& 8288682#64 ||| 42949672960#64) ||| 9223372036854775808#64 else m &&& 8288682#64 ||| 42949672960#64
def cfgU (r : Regs) (j : Nat) : BitVec 64 :=
  match j with
  | 0 => 0#64
  | 1 => r.c0.setWidth 64
  | 2 => r.c0.setWidth 64 ||| r.c1.setWidth 64 <<< 8
  | 3 => r.c0.setWidth 64 ||| r.c1.setWidth 64 <<< 8 ||| r.c2.setWidth 64 <<< 16
  | 4 => r.c0.setWidth 64 ||| r.c1.setWidth 64 <<< 8 ||| r.c2.setWidth 64 <<< 16 ||| r.c3.setWidth 64 <<< 24
  | 5 => r.c0.setWidth 64 ||| r.c1.setWidth 64 <<< 8 ||| r.c2.setWidth 64 <<< 16 ||| r.c3.setWidth 64 <<< 24 ||| r.c4.setWidth 64 <<< 32
  | 6 => r.c0.setWidth 64 ||| r.c1.setWidth 64 <<< 8 ||| r.c2.setWidth 64 <<< 16 ||| r.c3.setWidth 64 <<< 24 ||| r.c4.setWidth 64 <<< 32 ||| r.c5.setWidth 64 <<< 40
  | 7 => r.c0.setWidth 64 ||| r.c1.setWidth 64 <<< 8 ||| r.c2.setWidth 64 <<< 16 ||| r.c3.setWidth 64 <<< 24 ||| r.c4.setWidth 64 <<< 32 ||| r.c5.setWidth 64 <<< 40 ||| r.c6.setWidth 64 <<< 48
  | _ => r.c0.setWidth 64 ||| r.c1.setWidth 64 <<< 8 ||| r.c2.setWidth 64 <<< 16 ||| r.c3.setWidth 64 <<< 24 ||| r.c4.setWidth 64 <<< 32 ||| r.c5.setWidth 64 <<< 40 ||| r.c6.setWidth 64 <<< 48 ||| r.c7.setWidth 64 <<< 56

def readS (r : Regs) (n : Int) (l t : BitVec 64) : BitVec 64 :=
  if n = 1 then r.fcsr &&& 31#64
  else if n = 2 then r.fcsr >>> 5 &&& 7#64
  else if n = 3 then r.fcsr
  else if n = 256 then r.mstatus &&& 9223372045445521698#64
  else if n = 260 then r.mie &&& r.mideleg
  else if n = 261 then r.stvec
  else if n = 262 then r.scounteren
  else if n = 320 then r.sscratch
  else if n = 321 then r.sepc
  else if n = 322 then r.scause
  else if n = 323 then r.stval
  else if n = 324 then (r.mip ||| l &&& 2696#64) &&& r.mideleg
  else if n = 384 then r.satp
  else if n = 768 then r.mstatus
  else if n = 769 then 9223372036856090925#64
  else if n = 770 then r.medeleg
  else if n = 771 then r.mideleg
  else if n = 772 then r.mie
  else if n = 773 then r.mtvec
  else if n = 774 then r.mcounteren
  else if n = 800 then r.mcountinhibit
  else if n = 832 then r.mscratch
  else if n = 833 then r.mepc
  else if n = 834 then r.mcause
  else if n = 835 then r.mtval
  else if n = 836 then r.mip ||| l &&& 2696#64
  else if n = 928 then cfgU r 8
  else if n = 944 then r.a0
  else if n = 945 then r.a1
  else if n = 946 then r.a2
  else if n = 947 then r.a3
  else if n = 948 then r.a4
  else if n = 949 then r.a5
  else if n = 950 then r.a6
  else if n = 951 then r.a7
  else if n = 2816 then r.mcycle
  else if n = 2818 then r.minstret
  else if n = 3072 then r.mcycle
  else if n = 3073 then t
  else if n = 3074 then r.minstret
  else 0#64

/-- One setting behind a write of all. -/
def cfg1 (c next : BitVec 8) : BitVec 8 := if c &&& 128#8 = 0#8 ∧ next &&& 3#8 ≠ 2#8 then next &&& 159#8 else c
def cfgW (r : Regs) (v : BitVec 64) : Regs :=
  { r with c0 := cfg1 r.c0 (v.setWidth 8), c1 := cfg1 r.c1 ((v >>> 8).setWidth 8), c2 := cfg1 r.c2 ((v >>> 16).setWidth 8), c3 := cfg1 r.c3 ((v >>> 24).setWidth 8), c4 := cfg1 r.c4 ((v >>> 32).setWidth 8), c5 := cfg1 r.c5 ((v >>> 40).setWidth 8), c6 := cfg1 r.c6 ((v >>> 48).setWidth 8), c7 := cfg1 r.c7 ((v >>> 56).setWidth 8) }
/-- Does the next setting lock an address? -/
def nextLocks (c : BitVec 8) : Prop := c &&& 128#8 ≠ 0#8 ∧ c >>> 3 &&& 3#8 = 1#8
instance (c : BitVec 8) : Decidable (nextLocks c) := inferInstanceAs (Decidable (_ ∧ _))

def adrW0 (r : Regs) (v : BitVec 64) : Regs := if r.c0 &&& 128#8 ≠ 0#8 ∨ nextLocks r.c1 then r else { r with a0 := v &&& 18014398509481983#64 }
def adrW1 (r : Regs) (v : BitVec 64) : Regs := if r.c1 &&& 128#8 ≠ 0#8 ∨ nextLocks r.c2 then r else { r with a1 := v &&& 18014398509481983#64 }
def adrW2 (r : Regs) (v : BitVec 64) : Regs := if r.c2 &&& 128#8 ≠ 0#8 ∨ nextLocks r.c3 then r else { r with a2 := v &&& 18014398509481983#64 }
def adrW3 (r : Regs) (v : BitVec 64) : Regs := if r.c3 &&& 128#8 ≠ 0#8 ∨ nextLocks r.c4 then r else { r with a3 := v &&& 18014398509481983#64 }
def adrW4 (r : Regs) (v : BitVec 64) : Regs := if r.c4 &&& 128#8 ≠ 0#8 ∨ nextLocks r.c5 then r else { r with a4 := v &&& 18014398509481983#64 }
def adrW5 (r : Regs) (v : BitVec 64) : Regs := if r.c5 &&& 128#8 ≠ 0#8 ∨ nextLocks r.c6 then r else { r with a5 := v &&& 18014398509481983#64 }
def adrW6 (r : Regs) (v : BitVec 64) : Regs := if r.c6 &&& 128#8 ≠ 0#8 ∨ nextLocks r.c7 then r else { r with a6 := v &&& 18014398509481983#64 }
def adrW7 (r : Regs) (v : BitVec 64) : Regs := if r.c7 &&& 128#8 ≠ 0#8 then r else { r with a7 := v &&& 18014398509481983#64 }

def writeS (r : Regs) (n : Int) (v : BitVec 64) : Regs :=
  if n = 1 then { r with fcsr := layS r.fcsr v 31#64, mstatus := settledS (r.mstatus ||| 24576#64) }
  else if n = 2 then { r with fcsr := layS r.fcsr (v <<< 5) 224#64, mstatus := settledS (r.mstatus ||| 24576#64) }
  else if n = 3 then { r with fcsr := v &&& 255#64, mstatus := settledS (r.mstatus ||| 24576#64) }
  else if n = 256 then { r with mstatus := settledS (layS r.mstatus v 811298#64) }
  else if n = 260 then { r with mie := layS r.mie v r.mideleg }
  else if n = 261 then { r with stvec := v &&& 18446744073709551613#64 }
  else if n = 262 then { r with scounteren := v &&& 7#64 }
  else if n = 320 then { r with sscratch := v }
  else if n = 321 then { r with sepc := v &&& 18446744073709551614#64 }
  else if n = 322 then { r with scause := v }
  else if n = 323 then { r with stval := v }
  else if n = 324 then { r with mip := layS r.mip v (r.mideleg &&& 2#64) }
  else if n = 384 then (if v >>> 60 = 0#64 ∨ v >>> 60 = 8#64 then { r with satp := v } else r)
  else if n = 768 then { r with mstatus := settledS (layS r.mstatus v (if v >>> 11 &&& 3#64 = 2#64 then 8282538#64 else 8288682#64)) }
  else if n = 770 then { r with medeleg := v &&& 46078#64 }
  else if n = 771 then { r with mideleg := v &&& 546#64 }
  else if n = 772 then { r with mie := v &&& 2730#64 }
  else if n = 773 then { r with mtvec := v &&& 18446744073709551613#64 }
  else if n = 774 then { r with mcounteren := v &&& 7#64 }
  else if n = 800 then { r with mcountinhibit := v &&& 5#64 }
  else if n = 832 then { r with mscratch := v }
  else if n = 833 then { r with mepc := v &&& 18446744073709551614#64 }
  else if n = 834 then { r with mcause := v }
  else if n = 835 then { r with mtval := v }
  else if n = 836 then { r with mip := layS r.mip v 546#64 }
  else if n = 928 then cfgW r v
  else if n = 944 then adrW0 r v
  else if n = 945 then adrW1 r v
  else if n = 946 then adrW2 r v
  else if n = 947 then adrW3 r v
  else if n = 948 then adrW4 r v
  else if n = 949 then adrW5 r v
  else if n = 950 then adrW6 r v
  else if n = 951 then adrW7 r v
  else if n = 2816 then { r with mcycle := v }
  else if n = 2818 then { r with minstret := v }
  else r

theorem readS_1 (r : Regs) (l t : BitVec 64) : readS r 1 l t = r.fcsr &&& 31#64 := by simp [readS]
theorem readS_2 (r : Regs) (l t : BitVec 64) : readS r 2 l t = r.fcsr >>> 5 &&& 7#64 := by simp [readS]
theorem readS_3 (r : Regs) (l t : BitVec 64) : readS r 3 l t = r.fcsr := by simp [readS]
theorem readS_256 (r : Regs) (l t : BitVec 64) : readS r 256 l t = r.mstatus &&& 9223372045445521698#64 := by simp [readS]
theorem readS_260 (r : Regs) (l t : BitVec 64) : readS r 260 l t = r.mie &&& r.mideleg := by simp [readS]
theorem readS_261 (r : Regs) (l t : BitVec 64) : readS r 261 l t = r.stvec := by simp [readS]
theorem readS_262 (r : Regs) (l t : BitVec 64) : readS r 262 l t = r.scounteren := by simp [readS]
theorem readS_320 (r : Regs) (l t : BitVec 64) : readS r 320 l t = r.sscratch := by simp [readS]
theorem readS_321 (r : Regs) (l t : BitVec 64) : readS r 321 l t = r.sepc := by simp [readS]
theorem readS_322 (r : Regs) (l t : BitVec 64) : readS r 322 l t = r.scause := by simp [readS]
theorem readS_323 (r : Regs) (l t : BitVec 64) : readS r 323 l t = r.stval := by simp [readS]
theorem readS_324 (r : Regs) (l t : BitVec 64) : readS r 324 l t = (r.mip ||| l &&& 2696#64) &&& r.mideleg := by simp [readS]
theorem readS_384 (r : Regs) (l t : BitVec 64) : readS r 384 l t = r.satp := by simp [readS]
theorem readS_768 (r : Regs) (l t : BitVec 64) : readS r 768 l t = r.mstatus := by simp [readS]
theorem readS_769 (r : Regs) (l t : BitVec 64) : readS r 769 l t = 9223372036856090925#64 := by simp [readS]
theorem readS_770 (r : Regs) (l t : BitVec 64) : readS r 770 l t = r.medeleg := by simp [readS]
theorem readS_771 (r : Regs) (l t : BitVec 64) : readS r 771 l t = r.mideleg := by simp [readS]
theorem readS_772 (r : Regs) (l t : BitVec 64) : readS r 772 l t = r.mie := by simp [readS]
theorem readS_773 (r : Regs) (l t : BitVec 64) : readS r 773 l t = r.mtvec := by simp [readS]
theorem readS_774 (r : Regs) (l t : BitVec 64) : readS r 774 l t = r.mcounteren := by simp [readS]
theorem readS_800 (r : Regs) (l t : BitVec 64) : readS r 800 l t = r.mcountinhibit := by simp [readS]
theorem readS_832 (r : Regs) (l t : BitVec 64) : readS r 832 l t = r.mscratch := by simp [readS]
theorem readS_833 (r : Regs) (l t : BitVec 64) : readS r 833 l t = r.mepc := by simp [readS]
theorem readS_834 (r : Regs) (l t : BitVec 64) : readS r 834 l t = r.mcause := by simp [readS]
theorem readS_835 (r : Regs) (l t : BitVec 64) : readS r 835 l t = r.mtval := by simp [readS]
theorem readS_836 (r : Regs) (l t : BitVec 64) : readS r 836 l t = r.mip ||| l &&& 2696#64 := by simp [readS]
theorem readS_928 (r : Regs) (l t : BitVec 64) : readS r 928 l t = cfgU r 8 := by simp [readS]
theorem readS_944 (r : Regs) (l t : BitVec 64) : readS r 944 l t = r.a0 := by simp [readS]
theorem readS_945 (r : Regs) (l t : BitVec 64) : readS r 945 l t = r.a1 := by simp [readS]
theorem readS_946 (r : Regs) (l t : BitVec 64) : readS r 946 l t = r.a2 := by simp [readS]
theorem readS_947 (r : Regs) (l t : BitVec 64) : readS r 947 l t = r.a3 := by simp [readS]
theorem readS_948 (r : Regs) (l t : BitVec 64) : readS r 948 l t = r.a4 := by simp [readS]
theorem readS_949 (r : Regs) (l t : BitVec 64) : readS r 949 l t = r.a5 := by simp [readS]
theorem readS_950 (r : Regs) (l t : BitVec 64) : readS r 950 l t = r.a6 := by simp [readS]
theorem readS_951 (r : Regs) (l t : BitVec 64) : readS r 951 l t = r.a7 := by simp [readS]
theorem readS_2816 (r : Regs) (l t : BitVec 64) : readS r 2816 l t = r.mcycle := by simp [readS]
theorem readS_2818 (r : Regs) (l t : BitVec 64) : readS r 2818 l t = r.minstret := by simp [readS]
theorem readS_3072 (r : Regs) (l t : BitVec 64) : readS r 3072 l t = r.mcycle := by simp [readS]
theorem readS_3073 (r : Regs) (l t : BitVec 64) : readS r 3073 l t = t := by simp [readS]
theorem readS_3074 (r : Regs) (l t : BitVec 64) : readS r 3074 l t = r.minstret := by simp [readS]
theorem writeS_1 (r : Regs) (v : BitVec 64) : writeS r 1 v = { r with fcsr := layS r.fcsr v 31#64, mstatus := settledS (r.mstatus ||| 24576#64) } := by simp [writeS]
theorem writeS_2 (r : Regs) (v : BitVec 64) : writeS r 2 v = { r with fcsr := layS r.fcsr (v <<< 5) 224#64, mstatus := settledS (r.mstatus ||| 24576#64) } := by simp [writeS]
theorem writeS_3 (r : Regs) (v : BitVec 64) : writeS r 3 v = { r with fcsr := v &&& 255#64, mstatus := settledS (r.mstatus ||| 24576#64) } := by simp [writeS]
theorem writeS_256 (r : Regs) (v : BitVec 64) : writeS r 256 v = { r with mstatus := settledS (layS r.mstatus v 811298#64) } := by simp [writeS]
theorem writeS_260 (r : Regs) (v : BitVec 64) : writeS r 260 v = { r with mie := layS r.mie v r.mideleg } := by simp [writeS]
theorem writeS_261 (r : Regs) (v : BitVec 64) : writeS r 261 v = { r with stvec := v &&& 18446744073709551613#64 } := by simp [writeS]
theorem writeS_262 (r : Regs) (v : BitVec 64) : writeS r 262 v = { r with scounteren := v &&& 7#64 } := by simp [writeS]
theorem writeS_320 (r : Regs) (v : BitVec 64) : writeS r 320 v = { r with sscratch := v } := by simp [writeS]
theorem writeS_321 (r : Regs) (v : BitVec 64) : writeS r 321 v = { r with sepc := v &&& 18446744073709551614#64 } := by simp [writeS]
theorem writeS_322 (r : Regs) (v : BitVec 64) : writeS r 322 v = { r with scause := v } := by simp [writeS]
theorem writeS_323 (r : Regs) (v : BitVec 64) : writeS r 323 v = { r with stval := v } := by simp [writeS]
theorem writeS_324 (r : Regs) (v : BitVec 64) : writeS r 324 v = { r with mip := layS r.mip v (r.mideleg &&& 2#64) } := by simp [writeS]
theorem writeS_384 (r : Regs) (v : BitVec 64) : writeS r 384 v = (if v >>> 60 = 0#64 ∨ v >>> 60 = 8#64 then { r with satp := v } else r) := by simp [writeS]
theorem writeS_768 (r : Regs) (v : BitVec 64) : writeS r 768 v = { r with mstatus := settledS (layS r.mstatus v (if v >>> 11 &&& 3#64 = 2#64 then 8282538#64 else 8288682#64)) } := by simp [writeS]
theorem writeS_770 (r : Regs) (v : BitVec 64) : writeS r 770 v = { r with medeleg := v &&& 46078#64 } := by simp [writeS]
theorem writeS_771 (r : Regs) (v : BitVec 64) : writeS r 771 v = { r with mideleg := v &&& 546#64 } := by simp [writeS]
theorem writeS_772 (r : Regs) (v : BitVec 64) : writeS r 772 v = { r with mie := v &&& 2730#64 } := by simp [writeS]
theorem writeS_773 (r : Regs) (v : BitVec 64) : writeS r 773 v = { r with mtvec := v &&& 18446744073709551613#64 } := by simp [writeS]
theorem writeS_774 (r : Regs) (v : BitVec 64) : writeS r 774 v = { r with mcounteren := v &&& 7#64 } := by simp [writeS]
theorem writeS_800 (r : Regs) (v : BitVec 64) : writeS r 800 v = { r with mcountinhibit := v &&& 5#64 } := by simp [writeS]
theorem writeS_832 (r : Regs) (v : BitVec 64) : writeS r 832 v = { r with mscratch := v } := by simp [writeS]
theorem writeS_833 (r : Regs) (v : BitVec 64) : writeS r 833 v = { r with mepc := v &&& 18446744073709551614#64 } := by simp [writeS]
theorem writeS_834 (r : Regs) (v : BitVec 64) : writeS r 834 v = { r with mcause := v } := by simp [writeS]
theorem writeS_835 (r : Regs) (v : BitVec 64) : writeS r 835 v = { r with mtval := v } := by simp [writeS]
theorem writeS_836 (r : Regs) (v : BitVec 64) : writeS r 836 v = { r with mip := layS r.mip v 546#64 } := by simp [writeS]
theorem writeS_928 (r : Regs) (v : BitVec 64) : writeS r 928 v = cfgW r v := by simp [writeS]
theorem writeS_944 (r : Regs) (v : BitVec 64) : writeS r 944 v = adrW0 r v := by simp [writeS]
theorem writeS_945 (r : Regs) (v : BitVec 64) : writeS r 945 v = adrW1 r v := by simp [writeS]
theorem writeS_946 (r : Regs) (v : BitVec 64) : writeS r 946 v = adrW2 r v := by simp [writeS]
theorem writeS_947 (r : Regs) (v : BitVec 64) : writeS r 947 v = adrW3 r v := by simp [writeS]
theorem writeS_948 (r : Regs) (v : BitVec 64) : writeS r 948 v = adrW4 r v := by simp [writeS]
theorem writeS_949 (r : Regs) (v : BitVec 64) : writeS r 949 v = adrW5 r v := by simp [writeS]
theorem writeS_950 (r : Regs) (v : BitVec 64) : writeS r 950 v = adrW6 r v := by simp [writeS]
theorem writeS_951 (r : Regs) (v : BitVec 64) : writeS r 951 v = adrW7 r v := by simp [writeS]
theorem writeS_2816 (r : Regs) (v : BitVec 64) : writeS r 2816 v = { r with mcycle := v } := by simp [writeS]
theorem writeS_2818 (r : Regs) (v : BitVec 64) : writeS r 2818 v = { r with minstret := v } := by simp [writeS]
theorem readS_none (r : Regs) (n : Int) (l t : BitVec 64) (n1 : n ≠ 1) (n2 : n ≠ 2) (n3 : n ≠ 3) (n256 : n ≠ 256) (n260 : n ≠ 260) (n261 : n ≠ 261) (n262 : n ≠ 262) (n320 : n ≠ 320) (n321 : n ≠ 321) (n322 : n ≠ 322) (n323 : n ≠ 323) (n324 : n ≠ 324) (n384 : n ≠ 384) (n768 : n ≠ 768) (n769 : n ≠ 769) (n770 : n ≠ 770) (n771 : n ≠ 771) (n772 : n ≠ 772) (n773 : n ≠ 773) (n774 : n ≠ 774) (n800 : n ≠ 800) (n832 : n ≠ 832) (n833 : n ≠ 833) (n834 : n ≠ 834) (n835 : n ≠ 835) (n836 : n ≠ 836) (n928 : n ≠ 928) (n944 : n ≠ 944) (n945 : n ≠ 945) (n946 : n ≠ 946) (n947 : n ≠ 947) (n948 : n ≠ 948) (n949 : n ≠ 949) (n950 : n ≠ 950) (n951 : n ≠ 951) (n2816 : n ≠ 2816) (n2818 : n ≠ 2818) (n3072 : n ≠ 3072) (n3073 : n ≠ 3073) (n3074 : n ≠ 3074) : readS r n l t = 0#64 := by simp [readS, n1, n2, n3, n256, n260, n261, n262, n320, n321, n322, n323, n324, n384, n768, n769, n770, n771, n772, n773, n774, n800, n832, n833, n834, n835, n836, n928, n944, n945, n946, n947, n948, n949, n950, n951, n2816, n2818, n3072, n3073, n3074]
theorem writeS_none (r : Regs) (n : Int) (v : BitVec 64) (n1 : n ≠ 1) (n2 : n ≠ 2) (n3 : n ≠ 3) (n256 : n ≠ 256) (n260 : n ≠ 260) (n261 : n ≠ 261) (n262 : n ≠ 262) (n320 : n ≠ 320) (n321 : n ≠ 321) (n322 : n ≠ 322) (n323 : n ≠ 323) (n324 : n ≠ 324) (n384 : n ≠ 384) (n768 : n ≠ 768) (n770 : n ≠ 770) (n771 : n ≠ 771) (n772 : n ≠ 772) (n773 : n ≠ 773) (n774 : n ≠ 774) (n800 : n ≠ 800) (n832 : n ≠ 832) (n833 : n ≠ 833) (n834 : n ≠ 834) (n835 : n ≠ 835) (n836 : n ≠ 836) (n928 : n ≠ 928) (n944 : n ≠ 944) (n945 : n ≠ 945) (n946 : n ≠ 946) (n947 : n ≠ 947) (n948 : n ≠ 948) (n949 : n ≠ 949) (n950 : n ≠ 950) (n951 : n ≠ 951) (n2816 : n ≠ 2816) (n2818 : n ≠ 2818) : writeS r n v = r := by simp [writeS, n1, n2, n3, n256, n260, n261, n262, n320, n321, n322, n323, n324, n384, n768, n770, n771, n772, n773, n774, n800, n832, n833, n834, n835, n836, n928, n944, n945, n946, n947, n948, n949, n950, n951, n2816, n2818]
end Go.Proofs.Ytgkajhpmgeofkaa