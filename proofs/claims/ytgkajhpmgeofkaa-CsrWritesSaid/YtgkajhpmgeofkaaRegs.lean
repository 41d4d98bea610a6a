/-
  The registers (api.Csrs) as a structure of bit vectors, its 38 cells, and the walk's rules on these. (Printed by gen_regs.py.)
-/
import Derived.Test.YtgkajhpmgeofkaaProg
import Derived.Test.YtgkajhpmgeofkaaMore
namespace Go.Proofs.Ytgkajhpmgeofkaa
set_option linter.unusedVariables false
open Go.RowKit

structure Regs where
  mstatus : BitVec 64
  mtvec : BitVec 64
  medeleg : BitVec 64
  mideleg : BitVec 64
  mie : BitVec 64
  mip : BitVec 64
  mepc : BitVec 64
  mcause : BitVec 64
  mtval : BitVec 64
  mscratch : BitVec 64
  mcounteren : BitVec 64
  mcountinhibit : BitVec 64
  mcycle : BitVec 64
  minstret : BitVec 64
  stvec : BitVec 64
  sepc : BitVec 64
  scause : BitVec 64
  stval : BitVec 64
  sscratch : BitVec 64
  scounteren : BitVec 64
  satp : BitVec 64
  fcsr : BitVec 64
  c0 : BitVec 8
  c1 : BitVec 8
  c2 : BitVec 8
  c3 : BitVec 8
  c4 : BitVec 8
  c5 : BitVec 8
  c6 : BitVec 8
  c7 : BitVec 8
  a0 : BitVec 64
  a1 : BitVec 64
  a2 : BitVec 64
  a3 : BitVec 64
  a4 : BitVec 64
  a5 : BitVec 64
  a6 : BitVec 64
  a7 : BitVec 64

/-- The cells of a value of the type api.Csrs. -/
def C (r : Regs) : Array Value := #[.int .u64 (U (r.mstatus)), .int .u64 (U (r.mtvec)), .int .u64 (U (r.medeleg)), .int .u64 (U (r.mideleg)), .int .u64 (U (r.mie)), .int .u64 (U (r.mip)), .int .u64 (U (r.mepc)), .int .u64 (U (r.mcause)), .int .u64 (U (r.mtval)), .int .u64 (U (r.mscratch)), .int .u64 (U (r.mcounteren)), .int .u64 (U (r.mcountinhibit)), .int .u64 (U (r.mcycle)), .int .u64 (U (r.minstret)), .int .u64 (U (r.stvec)), .int .u64 (U (r.sepc)), .int .u64 (U (r.scause)), .int .u64 (U (r.stval)), .int .u64 (U (r.sscratch)), .int .u64 (U (r.scounteren)), .int .u64 (U (r.satp)), .int .u64 (U (r.fcsr)), .int .u8 (U1 (r.c0)), .int .u8 (U1 (r.c1)), .int .u8 (U1 (r.c2)), .int .u8 (U1 (r.c3)), .int .u8 (U1 (r.c4)), .int .u8 (U1 (r.c5)), .int .u8 (U1 (r.c6)), .int .u8 (U1 (r.c7)), .int .u64 (U (r.a0)), .int .u64 (U (r.a1)), .int .u64 (U (r.a2)), .int .u64 (U (r.a3)), .int .u64 (U (r.a4)), .int .u64 (U (r.a5)), .int .u64 (U (r.a6)), .int .u64 (U (r.a7))]
@[go_sem] theorem C_size (r : Regs) : (C r).size = 38 := rfl
theorem C_one (r : Regs) : (C r).all (·.oneCell') = true := by simp [C, Value.oneCell']

@[go_sem] theorem C_get_0 (r : Regs) : (C r)[0]? = some (.int .u64 (U (r.mstatus))) := rfl
@[go_sem] theorem C_get_1 (r : Regs) : (C r)[1]? = some (.int .u64 (U (r.mtvec))) := rfl
@[go_sem] theorem C_get_2 (r : Regs) : (C r)[2]? = some (.int .u64 (U (r.medeleg))) := rfl
@[go_sem] theorem C_get_3 (r : Regs) : (C r)[3]? = some (.int .u64 (U (r.mideleg))) := rfl
@[go_sem] theorem C_get_4 (r : Regs) : (C r)[4]? = some (.int .u64 (U (r.mie))) := rfl
@[go_sem] theorem C_get_5 (r : Regs) : (C r)[5]? = some (.int .u64 (U (r.mip))) := rfl
@[go_sem] theorem C_get_6 (r : Regs) : (C r)[6]? = some (.int .u64 (U (r.mepc))) := rfl
@[go_sem] theorem C_get_7 (r : Regs) : (C r)[7]? = some (.int .u64 (U (r.mcause))) := rfl
@[go_sem] theorem C_get_8 (r : Regs) : (C r)[8]? = some (.int .u64 (U (r.mtval))) := rfl
@[go_sem] theorem C_get_9 (r : Regs) : (C r)[9]? = some (.int .u64 (U (r.mscratch))) := rfl
@[go_sem] theorem C_get_10 (r : Regs) : (C r)[10]? = some (.int .u64 (U (r.mcounteren))) := rfl
@[go_sem] theorem C_get_11 (r : Regs) : (C r)[11]? = some (.int .u64 (U (r.mcountinhibit))) := rfl
@[go_sem] theorem C_get_12 (r : Regs) : (C r)[12]? = some (.int .u64 (U (r.mcycle))) := rfl
@[go_sem] theorem C_get_13 (r : Regs) : (C r)[13]? = some (.int .u64 (U (r.minstret))) := rfl
@[go_sem] theorem C_get_14 (r : Regs) : (C r)[14]? = some (.int .u64 (U (r.stvec))) := rfl
@[go_sem] theorem C_get_15 (r : Regs) : (C r)[15]? = some (.int .u64 (U (r.sepc))) := rfl
@[go_sem] theorem C_get_16 (r : Regs) : (C r)[16]? = some (.int .u64 (U (r.scause))) := rfl
@[go_sem] theorem C_get_17 (r : Regs) : (C r)[17]? = some (.int .u64 (U (r.stval))) := rfl
@[go_sem] theorem C_get_18 (r : Regs) : (C r)[18]? = some (.int .u64 (U (r.sscratch))) := rfl
@[go_sem] theorem C_get_19 (r : Regs) : (C r)[19]? = some (.int .u64 (U (r.scounteren))) := rfl
@[go_sem] theorem C_get_20 (r : Regs) : (C r)[20]? = some (.int .u64 (U (r.satp))) := rfl
@[go_sem] theorem C_get_21 (r : Regs) : (C r)[21]? = some (.int .u64 (U (r.fcsr))) := rfl
@[go_sem] theorem C_get_22 (r : Regs) : (C r)[22]? = some (.int .u8 (U1 (r.c0))) := rfl
@[go_sem] theorem C_get_23 (r : Regs) : (C r)[23]? = some (.int .u8 (U1 (r.c1))) := rfl
@[go_sem] theorem C_get_24 (r : Regs) : (C r)[24]? = some (.int .u8 (U1 (r.c2))) := rfl
@[go_sem] theorem C_get_25 (r : Regs) : (C r)[25]? = some (.int .u8 (U1 (r.c3))) := rfl
@[go_sem] theorem C_get_26 (r : Regs) : (C r)[26]? = some (.int .u8 (U1 (r.c4))) := rfl
@[go_sem] theorem C_get_27 (r : Regs) : (C r)[27]? = some (.int .u8 (U1 (r.c5))) := rfl
@[go_sem] theorem C_get_28 (r : Regs) : (C r)[28]? = some (.int .u8 (U1 (r.c6))) := rfl
@[go_sem] theorem C_get_29 (r : Regs) : (C r)[29]? = some (.int .u8 (U1 (r.c7))) := rfl
@[go_sem] theorem C_get_30 (r : Regs) : (C r)[30]? = some (.int .u64 (U (r.a0))) := rfl
@[go_sem] theorem C_get_31 (r : Regs) : (C r)[31]? = some (.int .u64 (U (r.a1))) := rfl
@[go_sem] theorem C_get_32 (r : Regs) : (C r)[32]? = some (.int .u64 (U (r.a2))) := rfl
@[go_sem] theorem C_get_33 (r : Regs) : (C r)[33]? = some (.int .u64 (U (r.a3))) := rfl
@[go_sem] theorem C_get_34 (r : Regs) : (C r)[34]? = some (.int .u64 (U (r.a4))) := rfl
@[go_sem] theorem C_get_35 (r : Regs) : (C r)[35]? = some (.int .u64 (U (r.a5))) := rfl
@[go_sem] theorem C_get_36 (r : Regs) : (C r)[36]? = some (.int .u64 (U (r.a6))) := rfl
@[go_sem] theorem C_get_37 (r : Regs) : (C r)[37]? = some (.int .u64 (U (r.a7))) := rfl
@[go_sem] theorem C_set_0 (r : Regs) (x : BitVec 64) : (C r).setIfInBounds 0 (.int .u64 (U (x))) = C { r with mstatus := x } := rfl
@[go_sem] theorem C_set_1 (r : Regs) (x : BitVec 64) : (C r).setIfInBounds 1 (.int .u64 (U (x))) = C { r with mtvec := x } := rfl
@[go_sem] theorem C_set_2 (r : Regs) (x : BitVec 64) : (C r).setIfInBounds 2 (.int .u64 (U (x))) = C { r with medeleg := x } := rfl
@[go_sem] theorem C_set_3 (r : Regs) (x : BitVec 64) : (C r).setIfInBounds 3 (.int .u64 (U (x))) = C { r with mideleg := x } := rfl
@[go_sem] theorem C_set_4 (r : Regs) (x : BitVec 64) : (C r).setIfInBounds 4 (.int .u64 (U (x))) = C { r with mie := x } := rfl
@[go_sem] theorem C_set_5 (r : Regs) (x : BitVec 64) : (C r).setIfInBounds 5 (.int .u64 (U (x))) = C { r with mip := x } := rfl
@[go_sem] theorem C_set_6 (r : Regs) (x : BitVec 64) : (C r).setIfInBounds 6 (.int .u64 (U (x))) = C { r with mepc := x } := rfl
@[go_sem] theorem C_set_7 (r : Regs) (x : BitVec 64) : (C r).setIfInBounds 7 (.int .u64 (U (x))) = C { r with mcause := x } := rfl
@[go_sem] theorem C_set_8 (r : Regs) (x : BitVec 64) : (C r).setIfInBounds 8 (.int .u64 (U (x))) = C { r with mtval := x } := rfl
@[go_sem] theorem C_set_9 (r : Regs) (x : BitVec 64) : (C r).setIfInBounds 9 (.int .u64 (U (x))) = C { r with mscratch := x } := rfl
@[go_sem] theorem C_set_10 (r : Regs) (x : BitVec 64) : (C r).setIfInBounds 10 (.int .u64 (U (x))) = C { r with mcounteren := x } := rfl
@[go_sem] theorem C_set_11 (r : Regs) (x : BitVec 64) : (C r).setIfInBounds 11 (.int .u64 (U (x))) = C { r with mcountinhibit := x } := rfl
@[go_sem] theorem C_set_12 (r : Regs) (x : BitVec 64) : (C r).setIfInBounds 12 (.int .u64 (U (x))) = C { r with mcycle := x } := rfl
@[go_sem] theorem C_set_13 (r : Regs) (x : BitVec 64) : (C r).setIfInBounds 13 (.int .u64 (U (x))) = C { r with minstret := x } := rfl
@[go_sem] theorem C_set_14 (r : Regs) (x : BitVec 64) : (C r).setIfInBounds 14 (.int .u64 (U (x))) = C { r with stvec := x } := rfl
@[go_sem] theorem C_set_15 (r : Regs) (x : BitVec 64) : (C r).setIfInBounds 15 (.int .u64 (U (x))) = C { r with sepc := x } := rfl
@[go_sem] theorem C_set_16 (r : Regs) (x : BitVec 64) : (C r).setIfInBounds 16 (.int .u64 (U (x))) = C { r with scause := x } := rfl
@[go_sem] theorem C_set_17 (r : Regs) (x : BitVec 64) : (C r).setIfInBounds 17 (.int .u64 (U (x))) = C { r with stval := x } := rfl
@[go_sem] theorem C_set_18 (r : Regs) (x : BitVec 64) : (C r).setIfInBounds 18 (.int .u64 (U (x))) = C { r with sscratch := x } := rfl
@[go_sem] theorem C_set_19 (r : Regs) (x : BitVec 64) : (C r).setIfInBounds 19 (.int .u64 (U (x))) = C { r with scounteren := x } := rfl
@[go_sem] theorem C_set_20 (r : Regs) (x : BitVec 64) : (C r).setIfInBounds 20 (.int .u64 (U (x))) = C { r with satp := x } := rfl
@[go_sem] theorem C_set_21 (r : Regs) (x : BitVec 64) : (C r).setIfInBounds 21 (.int .u64 (U (x))) = C { r with fcsr := x } := rfl
@[go_sem] theorem C_set_22 (r : Regs) (x : BitVec 8) : (C r).setIfInBounds 22 (.int .u8 (U1 (x))) = C { r with c0 := x } := rfl
@[go_sem] theorem C_set_23 (r : Regs) (x : BitVec 8) : (C r).setIfInBounds 23 (.int .u8 (U1 (x))) = C { r with c1 := x } := rfl
@[go_sem] theorem C_set_24 (r : Regs) (x : BitVec 8) : (C r).setIfInBounds 24 (.int .u8 (U1 (x))) = C { r with c2 := x } := rfl
@[go_sem] theorem C_set_25 (r : Regs) (x : BitVec 8) : (C r).setIfInBounds 25 (.int .u8 (U1 (x))) = C { r with c3 := x } := rfl
@[go_sem] theorem C_set_26 (r : Regs) (x : BitVec 8) : (C r).setIfInBounds 26 (.int .u8 (U1 (x))) = C { r with c4 := x } := rfl
@[go_sem] theorem C_set_27 (r : Regs) (x : BitVec 8) : (C r).setIfInBounds 27 (.int .u8 (U1 (x))) = C { r with c5 := x } := rfl
@[go_sem] theorem C_set_28 (r : Regs) (x : BitVec 8) : (C r).setIfInBounds 28 (.int .u8 (U1 (x))) = C { r with c6 := x } := rfl
@[go_sem] theorem C_set_29 (r : Regs) (x : BitVec 8) : (C r).setIfInBounds 29 (.int .u8 (U1 (x))) = C { r with c7 := x } := rfl
@[go_sem] theorem C_set_30 (r : Regs) (x : BitVec 64) : (C r).setIfInBounds 30 (.int .u64 (U (x))) = C { r with a0 := x } := rfl
@[go_sem] theorem C_set_31 (r : Regs) (x : BitVec 64) : (C r).setIfInBounds 31 (.int .u64 (U (x))) = C { r with a1 := x } := rfl
@[go_sem] theorem C_set_32 (r : Regs) (x : BitVec 64) : (C r).setIfInBounds 32 (.int .u64 (U (x))) = C { r with a2 := x } := rfl
@[go_sem] theorem C_set_33 (r : Regs) (x : BitVec 64) : (C r).setIfInBounds 33 (.int .u64 (U (x))) = C { r with a3 := x } := rfl
@[go_sem] theorem C_set_34 (r : Regs) (x : BitVec 64) : (C r).setIfInBounds 34 (.int .u64 (U (x))) = C { r with a4 := x } := rfl
@[go_sem] theorem C_set_35 (r : Regs) (x : BitVec 64) : (C r).setIfInBounds 35 (.int .u64 (U (x))) = C { r with a5 := x } := rfl
@[go_sem] theorem C_set_36 (r : Regs) (x : BitVec 64) : (C r).setIfInBounds 36 (.int .u64 (U (x))) = C { r with a6 := x } := rfl
@[go_sem] theorem C_set_37 (r : Regs) (x : BitVec 64) : (C r).setIfInBounds 37 (.int .u64 (U (x))) = C { r with a7 := x } := rfl

/-- The eight settings, the eight addresses, as arrays' values. -/
def G (r : Regs) : Array Value := #[.int .u8 (U1 (r.c0)), .int .u8 (U1 (r.c1)), .int .u8 (U1 (r.c2)), .int .u8 (U1 (r.c3)), .int .u8 (U1 (r.c4)), .int .u8 (U1 (r.c5)), .int .u8 (U1 (r.c6)), .int .u8 (U1 (r.c7))]
def A8 (r : Regs) : Array Value := #[.int .u64 (U (r.a0)), .int .u64 (U (r.a1)), .int .u64 (U (r.a2)), .int .u64 (U (r.a3)), .int .u64 (U (r.a4)), .int .u64 (U (r.a5)), .int .u64 (U (r.a6)), .int .u64 (U (r.a7))]
@[go_sem] theorem G_size (r : Regs) : (G r).size = 8 := rfl
@[go_sem] theorem A8_size (r : Regs) : (A8 r).size = 8 := rfl
theorem G_one (r : Regs) : (G r).all (·.oneCell') = true := by simp [G, Value.oneCell']
theorem A8_one (r : Regs) : (A8 r).all (·.oneCell') = true := by simp [A8, Value.oneCell']

@[go_sem] theorem G_get_0 (r : Regs) : (G r)[0]? = some (.int .u8 (U1 (r.c0))) := rfl
@[go_sem] theorem G_set_0 (r : Regs) (x : BitVec 8) : (G r).setIfInBounds 0 (.int .u8 (U1 (x))) = G { r with c0 := x } := rfl
@[go_sem] theorem G_get_1 (r : Regs) : (G r)[1]? = some (.int .u8 (U1 (r.c1))) := rfl
@[go_sem] theorem G_set_1 (r : Regs) (x : BitVec 8) : (G r).setIfInBounds 1 (.int .u8 (U1 (x))) = G { r with c1 := x } := rfl
@[go_sem] theorem G_get_2 (r : Regs) : (G r)[2]? = some (.int .u8 (U1 (r.c2))) := rfl
@[go_sem] theorem G_set_2 (r : Regs) (x : BitVec 8) : (G r).setIfInBounds 2 (.int .u8 (U1 (x))) = G { r with c2 := x } := rfl
@[go_sem] theorem G_get_3 (r : Regs) : (G r)[3]? = some (.int .u8 (U1 (r.c3))) := rfl
@[go_sem] theorem G_set_3 (r : Regs) (x : BitVec 8) : (G r).setIfInBounds 3 (.int .u8 (U1 (x))) = G { r with c3 := x } := rfl
@[go_sem] theorem G_get_4 (r : Regs) : (G r)[4]? = some (.int .u8 (U1 (r.c4))) := rfl
@[go_sem] theorem G_set_4 (r : Regs) (x : BitVec 8) : (G r).setIfInBounds 4 (.int .u8 (U1 (x))) = G { r with c4 := x } := rfl
@[go_sem] theorem G_get_5 (r : Regs) : (G r)[5]? = some (.int .u8 (U1 (r.c5))) := rfl
@[go_sem] theorem G_set_5 (r : Regs) (x : BitVec 8) : (G r).setIfInBounds 5 (.int .u8 (U1 (x))) = G { r with c5 := x } := rfl
@[go_sem] theorem G_get_6 (r : Regs) : (G r)[6]? = some (.int .u8 (U1 (r.c6))) := rfl
@[go_sem] theorem G_set_6 (r : Regs) (x : BitVec 8) : (G r).setIfInBounds 6 (.int .u8 (U1 (x))) = G { r with c6 := x } := rfl
@[go_sem] theorem G_get_7 (r : Regs) : (G r)[7]? = some (.int .u8 (U1 (r.c7))) := rfl
@[go_sem] theorem G_set_7 (r : Regs) (x : BitVec 8) : (G r).setIfInBounds 7 (.int .u8 (U1 (x))) = G { r with c7 := x } := rfl
@[go_sem] theorem A8_get_0 (r : Regs) : (A8 r)[0]? = some (.int .u64 (U (r.a0))) := rfl
@[go_sem] theorem A8_set_0 (r : Regs) (x : BitVec 64) : (A8 r).setIfInBounds 0 (.int .u64 (U (x))) = A8 { r with a0 := x } := rfl
@[go_sem] theorem A8_get_1 (r : Regs) : (A8 r)[1]? = some (.int .u64 (U (r.a1))) := rfl
@[go_sem] theorem A8_set_1 (r : Regs) (x : BitVec 64) : (A8 r).setIfInBounds 1 (.int .u64 (U (x))) = A8 { r with a1 := x } := rfl
@[go_sem] theorem A8_get_2 (r : Regs) : (A8 r)[2]? = some (.int .u64 (U (r.a2))) := rfl
@[go_sem] theorem A8_set_2 (r : Regs) (x : BitVec 64) : (A8 r).setIfInBounds 2 (.int .u64 (U (x))) = A8 { r with a2 := x } := rfl
@[go_sem] theorem A8_get_3 (r : Regs) : (A8 r)[3]? = some (.int .u64 (U (r.a3))) := rfl
@[go_sem] theorem A8_set_3 (r : Regs) (x : BitVec 64) : (A8 r).setIfInBounds 3 (.int .u64 (U (x))) = A8 { r with a3 := x } := rfl
@[go_sem] theorem A8_get_4 (r : Regs) : (A8 r)[4]? = some (.int .u64 (U (r.a4))) := rfl
@[go_sem] theorem A8_set_4 (r : Regs) (x : BitVec 64) : (A8 r).setIfInBounds 4 (.int .u64 (U (x))) = A8 { r with a4 := x } := rfl
@[go_sem] theorem A8_get_5 (r : Regs) : (A8 r)[5]? = some (.int .u64 (U (r.a5))) := rfl
@[go_sem] theorem A8_set_5 (r : Regs) (x : BitVec 64) : (A8 r).setIfInBounds 5 (.int .u64 (U (x))) = A8 { r with a5 := x } := rfl
@[go_sem] theorem A8_get_6 (r : Regs) : (A8 r)[6]? = some (.int .u64 (U (r.a6))) := rfl
@[go_sem] theorem A8_set_6 (r : Regs) (x : BitVec 64) : (A8 r).setIfInBounds 6 (.int .u64 (U (x))) = A8 { r with a6 := x } := rfl
@[go_sem] theorem A8_get_7 (r : Regs) : (A8 r)[7]? = some (.int .u64 (U (r.a7))) := rfl
@[go_sem] theorem A8_set_7 (r : Regs) (x : BitVec 64) : (A8 r).setIfInBounds 7 (.int .u64 (U (x))) = A8 { r with a7 := x } := rfl

theorem C_G (r : Regs) : (C r).extract 22 30 = G r := rfl
theorem C_A8 (r : Regs) : (C r).extract 30 38 = A8 r := rfl
def withG (r s : Regs) : Regs := { r with c0 := s.c0, c1 := s.c1, c2 := s.c2, c3 := s.c3, c4 := s.c4, c5 := s.c5, c6 := s.c6, c7 := s.c7 }
def withA (r s : Regs) : Regs := { r with a0 := s.a0, a1 := s.a1, a2 := s.a2, a3 := s.a3, a4 := s.a4, a5 := s.a5, a6 := s.a6, a7 := s.a7 }
end Go.Proofs.Ytgkajhpmgeofkaa