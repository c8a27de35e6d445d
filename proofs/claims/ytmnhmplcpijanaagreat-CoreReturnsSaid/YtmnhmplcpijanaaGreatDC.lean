/-
  Registers as the document has them. Written by gen_core.py. No condition.
-/
import Derived.Test.YtmnhmplcpijanaaGreatCO
namespace Go.Proofs.YtmnhmplcpijanaaGreat
open Go VX
set_option linter.unusedVariables false
set_option linter.unusedSimpArgs false
set_option maxRecDepth 100000

structure RUn where
  A : Int
  X : Int
  Y : Int
  S : Int
  P : Int
def RUn.enc (s : RUn) : Value := .agg ⟨[.int .i64 s.A, .int .i64 s.X, .int .i64 s.Y, .int .i64 s.S, .int .i64 s.P]⟩
def RUn.blk (s : RUn) : Blk := ⟨[.one (.int .i64 s.A), .one (.int .i64 s.X), .one (.int .i64 s.Y), .one (.int .i64 s.S), .one (.int .i64 s.P)], 50, false⟩
def RUn.cells (s : RUn) : List Value := [.int .i64 s.A, .int .i64 s.X, .int .i64 s.Y, .int .i64 s.S, .int .i64 s.P]

structure RRegs where
  U : RUn
  PC : Int
def RRegs.enc (s : RRegs) : Value := .agg ⟨[.int .i64 s.U.A, .int .i64 s.U.X, .int .i64 s.U.Y, .int .i64 s.U.S, .int .i64 s.U.P, .int .i64 s.PC]⟩
def RRegs.blk (s : RRegs) : Blk := ⟨[.one (.int .i64 s.U.A), .one (.int .i64 s.U.X), .one (.int .i64 s.U.Y), .one (.int .i64 s.U.S), .one (.int .i64 s.U.P), .one (.int .i64 s.PC)], 52, false⟩
def RRegs.cells (s : RRegs) : List Value := [.int .i64 s.U.A, .int .i64 s.U.X, .int .i64 s.U.Y, .int .i64 s.U.S, .int .i64 s.U.P, .int .i64 s.PC]

/-- kotatsu/kotatsuref08.Has -/
def rHas_1 (p : Int) : Int :=
  (Int.tmod (IntKind.i64.wrap (Int.tdiv p 1)) 2)
theorem rHas_1_ok (p : Int) : FnSpec Tryz.prog 27 1000 [.int .i64 p, .int .i64 1] [] (.int .i64 (rHas_1 p)) [] := by
  unfold rHas_1
  exact fn_of_x hG hM Tryz.func27 (by kernel_rfl) (by kernel_rfl) 400 [] (J (by decide : ((1 : Int) ≠ 0)) (J (by decide : ((2 : Int) ≠ 0)) trivial)) (by kernel_rfl)

/-- kotatsu/kotatsuref08.Has -/
def rHas_2 (p : Int) : Int :=
  (Int.tmod (IntKind.i64.wrap (Int.tdiv p 2)) 2)
theorem rHas_2_ok (p : Int) : FnSpec Tryz.prog 27 1000 [.int .i64 p, .int .i64 2] [] (.int .i64 (rHas_2 p)) [] := by
  unfold rHas_2
  exact fn_of_x hG hM Tryz.func27 (by kernel_rfl) (by kernel_rfl) 400 [] (J (by decide : ((2 : Int) ≠ 0)) (J (by decide : ((2 : Int) ≠ 0)) trivial)) (by kernel_rfl)

/-- kotatsu/kotatsuref08.Has -/
def rHas_4 (p : Int) : Int :=
  (Int.tmod (IntKind.i64.wrap (Int.tdiv p 4)) 2)
theorem rHas_4_ok (p : Int) : FnSpec Tryz.prog 27 1000 [.int .i64 p, .int .i64 4] [] (.int .i64 (rHas_4 p)) [] := by
  unfold rHas_4
  exact fn_of_x hG hM Tryz.func27 (by kernel_rfl) (by kernel_rfl) 400 [] (J (by decide : ((4 : Int) ≠ 0)) (J (by decide : ((2 : Int) ≠ 0)) trivial)) (by kernel_rfl)

/-- kotatsu/kotatsuref08.Has -/
def rHas_8 (p : Int) : Int :=
  (Int.tmod (IntKind.i64.wrap (Int.tdiv p 8)) 2)
theorem rHas_8_ok (p : Int) : FnSpec Tryz.prog 27 1000 [.int .i64 p, .int .i64 8] [] (.int .i64 (rHas_8 p)) [] := by
  unfold rHas_8
  exact fn_of_x hG hM Tryz.func27 (by kernel_rfl) (by kernel_rfl) 400 [] (J (by decide : ((8 : Int) ≠ 0)) (J (by decide : ((2 : Int) ≠ 0)) trivial)) (by kernel_rfl)

/-- kotatsu/kotatsuref08.Has -/
def rHas_16 (p : Int) : Int :=
  (Int.tmod (IntKind.i64.wrap (Int.tdiv p 16)) 2)
theorem rHas_16_ok (p : Int) : FnSpec Tryz.prog 27 1000 [.int .i64 p, .int .i64 16] [] (.int .i64 (rHas_16 p)) [] := by
  unfold rHas_16
  exact fn_of_x hG hM Tryz.func27 (by kernel_rfl) (by kernel_rfl) 400 [] (J (by decide : ((16 : Int) ≠ 0)) (J (by decide : ((2 : Int) ≠ 0)) trivial)) (by kernel_rfl)

/-- kotatsu/kotatsuref08.Has -/
def rHas_32 (p : Int) : Int :=
  (Int.tmod (IntKind.i64.wrap (Int.tdiv p 32)) 2)
theorem rHas_32_ok (p : Int) : FnSpec Tryz.prog 27 1000 [.int .i64 p, .int .i64 32] [] (.int .i64 (rHas_32 p)) [] := by
  unfold rHas_32
  exact fn_of_x hG hM Tryz.func27 (by kernel_rfl) (by kernel_rfl) 400 [] (J (by decide : ((32 : Int) ≠ 0)) (J (by decide : ((2 : Int) ≠ 0)) trivial)) (by kernel_rfl)

/-- kotatsu/kotatsuref08.Has -/
def rHas_64 (p : Int) : Int :=
  (Int.tmod (IntKind.i64.wrap (Int.tdiv p 64)) 2)
theorem rHas_64_ok (p : Int) : FnSpec Tryz.prog 27 1000 [.int .i64 p, .int .i64 64] [] (.int .i64 (rHas_64 p)) [] := by
  unfold rHas_64
  exact fn_of_x hG hM Tryz.func27 (by kernel_rfl) (by kernel_rfl) 400 [] (J (by decide : ((64 : Int) ≠ 0)) (J (by decide : ((2 : Int) ≠ 0)) trivial)) (by kernel_rfl)

/-- kotatsu/kotatsuref08.Has -/
def rHas_128 (p : Int) : Int :=
  (Int.tmod (IntKind.i64.wrap (Int.tdiv p 128)) 2)
theorem rHas_128_ok (p : Int) : FnSpec Tryz.prog 27 1000 [.int .i64 p, .int .i64 128] [] (.int .i64 (rHas_128 p)) [] := by
  unfold rHas_128
  exact fn_of_x hG hM Tryz.func27 (by kernel_rfl) (by kernel_rfl) 400 [] (J (by decide : ((128 : Int) ≠ 0)) (J (by decide : ((2 : Int) ≠ 0)) trivial)) (by kernel_rfl)

/-- kotatsu/kotatsuref10.Flags -/
def rFlags (p : Int) : Int :=
  (IntKind.i64.wrap ((IntKind.i64.wrap (p - (IntKind.i64.wrap ((rHas_16 p) * 16)))) + (IntKind.i64.wrap ((IntKind.i64.wrap (1 - (rHas_32 p))) * 32))))
theorem rFlags_ok (p : Int) : FnSpec Tryz.prog 41 1000 [.int .i64 p] [] (.int .i64 (rFlags p)) [] := by
  unfold rFlags
  exact fn_of_x hG hM Tryz.func41 (by kernel_rfl) (by kernel_rfl) 400 [.call [] [] 1000 (.int .i64 (rHas_16 p)) [], .call [] [] 1000 (.int .i64 (rHas_32 p)) []] (J (rHas_16_ok p) (J (rHas_32_ok p) trivial)) (by kernel_rfl)

/-- kotatsu/kotatsulaw10.own -/
def own (r : Regs) : RRegs :=
  ({ U := ({ A := (IntKind.i64.wrap r.U.A), X := (IntKind.i64.wrap r.U.X), Y := (IntKind.i64.wrap r.U.Y), S := (IntKind.i64.wrap r.U.S), P := (rFlags (IntKind.i64.wrap r.U.P)) } : RUn), PC := (IntKind.i64.wrap r.PC) } : RRegs)
theorem own_ok (r : Regs) : FnSpec Tryz.prog 21 1000 [Regs.enc r] [] (RRegs.enc (own r)) [] := by
  unfold own
  exact fn_of_x hG hM Tryz.func21 (by kernel_rfl) (by kernel_rfl) 400 [.call [] [] 1000 (.int .i64 (rFlags (IntKind.i64.wrap r.U.P))) []] (J (rFlags_ok (IntKind.i64.wrap r.U.P)) trivial) (by kernel_rfl)

/-- kotatsu/kotatsuref08.Set -/
def rSet_1 (u : RUn) (on : Int) : RUn :=
  ({ u with P := (IntKind.i64.wrap (u.P + (IntKind.i64.wrap ((IntKind.i64.wrap (on - (rHas_1 u.P))) * 1)))) } : RUn)
theorem rSet_1_ok (u : RUn) (on : Int) : FnSpec Tryz.prog 29 1000 [RUn.enc u, .int .i64 1, .int .i64 on] [] (RUn.enc (rSet_1 u on)) [] := by
  unfold rSet_1
  exact fn_of_x hG hM Tryz.func29 (by kernel_rfl) (by kernel_rfl) 400 [.call [] [] 1000 (.int .i64 (rHas_1 u.P)) []] (J (rHas_1_ok u.P) trivial) (by kernel_rfl)

/-- kotatsu/kotatsuref08.Set -/
def rSet_2 (u : RUn) (on : Int) : RUn :=
  ({ u with P := (IntKind.i64.wrap (u.P + (IntKind.i64.wrap ((IntKind.i64.wrap (on - (rHas_2 u.P))) * 2)))) } : RUn)
theorem rSet_2_ok (u : RUn) (on : Int) : FnSpec Tryz.prog 29 1000 [RUn.enc u, .int .i64 2, .int .i64 on] [] (RUn.enc (rSet_2 u on)) [] := by
  unfold rSet_2
  exact fn_of_x hG hM Tryz.func29 (by kernel_rfl) (by kernel_rfl) 400 [.call [] [] 1000 (.int .i64 (rHas_2 u.P)) []] (J (rHas_2_ok u.P) trivial) (by kernel_rfl)

/-- kotatsu/kotatsuref08.Set -/
def rSet_4 (u : RUn) (on : Int) : RUn :=
  ({ u with P := (IntKind.i64.wrap (u.P + (IntKind.i64.wrap ((IntKind.i64.wrap (on - (rHas_4 u.P))) * 4)))) } : RUn)
theorem rSet_4_ok (u : RUn) (on : Int) : FnSpec Tryz.prog 29 1000 [RUn.enc u, .int .i64 4, .int .i64 on] [] (RUn.enc (rSet_4 u on)) [] := by
  unfold rSet_4
  exact fn_of_x hG hM Tryz.func29 (by kernel_rfl) (by kernel_rfl) 400 [.call [] [] 1000 (.int .i64 (rHas_4 u.P)) []] (J (rHas_4_ok u.P) trivial) (by kernel_rfl)

/-- kotatsu/kotatsuref08.Set -/
def rSet_8 (u : RUn) (on : Int) : RUn :=
  ({ u with P := (IntKind.i64.wrap (u.P + (IntKind.i64.wrap ((IntKind.i64.wrap (on - (rHas_8 u.P))) * 8)))) } : RUn)
theorem rSet_8_ok (u : RUn) (on : Int) : FnSpec Tryz.prog 29 1000 [RUn.enc u, .int .i64 8, .int .i64 on] [] (RUn.enc (rSet_8 u on)) [] := by
  unfold rSet_8
  exact fn_of_x hG hM Tryz.func29 (by kernel_rfl) (by kernel_rfl) 400 [.call [] [] 1000 (.int .i64 (rHas_8 u.P)) []] (J (rHas_8_ok u.P) trivial) (by kernel_rfl)

/-- kotatsu/kotatsuref08.Set -/
def rSet_64 (u : RUn) (on : Int) : RUn :=
  ({ u with P := (IntKind.i64.wrap (u.P + (IntKind.i64.wrap ((IntKind.i64.wrap (on - (rHas_64 u.P))) * 64)))) } : RUn)
theorem rSet_64_ok (u : RUn) (on : Int) : FnSpec Tryz.prog 29 1000 [RUn.enc u, .int .i64 64, .int .i64 on] [] (RUn.enc (rSet_64 u on)) [] := by
  unfold rSet_64
  exact fn_of_x hG hM Tryz.func29 (by kernel_rfl) (by kernel_rfl) 400 [.call [] [] 1000 (.int .i64 (rHas_64 u.P)) []] (J (rHas_64_ok u.P) trivial) (by kernel_rfl)

/-- kotatsu/kotatsuref08.Set -/
def rSet_128 (u : RUn) (on : Int) : RUn :=
  ({ u with P := (IntKind.i64.wrap (u.P + (IntKind.i64.wrap ((IntKind.i64.wrap (on - (rHas_128 u.P))) * 128)))) } : RUn)
theorem rSet_128_ok (u : RUn) (on : Int) : FnSpec Tryz.prog 29 1000 [RUn.enc u, .int .i64 128, .int .i64 on] [] (RUn.enc (rSet_128 u on)) [] := by
  unfold rSet_128
  exact fn_of_x hG hM Tryz.func29 (by kernel_rfl) (by kernel_rfl) 400 [.call [] [] 1000 (.int .i64 (rHas_128 u.P)) []] (J (rHas_128_ok u.P) trivial) (by kernel_rfl)

/-- kotatsu/kotatsuref08.yes -/
def rYes (is : Bool) : Int :=
  if is = true then
    1
  else
    0
theorem rYes_ok (is : Bool) : FnSpec Tryz.prog 42 1000 [.bool is] [] (.int .i64 (rYes is)) [] := by
  unfold rYes
  rcases bt is with c1 | c1
  · rw [if_pos c1]
    exact fn_of_x hG hM Tryz.func42 (by kernel_rfl) (by kernel_rfl) 400 [.yes] (J c1 trivial) (by kernel_rfl)
  · rw [if_neg (nt c1)]
    exact fn_of_x hG hM Tryz.func42 (by kernel_rfl) (by kernel_rfl) 400 [.no] (J c1 trivial) (by kernel_rfl)

/-- kotatsu/kotatsuref08.Sign -/
def rSign (u : RUn) (m : Int) : RUn :=
  (rSet_2 (rSet_128 u (IntKind.i64.wrap (Int.tdiv m 128))) (rYes ((m : Int) == 0)))
theorem rSign_ok (u : RUn) (m : Int) : FnSpec Tryz.prog 22 1000 [RUn.enc u, .int .i64 m] [] (RUn.enc (rSign u m)) [] := by
  unfold rSign
  exact fn_of_x hG hM Tryz.func22 (by kernel_rfl) (by kernel_rfl) 400 [.call [] [] 1000 (RUn.enc (rSet_128 u (IntKind.i64.wrap (Int.tdiv m 128)))) [], .call [] [] 1000 (.int .i64 (rYes ((m : Int) == 0))) [], .call [] [] 1000 (RUn.enc (rSet_2 (rSet_128 u (IntKind.i64.wrap (Int.tdiv m 128))) (rYes ((m : Int) == 0)))) []] (J (by decide : ((128 : Int) ≠ 0)) (J (rSet_128_ok u (IntKind.i64.wrap (Int.tdiv m 128))) (J (rYes_ok ((m : Int) == 0)) (J (rSet_2_ok (rSet_128 u (IntKind.i64.wrap (Int.tdiv m 128))) (rYes ((m : Int) == 0))) trivial)))) (by kernel_rfl)

end Go.Proofs.YtmnhmplcpijanaaGreat
