/-
  The functions of layer 8, of the reference, by names. Written by gen_alu.py. No condition.
-/
import Derived.Test.YtfjeifmenlnkkaaAA
namespace Go.Proofs.Ytfjeifmenlnkkaa
open Go VX
set_option linter.unusedVariables false
set_option maxRecDepth 100000

/-- kotatsu/kotatsuref08.Has -/
def rHas (p : Int) (fl : Int) : Int :=
  (Int.tmod (IntKind.i64.wrap (Int.tdiv p fl)) 2)
theorem rHas_p1 (p : Int) (fl : Int) (hf : (fl : Int) ≠ 0) : FnSpec Try.prog 38 1000 [.int .i64 p, .int .i64 fl] [] (.int .i64 (Int.tmod (IntKind.i64.wrap (Int.tdiv p fl)) 2)) [] := by
  have o1 : fl ≠ 0 := by first | decide | omega
  exact fn_of_x hG hM Try.func38 (by kernel_rfl) (by kernel_rfl) 400 [] (And.intro o1 (And.intro (by decide : ((2 : Int) ≠ 0)) trivial)) (by kernel_rfl)
theorem rHas_ok (p : Int) (fl : Int) (hf : (fl : Int) ≠ 0) : FnSpec Try.prog 38 1000 [.int .i64 p, .int .i64 fl] [] (.int .i64 (rHas p fl)) [] := by
  exact rHas_p1 p fl hf

/-- kotatsu/kotatsuref08.Set -/
def rSet (u : RUnit) (fl : Int) (on : Int) : RUnit :=
  ({ A := u.A, X := u.X, Y := u.Y, S := u.S, P := (IntKind.i64.wrap (u.P + (IntKind.i64.wrap ((IntKind.i64.wrap (on - (rHas u.P fl))) * fl)))) } : RUnit)
theorem rSet_p1 (u : RUnit) (fl : Int) (on : Int) (hf : (fl : Int) ≠ 0) : FnSpec Try.prog 37 1000 [RUnit.enc u, .int .i64 fl, .int .i64 on] [] (RUnit.enc ({ A := u.A, X := u.X, Y := u.Y, S := u.S, P := (IntKind.i64.wrap (u.P + (IntKind.i64.wrap ((IntKind.i64.wrap (on - (rHas u.P fl))) * fl)))) } : RUnit)) [] := by
  have o1 : (fl : Int) ≠ 0 := by first | decide | omega
  exact fn_of_x hG hM Try.func37 (by kernel_rfl) (by kernel_rfl) 400 [.call [] [] 1000 (.int .i64 (rHas u.P fl)) []] (And.intro (rHas_ok u.P fl o1) trivial) (by kernel_rfl)
theorem rSet_ok (u : RUnit) (fl : Int) (on : Int) (hf : (fl : Int) ≠ 0) : FnSpec Try.prog 37 1000 [RUnit.enc u, .int .i64 fl, .int .i64 on] [] (RUnit.enc (rSet u fl on)) [] := by
  exact rSet_p1 u fl on hf

/-- kotatsu/kotatsuref08.yes -/
def rYes (b : Bool) : Int :=
  if b = true then
    1
  else
    0
theorem rYes_p1 (b : Bool) (c1 : b = true) : FnSpec Try.prog 39 1000 [.bool b] [] (.int .i64 1) [] := by
  exact fn_of_x hG hM Try.func39 (by kernel_rfl) (by kernel_rfl) 400 [.yes] (And.intro c1 trivial) (by kernel_rfl)
theorem rYes_p2 (b : Bool) (c1 : b = false) : FnSpec Try.prog 39 1000 [.bool b] [] (.int .i64 0) [] := by
  exact fn_of_x hG hM Try.func39 (by kernel_rfl) (by kernel_rfl) 400 [.no] (And.intro c1 trivial) (by kernel_rfl)
theorem rYes_ok (b : Bool) : FnSpec Try.prog 39 1000 [.bool b] [] (.int .i64 (rYes b)) [] := by
  rcases bt b with c1 | c1
  ·
    have e : rYes b = 1 := by unfold rYes; rw [if_pos c1]
    rw [e]
    exact rYes_p1 b c1
  ·
    have e : rYes b = 0 := by unfold rYes; rw [if_neg (nt c1)]
    rw [e]
    exact rYes_p2 b c1

/-- kotatsu/kotatsuref08.Sign -/
def rSign (u : RUnit) (m : Int) : RUnit :=
  (rSet (rSet u 128 (IntKind.i64.wrap (Int.tdiv m 128))) 2 (rYes ((m : Int) == 0)))
theorem rSign_p1 (u : RUnit) (m : Int) : FnSpec Try.prog 36 1000 [RUnit.enc u, .int .i64 m] [] (RUnit.enc (rSet (rSet u 128 (IntKind.i64.wrap (Int.tdiv m 128))) 2 (rYes ((m : Int) == 0)))) [] := by
  have o1 : (128 : Int) ≠ 0 := by first | decide | omega
  have o2 : (2 : Int) ≠ 0 := by first | decide | omega
  exact fn_of_x hG hM Try.func36 (by kernel_rfl) (by kernel_rfl) 400 [.call [] [] 1000 (RUnit.enc (rSet u 128 (IntKind.i64.wrap (Int.tdiv m 128)))) [], .call [] [] 1000 (.int .i64 (rYes ((m : Int) == 0))) [], .call [] [] 1000 (RUnit.enc (rSet (rSet u 128 (IntKind.i64.wrap (Int.tdiv m 128))) 2 (rYes ((m : Int) == 0)))) []] (And.intro (by decide : ((128 : Int) ≠ 0)) (And.intro (rSet_ok u 128 (IntKind.i64.wrap (Int.tdiv m 128)) o1) (And.intro (rYes_ok ((m : Int) == 0)) (And.intro (rSet_ok (rSet u 128 (IntKind.i64.wrap (Int.tdiv m 128))) 2 (rYes ((m : Int) == 0)) o2) trivial)))) (by kernel_rfl)
theorem rSign_ok (u : RUnit) (m : Int) : FnSpec Try.prog 36 1000 [RUnit.enc u, .int .i64 m] [] (RUnit.enc (rSign u m)) [] := by
  exact rSign_p1 u m

/-- kotatsu/kotatsuref08.signed -/
def rSigned (m : Int) : Int :=
  if (decide ((m : Int) > 127)) = true then
    (IntKind.i64.wrap (m - 256))
  else
    m
theorem rSigned_p1 (m : Int) (c1 : (decide ((m : Int) > 127)) = true) : FnSpec Try.prog 59 1000 [.int .i64 m] [] (.int .i64 (IntKind.i64.wrap (m - 256))) [] := by
  exact fn_of_x hG hM Try.func59 (by kernel_rfl) (by kernel_rfl) 400 [.yes] (And.intro c1 trivial) (by kernel_rfl)
theorem rSigned_p2 (m : Int) (c1 : (decide ((m : Int) > 127)) = false) : FnSpec Try.prog 59 1000 [.int .i64 m] [] (.int .i64 m) [] := by
  exact fn_of_x hG hM Try.func59 (by kernel_rfl) (by kernel_rfl) 400 [.no] (And.intro c1 trivial) (by kernel_rfl)
theorem rSigned_ok (m : Int) : FnSpec Try.prog 59 1000 [.int .i64 m] [] (.int .i64 (rSigned m)) [] := by
  rcases bt (decide ((m : Int) > 127)) with c1 | c1
  ·
    have e : rSigned m = (IntKind.i64.wrap (m - 256)) := by unfold rSigned; rw [if_pos c1]
    rw [e]
    exact rSigned_p1 m c1
  ·
    have e : rSigned m = m := by unfold rSigned; rw [if_neg (nt c1)]
    rw [e]
    exact rSigned_p2 m c1

/-- kotatsu/kotatsuref08.add -/
def rAdd (u : RUnit) (m : Int) : RUnit :=
  if (decide (((IntKind.i64.wrap ((IntKind.i64.wrap ((rSigned u.A) + (rSigned m))) + (rHas u.P 1))) : Int) < (-128))) = true then
    (rSign ({ A := (Int.tmod (IntKind.i64.wrap ((IntKind.i64.wrap (u.A + m)) + (rHas u.P 1))) 256), X := (rSet (rSet u 1 (IntKind.i64.wrap (Int.tdiv (IntKind.i64.wrap ((IntKind.i64.wrap (u.A + m)) + (rHas u.P 1))) 256))) 64 1).X, Y := (rSet (rSet u 1 (IntKind.i64.wrap (Int.tdiv (IntKind.i64.wrap ((IntKind.i64.wrap (u.A + m)) + (rHas u.P 1))) 256))) 64 1).Y, S := (rSet (rSet u 1 (IntKind.i64.wrap (Int.tdiv (IntKind.i64.wrap ((IntKind.i64.wrap (u.A + m)) + (rHas u.P 1))) 256))) 64 1).S, P := (rSet (rSet u 1 (IntKind.i64.wrap (Int.tdiv (IntKind.i64.wrap ((IntKind.i64.wrap (u.A + m)) + (rHas u.P 1))) 256))) 64 1).P } : RUnit) (Int.tmod (IntKind.i64.wrap ((IntKind.i64.wrap (u.A + m)) + (rHas u.P 1))) 256))
  else
    (rSign ({ A := (Int.tmod (IntKind.i64.wrap ((IntKind.i64.wrap (u.A + m)) + (rHas u.P 1))) 256), X := (rSet (rSet u 1 (IntKind.i64.wrap (Int.tdiv (IntKind.i64.wrap ((IntKind.i64.wrap (u.A + m)) + (rHas u.P 1))) 256))) 64 (rYes (decide (((IntKind.i64.wrap ((IntKind.i64.wrap ((rSigned u.A) + (rSigned m))) + (rHas u.P 1))) : Int) > 127)))).X, Y := (rSet (rSet u 1 (IntKind.i64.wrap (Int.tdiv (IntKind.i64.wrap ((IntKind.i64.wrap (u.A + m)) + (rHas u.P 1))) 256))) 64 (rYes (decide (((IntKind.i64.wrap ((IntKind.i64.wrap ((rSigned u.A) + (rSigned m))) + (rHas u.P 1))) : Int) > 127)))).Y, S := (rSet (rSet u 1 (IntKind.i64.wrap (Int.tdiv (IntKind.i64.wrap ((IntKind.i64.wrap (u.A + m)) + (rHas u.P 1))) 256))) 64 (rYes (decide (((IntKind.i64.wrap ((IntKind.i64.wrap ((rSigned u.A) + (rSigned m))) + (rHas u.P 1))) : Int) > 127)))).S, P := (rSet (rSet u 1 (IntKind.i64.wrap (Int.tdiv (IntKind.i64.wrap ((IntKind.i64.wrap (u.A + m)) + (rHas u.P 1))) 256))) 64 (rYes (decide (((IntKind.i64.wrap ((IntKind.i64.wrap ((rSigned u.A) + (rSigned m))) + (rHas u.P 1))) : Int) > 127)))).P } : RUnit) (Int.tmod (IntKind.i64.wrap ((IntKind.i64.wrap (u.A + m)) + (rHas u.P 1))) 256))
theorem rAdd_p1 (u : RUnit) (m : Int) (c1 : (decide (((IntKind.i64.wrap ((IntKind.i64.wrap ((rSigned u.A) + (rSigned m))) + (rHas u.P 1))) : Int) < (-128))) = true) : FnSpec Try.prog 34 1000 [RUnit.enc u, .int .i64 m] [] (RUnit.enc (rSign ({ A := (Int.tmod (IntKind.i64.wrap ((IntKind.i64.wrap (u.A + m)) + (rHas u.P 1))) 256), X := (rSet (rSet u 1 (IntKind.i64.wrap (Int.tdiv (IntKind.i64.wrap ((IntKind.i64.wrap (u.A + m)) + (rHas u.P 1))) 256))) 64 1).X, Y := (rSet (rSet u 1 (IntKind.i64.wrap (Int.tdiv (IntKind.i64.wrap ((IntKind.i64.wrap (u.A + m)) + (rHas u.P 1))) 256))) 64 1).Y, S := (rSet (rSet u 1 (IntKind.i64.wrap (Int.tdiv (IntKind.i64.wrap ((IntKind.i64.wrap (u.A + m)) + (rHas u.P 1))) 256))) 64 1).S, P := (rSet (rSet u 1 (IntKind.i64.wrap (Int.tdiv (IntKind.i64.wrap ((IntKind.i64.wrap (u.A + m)) + (rHas u.P 1))) 256))) 64 1).P } : RUnit) (Int.tmod (IntKind.i64.wrap ((IntKind.i64.wrap (u.A + m)) + (rHas u.P 1))) 256))) [] := by
  have o1 : (1 : Int) ≠ 0 := by first | decide | omega
  have o2 : (1 : Int) ≠ 0 := by first | decide | omega
  have o3 : (1 : Int) ≠ 0 := by first | decide | omega
  have o4 : (64 : Int) ≠ 0 := by first | decide | omega
  exact fn_of_x hG hM Try.func34 (by kernel_rfl) (by kernel_rfl) 400 [.call [] [] 1000 (.int .i64 (rHas u.P 1)) [], .call [] [] 1000 (.int .i64 (rSigned u.A)) [], .call [] [] 1000 (.int .i64 (rSigned m)) [], .call [] [] 1000 (.int .i64 (rHas u.P 1)) [], .call [] [] 1000 (RUnit.enc (rSet u 1 (IntKind.i64.wrap (Int.tdiv (IntKind.i64.wrap ((IntKind.i64.wrap (u.A + m)) + (rHas u.P 1))) 256)))) [], .yes, .yes, .yes, .call [] [] 1000 (.int .i64 1) [], .call [] [] 1000 (RUnit.enc (rSet (rSet u 1 (IntKind.i64.wrap (Int.tdiv (IntKind.i64.wrap ((IntKind.i64.wrap (u.A + m)) + (rHas u.P 1))) 256))) 64 1)) [], .call [] [] 1000 (RUnit.enc (rSign ({ A := (Int.tmod (IntKind.i64.wrap ((IntKind.i64.wrap (u.A + m)) + (rHas u.P 1))) 256), X := (rSet (rSet u 1 (IntKind.i64.wrap (Int.tdiv (IntKind.i64.wrap ((IntKind.i64.wrap (u.A + m)) + (rHas u.P 1))) 256))) 64 1).X, Y := (rSet (rSet u 1 (IntKind.i64.wrap (Int.tdiv (IntKind.i64.wrap ((IntKind.i64.wrap (u.A + m)) + (rHas u.P 1))) 256))) 64 1).Y, S := (rSet (rSet u 1 (IntKind.i64.wrap (Int.tdiv (IntKind.i64.wrap ((IntKind.i64.wrap (u.A + m)) + (rHas u.P 1))) 256))) 64 1).S, P := (rSet (rSet u 1 (IntKind.i64.wrap (Int.tdiv (IntKind.i64.wrap ((IntKind.i64.wrap (u.A + m)) + (rHas u.P 1))) 256))) 64 1).P } : RUnit) (Int.tmod (IntKind.i64.wrap ((IntKind.i64.wrap (u.A + m)) + (rHas u.P 1))) 256))) []] (And.intro (rHas_ok u.P 1 o1) (And.intro (rSigned_ok u.A) (And.intro (rSigned_ok m) (And.intro (rHas_ok u.P 1 o2) (And.intro (by decide : ((256 : Int) ≠ 0)) (And.intro (rSet_ok u 1 (IntKind.i64.wrap (Int.tdiv (IntKind.i64.wrap ((IntKind.i64.wrap (u.A + m)) + (rHas u.P 1))) 256)) o3) (And.intro c1 (And.intro c1 (And.intro c1 (And.intro (rYes_ok true) (And.intro (rSet_ok (rSet u 1 (IntKind.i64.wrap (Int.tdiv (IntKind.i64.wrap ((IntKind.i64.wrap (u.A + m)) + (rHas u.P 1))) 256))) 64 1 o4) (And.intro (by decide : ((256 : Int) ≠ 0)) (And.intro (rSign_ok ({ A := (Int.tmod (IntKind.i64.wrap ((IntKind.i64.wrap (u.A + m)) + (rHas u.P 1))) 256), X := (rSet (rSet u 1 (IntKind.i64.wrap (Int.tdiv (IntKind.i64.wrap ((IntKind.i64.wrap (u.A + m)) + (rHas u.P 1))) 256))) 64 1).X, Y := (rSet (rSet u 1 (IntKind.i64.wrap (Int.tdiv (IntKind.i64.wrap ((IntKind.i64.wrap (u.A + m)) + (rHas u.P 1))) 256))) 64 1).Y, S := (rSet (rSet u 1 (IntKind.i64.wrap (Int.tdiv (IntKind.i64.wrap ((IntKind.i64.wrap (u.A + m)) + (rHas u.P 1))) 256))) 64 1).S, P := (rSet (rSet u 1 (IntKind.i64.wrap (Int.tdiv (IntKind.i64.wrap ((IntKind.i64.wrap (u.A + m)) + (rHas u.P 1))) 256))) 64 1).P } : RUnit) (Int.tmod (IntKind.i64.wrap ((IntKind.i64.wrap (u.A + m)) + (rHas u.P 1))) 256)) trivial))))))))))))) (by kernel_rfl)
theorem rAdd_p2 (u : RUnit) (m : Int) (c1 : (decide (((IntKind.i64.wrap ((IntKind.i64.wrap ((rSigned u.A) + (rSigned m))) + (rHas u.P 1))) : Int) < (-128))) = false) : FnSpec Try.prog 34 1000 [RUnit.enc u, .int .i64 m] [] (RUnit.enc (rSign ({ A := (Int.tmod (IntKind.i64.wrap ((IntKind.i64.wrap (u.A + m)) + (rHas u.P 1))) 256), X := (rSet (rSet u 1 (IntKind.i64.wrap (Int.tdiv (IntKind.i64.wrap ((IntKind.i64.wrap (u.A + m)) + (rHas u.P 1))) 256))) 64 (rYes (decide (((IntKind.i64.wrap ((IntKind.i64.wrap ((rSigned u.A) + (rSigned m))) + (rHas u.P 1))) : Int) > 127)))).X, Y := (rSet (rSet u 1 (IntKind.i64.wrap (Int.tdiv (IntKind.i64.wrap ((IntKind.i64.wrap (u.A + m)) + (rHas u.P 1))) 256))) 64 (rYes (decide (((IntKind.i64.wrap ((IntKind.i64.wrap ((rSigned u.A) + (rSigned m))) + (rHas u.P 1))) : Int) > 127)))).Y, S := (rSet (rSet u 1 (IntKind.i64.wrap (Int.tdiv (IntKind.i64.wrap ((IntKind.i64.wrap (u.A + m)) + (rHas u.P 1))) 256))) 64 (rYes (decide (((IntKind.i64.wrap ((IntKind.i64.wrap ((rSigned u.A) + (rSigned m))) + (rHas u.P 1))) : Int) > 127)))).S, P := (rSet (rSet u 1 (IntKind.i64.wrap (Int.tdiv (IntKind.i64.wrap ((IntKind.i64.wrap (u.A + m)) + (rHas u.P 1))) 256))) 64 (rYes (decide (((IntKind.i64.wrap ((IntKind.i64.wrap ((rSigned u.A) + (rSigned m))) + (rHas u.P 1))) : Int) > 127)))).P } : RUnit) (Int.tmod (IntKind.i64.wrap ((IntKind.i64.wrap (u.A + m)) + (rHas u.P 1))) 256))) [] := by
  have o1 : (1 : Int) ≠ 0 := by first | decide | omega
  have o2 : (1 : Int) ≠ 0 := by first | decide | omega
  have o3 : (1 : Int) ≠ 0 := by first | decide | omega
  have o4 : (64 : Int) ≠ 0 := by first | decide | omega
  exact fn_of_x hG hM Try.func34 (by kernel_rfl) (by kernel_rfl) 400 [.call [] [] 1000 (.int .i64 (rHas u.P 1)) [], .call [] [] 1000 (.int .i64 (rSigned u.A)) [], .call [] [] 1000 (.int .i64 (rSigned m)) [], .call [] [] 1000 (.int .i64 (rHas u.P 1)) [], .call [] [] 1000 (RUnit.enc (rSet u 1 (IntKind.i64.wrap (Int.tdiv (IntKind.i64.wrap ((IntKind.i64.wrap (u.A + m)) + (rHas u.P 1))) 256)))) [], .no, .no, .no, .call [] [] 1000 (.int .i64 (rYes (decide (((IntKind.i64.wrap ((IntKind.i64.wrap ((rSigned u.A) + (rSigned m))) + (rHas u.P 1))) : Int) > 127)))) [], .call [] [] 1000 (RUnit.enc (rSet (rSet u 1 (IntKind.i64.wrap (Int.tdiv (IntKind.i64.wrap ((IntKind.i64.wrap (u.A + m)) + (rHas u.P 1))) 256))) 64 (rYes (decide (((IntKind.i64.wrap ((IntKind.i64.wrap ((rSigned u.A) + (rSigned m))) + (rHas u.P 1))) : Int) > 127))))) [], .call [] [] 1000 (RUnit.enc (rSign ({ A := (Int.tmod (IntKind.i64.wrap ((IntKind.i64.wrap (u.A + m)) + (rHas u.P 1))) 256), X := (rSet (rSet u 1 (IntKind.i64.wrap (Int.tdiv (IntKind.i64.wrap ((IntKind.i64.wrap (u.A + m)) + (rHas u.P 1))) 256))) 64 (rYes (decide (((IntKind.i64.wrap ((IntKind.i64.wrap ((rSigned u.A) + (rSigned m))) + (rHas u.P 1))) : Int) > 127)))).X, Y := (rSet (rSet u 1 (IntKind.i64.wrap (Int.tdiv (IntKind.i64.wrap ((IntKind.i64.wrap (u.A + m)) + (rHas u.P 1))) 256))) 64 (rYes (decide (((IntKind.i64.wrap ((IntKind.i64.wrap ((rSigned u.A) + (rSigned m))) + (rHas u.P 1))) : Int) > 127)))).Y, S := (rSet (rSet u 1 (IntKind.i64.wrap (Int.tdiv (IntKind.i64.wrap ((IntKind.i64.wrap (u.A + m)) + (rHas u.P 1))) 256))) 64 (rYes (decide (((IntKind.i64.wrap ((IntKind.i64.wrap ((rSigned u.A) + (rSigned m))) + (rHas u.P 1))) : Int) > 127)))).S, P := (rSet (rSet u 1 (IntKind.i64.wrap (Int.tdiv (IntKind.i64.wrap ((IntKind.i64.wrap (u.A + m)) + (rHas u.P 1))) 256))) 64 (rYes (decide (((IntKind.i64.wrap ((IntKind.i64.wrap ((rSigned u.A) + (rSigned m))) + (rHas u.P 1))) : Int) > 127)))).P } : RUnit) (Int.tmod (IntKind.i64.wrap ((IntKind.i64.wrap (u.A + m)) + (rHas u.P 1))) 256))) []] (And.intro (rHas_ok u.P 1 o1) (And.intro (rSigned_ok u.A) (And.intro (rSigned_ok m) (And.intro (rHas_ok u.P 1 o2) (And.intro (by decide : ((256 : Int) ≠ 0)) (And.intro (rSet_ok u 1 (IntKind.i64.wrap (Int.tdiv (IntKind.i64.wrap ((IntKind.i64.wrap (u.A + m)) + (rHas u.P 1))) 256)) o3) (And.intro c1 (And.intro c1 (And.intro c1 (And.intro (rYes_ok (decide (((IntKind.i64.wrap ((IntKind.i64.wrap ((rSigned u.A) + (rSigned m))) + (rHas u.P 1))) : Int) > 127))) (And.intro (rSet_ok (rSet u 1 (IntKind.i64.wrap (Int.tdiv (IntKind.i64.wrap ((IntKind.i64.wrap (u.A + m)) + (rHas u.P 1))) 256))) 64 (rYes (decide (((IntKind.i64.wrap ((IntKind.i64.wrap ((rSigned u.A) + (rSigned m))) + (rHas u.P 1))) : Int) > 127))) o4) (And.intro (by decide : ((256 : Int) ≠ 0)) (And.intro (rSign_ok ({ A := (Int.tmod (IntKind.i64.wrap ((IntKind.i64.wrap (u.A + m)) + (rHas u.P 1))) 256), X := (rSet (rSet u 1 (IntKind.i64.wrap (Int.tdiv (IntKind.i64.wrap ((IntKind.i64.wrap (u.A + m)) + (rHas u.P 1))) 256))) 64 (rYes (decide (((IntKind.i64.wrap ((IntKind.i64.wrap ((rSigned u.A) + (rSigned m))) + (rHas u.P 1))) : Int) > 127)))).X, Y := (rSet (rSet u 1 (IntKind.i64.wrap (Int.tdiv (IntKind.i64.wrap ((IntKind.i64.wrap (u.A + m)) + (rHas u.P 1))) 256))) 64 (rYes (decide (((IntKind.i64.wrap ((IntKind.i64.wrap ((rSigned u.A) + (rSigned m))) + (rHas u.P 1))) : Int) > 127)))).Y, S := (rSet (rSet u 1 (IntKind.i64.wrap (Int.tdiv (IntKind.i64.wrap ((IntKind.i64.wrap (u.A + m)) + (rHas u.P 1))) 256))) 64 (rYes (decide (((IntKind.i64.wrap ((IntKind.i64.wrap ((rSigned u.A) + (rSigned m))) + (rHas u.P 1))) : Int) > 127)))).S, P := (rSet (rSet u 1 (IntKind.i64.wrap (Int.tdiv (IntKind.i64.wrap ((IntKind.i64.wrap (u.A + m)) + (rHas u.P 1))) 256))) 64 (rYes (decide (((IntKind.i64.wrap ((IntKind.i64.wrap ((rSigned u.A) + (rSigned m))) + (rHas u.P 1))) : Int) > 127)))).P } : RUnit) (Int.tmod (IntKind.i64.wrap ((IntKind.i64.wrap (u.A + m)) + (rHas u.P 1))) 256)) trivial))))))))))))) (by kernel_rfl)
theorem rAdd_ok (u : RUnit) (m : Int) : FnSpec Try.prog 34 1000 [RUnit.enc u, .int .i64 m] [] (RUnit.enc (rAdd u m)) [] := by
  rcases bt (decide (((IntKind.i64.wrap ((IntKind.i64.wrap ((rSigned u.A) + (rSigned m))) + (rHas u.P 1))) : Int) < (-128))) with c1 | c1
  ·
    have e : rAdd u m = (rSign ({ A := (Int.tmod (IntKind.i64.wrap ((IntKind.i64.wrap (u.A + m)) + (rHas u.P 1))) 256), X := (rSet (rSet u 1 (IntKind.i64.wrap (Int.tdiv (IntKind.i64.wrap ((IntKind.i64.wrap (u.A + m)) + (rHas u.P 1))) 256))) 64 1).X, Y := (rSet (rSet u 1 (IntKind.i64.wrap (Int.tdiv (IntKind.i64.wrap ((IntKind.i64.wrap (u.A + m)) + (rHas u.P 1))) 256))) 64 1).Y, S := (rSet (rSet u 1 (IntKind.i64.wrap (Int.tdiv (IntKind.i64.wrap ((IntKind.i64.wrap (u.A + m)) + (rHas u.P 1))) 256))) 64 1).S, P := (rSet (rSet u 1 (IntKind.i64.wrap (Int.tdiv (IntKind.i64.wrap ((IntKind.i64.wrap (u.A + m)) + (rHas u.P 1))) 256))) 64 1).P } : RUnit) (Int.tmod (IntKind.i64.wrap ((IntKind.i64.wrap (u.A + m)) + (rHas u.P 1))) 256)) := by unfold rAdd; rw [if_pos c1]
    rw [e]
    exact rAdd_p1 u m c1
  ·
    have e : rAdd u m = (rSign ({ A := (Int.tmod (IntKind.i64.wrap ((IntKind.i64.wrap (u.A + m)) + (rHas u.P 1))) 256), X := (rSet (rSet u 1 (IntKind.i64.wrap (Int.tdiv (IntKind.i64.wrap ((IntKind.i64.wrap (u.A + m)) + (rHas u.P 1))) 256))) 64 (rYes (decide (((IntKind.i64.wrap ((IntKind.i64.wrap ((rSigned u.A) + (rSigned m))) + (rHas u.P 1))) : Int) > 127)))).X, Y := (rSet (rSet u 1 (IntKind.i64.wrap (Int.tdiv (IntKind.i64.wrap ((IntKind.i64.wrap (u.A + m)) + (rHas u.P 1))) 256))) 64 (rYes (decide (((IntKind.i64.wrap ((IntKind.i64.wrap ((rSigned u.A) + (rSigned m))) + (rHas u.P 1))) : Int) > 127)))).Y, S := (rSet (rSet u 1 (IntKind.i64.wrap (Int.tdiv (IntKind.i64.wrap ((IntKind.i64.wrap (u.A + m)) + (rHas u.P 1))) 256))) 64 (rYes (decide (((IntKind.i64.wrap ((IntKind.i64.wrap ((rSigned u.A) + (rSigned m))) + (rHas u.P 1))) : Int) > 127)))).S, P := (rSet (rSet u 1 (IntKind.i64.wrap (Int.tdiv (IntKind.i64.wrap ((IntKind.i64.wrap (u.A + m)) + (rHas u.P 1))) 256))) 64 (rYes (decide (((IntKind.i64.wrap ((IntKind.i64.wrap ((rSigned u.A) + (rSigned m))) + (rHas u.P 1))) : Int) > 127)))).P } : RUnit) (Int.tmod (IntKind.i64.wrap ((IntKind.i64.wrap (u.A + m)) + (rHas u.P 1))) 256)) := by unfold rAdd; rw [if_neg (nt c1)]
    rw [e]
    exact rAdd_p2 u m c1

/-- kotatsu/kotatsuref08.less -/
def rLess (u : RUnit) (r : Int) (m : Int) : RUnit :=
  (rSign (rSet u 1 (rYes (decide ((r : Int) ≥ m)))) (Int.tmod (IntKind.i64.wrap ((IntKind.i64.wrap (r + 256)) - m)) 256))
theorem rLess_p1 (u : RUnit) (r : Int) (m : Int) : FnSpec Try.prog 35 1000 [RUnit.enc u, .int .i64 r, .int .i64 m] [] (RUnit.enc (rSign (rSet u 1 (rYes (decide ((r : Int) ≥ m)))) (Int.tmod (IntKind.i64.wrap ((IntKind.i64.wrap (r + 256)) - m)) 256))) [] := by
  have o1 : (1 : Int) ≠ 0 := by first | decide | omega
  exact fn_of_x hG hM Try.func35 (by kernel_rfl) (by kernel_rfl) 400 [.call [] [] 1000 (.int .i64 (rYes (decide ((r : Int) ≥ m)))) [], .call [] [] 1000 (RUnit.enc (rSet u 1 (rYes (decide ((r : Int) ≥ m))))) [], .call [] [] 1000 (RUnit.enc (rSign (rSet u 1 (rYes (decide ((r : Int) ≥ m)))) (Int.tmod (IntKind.i64.wrap ((IntKind.i64.wrap (r + 256)) - m)) 256))) []] (And.intro (rYes_ok (decide ((r : Int) ≥ m))) (And.intro (rSet_ok u 1 (rYes (decide ((r : Int) ≥ m))) o1) (And.intro (by decide : ((256 : Int) ≠ 0)) (And.intro (rSign_ok (rSet u 1 (rYes (decide ((r : Int) ≥ m)))) (Int.tmod (IntKind.i64.wrap ((IntKind.i64.wrap (r + 256)) - m)) 256)) trivial)))) (by kernel_rfl)
theorem rLess_ok (u : RUnit) (r : Int) (m : Int) : FnSpec Try.prog 35 1000 [RUnit.enc u, .int .i64 r, .int .i64 m] [] (RUnit.enc (rLess u r m)) [] := by
  exact rLess_p1 u r m

def rKinds_post : Heap := [(1000, ⟨[.one (.int .i64 19), .one (.int .i64 12), .one (.int .i64 4), .one (.int .i64 17), .one (.int .i64 8), .one (.int .i64 10)], 3, false⟩)]
theorem rKinds_p1  : FnSpec Try.prog 33 1000 [] [] (.slice (some ⟨1000, 0, none⟩) 6 6) rKinds_post := by
  exact fn_of_x hG hM Try.func33 (by kernel_rfl) (by kernel_rfl) 400 [] trivial (by kernel_rfl)

def rNames_post : Heap := [(1000, ⟨[.one (.string ⟨#[78, 79, 80]⟩), .one (.string ⟨#[79, 82, 65]⟩), .one (.string ⟨#[65, 78, 68]⟩), .one (.string ⟨#[69, 79, 82]⟩), .one (.string ⟨#[65, 68, 67]⟩), .one (.string ⟨#[83, 66, 67]⟩), .one (.string ⟨#[67, 77, 80]⟩), .one (.string ⟨#[67, 80, 88]⟩), .one (.string ⟨#[67, 80, 89]⟩), .one (.string ⟨#[76, 68, 65]⟩), .one (.string ⟨#[76, 68, 88]⟩), .one (.string ⟨#[76, 68, 89]⟩), .one (.string ⟨#[66, 73, 84]⟩), .one (.string ⟨#[76, 65, 88]⟩), .one (.string ⟨#[65, 78, 67]⟩), .one (.string ⟨#[65, 76, 82]⟩), .one (.string ⟨#[65, 82, 82]⟩), .one (.string ⟨#[65, 88, 83]⟩), .one (.string ⟨#[76, 65, 83]⟩), .one (.string ⟨#[65, 83, 76]⟩), .one (.string ⟨#[76, 83, 82]⟩), .one (.string ⟨#[82, 79, 76]⟩), .one (.string ⟨#[82, 79, 82]⟩), .one (.string ⟨#[73, 78, 67]⟩), .one (.string ⟨#[68, 69, 67]⟩), .one (.string ⟨#[83, 76, 79]⟩), .one (.string ⟨#[82, 76, 65]⟩), .one (.string ⟨#[83, 82, 69]⟩), .one (.string ⟨#[82, 82, 65]⟩), .one (.string ⟨#[68, 67, 80]⟩), .one (.string ⟨#[73, 83, 67]⟩), .one (.string ⟨#[83, 84, 65]⟩), .one (.string ⟨#[83, 84, 88]⟩), .one (.string ⟨#[83, 84, 89]⟩), .one (.string ⟨#[83, 65, 88]⟩), .one (.string ⟨#[84, 65, 88]⟩), .one (.string ⟨#[84, 65, 89]⟩), .one (.string ⟨#[84, 88, 65]⟩), .one (.string ⟨#[84, 89, 65]⟩), .one (.string ⟨#[84, 83, 88]⟩), .one (.string ⟨#[84, 88, 83]⟩), .one (.string ⟨#[73, 78, 88]⟩), .one (.string ⟨#[73, 78, 89]⟩), .one (.string ⟨#[68, 69, 88]⟩), .one (.string ⟨#[68, 69, 89]⟩), .one (.string ⟨#[67, 76, 67]⟩), .one (.string ⟨#[83, 69, 67]⟩), .one (.string ⟨#[67, 76, 73]⟩), .one (.string ⟨#[83, 69, 73]⟩), .one (.string ⟨#[67, 76, 86]⟩), .one (.string ⟨#[67, 76, 68]⟩), .one (.string ⟨#[83, 69, 68]⟩), .one (.string ⟨#[66, 80, 76]⟩), .one (.string ⟨#[66, 77, 73]⟩), .one (.string ⟨#[66, 86, 67]⟩), .one (.string ⟨#[66, 86, 83]⟩), .one (.string ⟨#[66, 67, 67]⟩), .one (.string ⟨#[66, 67, 83]⟩), .one (.string ⟨#[66, 78, 69]⟩), .one (.string ⟨#[66, 69, 81]⟩), .one (.string ⟨#[74, 77, 80]⟩), .one (.string ⟨#[74, 83, 82]⟩), .one (.string ⟨#[82, 84, 83]⟩), .one (.string ⟨#[82, 84, 73]⟩), .one (.string ⟨#[66, 82, 75]⟩), .one (.string ⟨#[80, 72, 65]⟩), .one (.string ⟨#[80, 72, 80]⟩), .one (.string ⟨#[80, 76, 65]⟩), .one (.string ⟨#[80, 76, 80]⟩), .one (.string ⟨#[74, 65, 77]⟩)], 9, false⟩)]
theorem rNames_p1  : FnSpec Try.prog 24 1000 [] [] (.slice (some ⟨1000, 0, none⟩) 70 70) rNames_post := by
  exact fn_of_x hG hM Try.func24 (by kernel_rfl) (by kernel_rfl) 400 [] trivial (by kernel_rfl)

/-- kotatsu/kotatsuref08.Kind -/
def rKind (op : Int) : Int :=
  if (decide ((op : Int) < 19)) = true then
    1
  else
    if (decide (((IntKind.i64.wrap (op - 19)) : Int) < 12)) = true then
      2
    else
      if (decide (((IntKind.i64.wrap ((IntKind.i64.wrap (op - 19)) - 12)) : Int) < 4)) = true then
        3
      else
        if (decide (((IntKind.i64.wrap ((IntKind.i64.wrap ((IntKind.i64.wrap (op - 19)) - 12)) - 4)) : Int) < 17)) = true then
          4
        else
          if (decide (((IntKind.i64.wrap ((IntKind.i64.wrap ((IntKind.i64.wrap ((IntKind.i64.wrap (op - 19)) - 12)) - 4)) - 17)) : Int) < 8)) = true then
            5
          else
            if (decide (((IntKind.i64.wrap ((IntKind.i64.wrap ((IntKind.i64.wrap ((IntKind.i64.wrap ((IntKind.i64.wrap (op - 19)) - 12)) - 4)) - 17)) - 8)) : Int) < 10)) = true then
              6
            else
              0
theorem rKind_p1 (op : Int) (c1 : (decide ((op : Int) < 19)) = true) : FnSpec Try.prog 16 1000 [.int .i64 op] [] (.int .i64 1) [] := by
  exact fn_of_x hG hM Try.func16 (by kernel_rfl) (by kernel_rfl) 400 [.call [] [(1000, 1000)] 1000 (.slice (some ⟨1000, 0, none⟩) 6 6) rKinds_post, .unroll, .yes, .lit 0, .yes] (And.intro rKinds_p1 (And.intro (Eq.refl true) (And.intro (Eq.refl (0 : Int)) (And.intro (by decide : 0 < 6) (And.intro c1 trivial))))) (by kernel_rfl)
theorem rKind_p2 (op : Int) (c1 : (decide ((op : Int) < 19)) = false) (c2 : (decide (((IntKind.i64.wrap (op - 19)) : Int) < 12)) = true) : FnSpec Try.prog 16 1000 [.int .i64 op] [] (.int .i64 2) [] := by
  exact fn_of_x hG hM Try.func16 (by kernel_rfl) (by kernel_rfl) 400 [.call [] [(1000, 1000)] 1000 (.slice (some ⟨1000, 0, none⟩) 6 6) rKinds_post, .unroll, .yes, .lit 0, .no, .unroll, .yes, .lit 1, .yes] (And.intro rKinds_p1 (And.intro (Eq.refl true) (And.intro (Eq.refl (0 : Int)) (And.intro (by decide : 0 < 6) (And.intro c1 (And.intro (Eq.refl true) (And.intro (Eq.refl (1 : Int)) (And.intro (by decide : 1 < 6) (And.intro c2 trivial))))))))) (by kernel_rfl)
theorem rKind_p3 (op : Int) (c1 : (decide ((op : Int) < 19)) = false) (c2 : (decide (((IntKind.i64.wrap (op - 19)) : Int) < 12)) = false) (c3 : (decide (((IntKind.i64.wrap ((IntKind.i64.wrap (op - 19)) - 12)) : Int) < 4)) = true) : FnSpec Try.prog 16 1000 [.int .i64 op] [] (.int .i64 3) [] := by
  exact fn_of_x hG hM Try.func16 (by kernel_rfl) (by kernel_rfl) 400 [.call [] [(1000, 1000)] 1000 (.slice (some ⟨1000, 0, none⟩) 6 6) rKinds_post, .unroll, .yes, .lit 0, .no, .unroll, .yes, .lit 1, .no, .unroll, .yes, .lit 2, .yes] (And.intro rKinds_p1 (And.intro (Eq.refl true) (And.intro (Eq.refl (0 : Int)) (And.intro (by decide : 0 < 6) (And.intro c1 (And.intro (Eq.refl true) (And.intro (Eq.refl (1 : Int)) (And.intro (by decide : 1 < 6) (And.intro c2 (And.intro (Eq.refl true) (And.intro (Eq.refl (2 : Int)) (And.intro (by decide : 2 < 6) (And.intro c3 trivial))))))))))))) (by kernel_rfl)
theorem rKind_p4 (op : Int) (c1 : (decide ((op : Int) < 19)) = false) (c2 : (decide (((IntKind.i64.wrap (op - 19)) : Int) < 12)) = false) (c3 : (decide (((IntKind.i64.wrap ((IntKind.i64.wrap (op - 19)) - 12)) : Int) < 4)) = false) (c4 : (decide (((IntKind.i64.wrap ((IntKind.i64.wrap ((IntKind.i64.wrap (op - 19)) - 12)) - 4)) : Int) < 17)) = true) : FnSpec Try.prog 16 1000 [.int .i64 op] [] (.int .i64 4) [] := by
  exact fn_of_x hG hM Try.func16 (by kernel_rfl) (by kernel_rfl) 400 [.call [] [(1000, 1000)] 1000 (.slice (some ⟨1000, 0, none⟩) 6 6) rKinds_post, .unroll, .yes, .lit 0, .no, .unroll, .yes, .lit 1, .no, .unroll, .yes, .lit 2, .no, .unroll, .yes, .lit 3, .yes] (And.intro rKinds_p1 (And.intro (Eq.refl true) (And.intro (Eq.refl (0 : Int)) (And.intro (by decide : 0 < 6) (And.intro c1 (And.intro (Eq.refl true) (And.intro (Eq.refl (1 : Int)) (And.intro (by decide : 1 < 6) (And.intro c2 (And.intro (Eq.refl true) (And.intro (Eq.refl (2 : Int)) (And.intro (by decide : 2 < 6) (And.intro c3 (And.intro (Eq.refl true) (And.intro (Eq.refl (3 : Int)) (And.intro (by decide : 3 < 6) (And.intro c4 trivial))))))))))))))))) (by kernel_rfl)
theorem rKind_p5 (op : Int) (c1 : (decide ((op : Int) < 19)) = false) (c2 : (decide (((IntKind.i64.wrap (op - 19)) : Int) < 12)) = false) (c3 : (decide (((IntKind.i64.wrap ((IntKind.i64.wrap (op - 19)) - 12)) : Int) < 4)) = false) (c4 : (decide (((IntKind.i64.wrap ((IntKind.i64.wrap ((IntKind.i64.wrap (op - 19)) - 12)) - 4)) : Int) < 17)) = false) (c5 : (decide (((IntKind.i64.wrap ((IntKind.i64.wrap ((IntKind.i64.wrap ((IntKind.i64.wrap (op - 19)) - 12)) - 4)) - 17)) : Int) < 8)) = true) : FnSpec Try.prog 16 1000 [.int .i64 op] [] (.int .i64 5) [] := by
  exact fn_of_x hG hM Try.func16 (by kernel_rfl) (by kernel_rfl) 400 [.call [] [(1000, 1000)] 1000 (.slice (some ⟨1000, 0, none⟩) 6 6) rKinds_post, .unroll, .yes, .lit 0, .no, .unroll, .yes, .lit 1, .no, .unroll, .yes, .lit 2, .no, .unroll, .yes, .lit 3, .no, .unroll, .yes, .lit 4, .yes] (And.intro rKinds_p1 (And.intro (Eq.refl true) (And.intro (Eq.refl (0 : Int)) (And.intro (by decide : 0 < 6) (And.intro c1 (And.intro (Eq.refl true) (And.intro (Eq.refl (1 : Int)) (And.intro (by decide : 1 < 6) (And.intro c2 (And.intro (Eq.refl true) (And.intro (Eq.refl (2 : Int)) (And.intro (by decide : 2 < 6) (And.intro c3 (And.intro (Eq.refl true) (And.intro (Eq.refl (3 : Int)) (And.intro (by decide : 3 < 6) (And.intro c4 (And.intro (Eq.refl true) (And.intro (Eq.refl (4 : Int)) (And.intro (by decide : 4 < 6) (And.intro c5 trivial))))))))))))))))))))) (by kernel_rfl)
theorem rKind_p6 (op : Int) (c1 : (decide ((op : Int) < 19)) = false) (c2 : (decide (((IntKind.i64.wrap (op - 19)) : Int) < 12)) = false) (c3 : (decide (((IntKind.i64.wrap ((IntKind.i64.wrap (op - 19)) - 12)) : Int) < 4)) = false) (c4 : (decide (((IntKind.i64.wrap ((IntKind.i64.wrap ((IntKind.i64.wrap (op - 19)) - 12)) - 4)) : Int) < 17)) = false) (c5 : (decide (((IntKind.i64.wrap ((IntKind.i64.wrap ((IntKind.i64.wrap ((IntKind.i64.wrap (op - 19)) - 12)) - 4)) - 17)) : Int) < 8)) = false) (c6 : (decide (((IntKind.i64.wrap ((IntKind.i64.wrap ((IntKind.i64.wrap ((IntKind.i64.wrap ((IntKind.i64.wrap (op - 19)) - 12)) - 4)) - 17)) - 8)) : Int) < 10)) = true) : FnSpec Try.prog 16 1000 [.int .i64 op] [] (.int .i64 6) [] := by
  exact fn_of_x hG hM Try.func16 (by kernel_rfl) (by kernel_rfl) 400 [.call [] [(1000, 1000)] 1000 (.slice (some ⟨1000, 0, none⟩) 6 6) rKinds_post, .unroll, .yes, .lit 0, .no, .unroll, .yes, .lit 1, .no, .unroll, .yes, .lit 2, .no, .unroll, .yes, .lit 3, .no, .unroll, .yes, .lit 4, .no, .unroll, .yes, .lit 5, .yes] (And.intro rKinds_p1 (And.intro (Eq.refl true) (And.intro (Eq.refl (0 : Int)) (And.intro (by decide : 0 < 6) (And.intro c1 (And.intro (Eq.refl true) (And.intro (Eq.refl (1 : Int)) (And.intro (by decide : 1 < 6) (And.intro c2 (And.intro (Eq.refl true) (And.intro (Eq.refl (2 : Int)) (And.intro (by decide : 2 < 6) (And.intro c3 (And.intro (Eq.refl true) (And.intro (Eq.refl (3 : Int)) (And.intro (by decide : 3 < 6) (And.intro c4 (And.intro (Eq.refl true) (And.intro (Eq.refl (4 : Int)) (And.intro (by decide : 4 < 6) (And.intro c5 (And.intro (Eq.refl true) (And.intro (Eq.refl (5 : Int)) (And.intro (by decide : 5 < 6) (And.intro c6 trivial))))))))))))))))))))))))) (by kernel_rfl)
theorem rKind_p7 (op : Int) (c1 : (decide ((op : Int) < 19)) = false) (c2 : (decide (((IntKind.i64.wrap (op - 19)) : Int) < 12)) = false) (c3 : (decide (((IntKind.i64.wrap ((IntKind.i64.wrap (op - 19)) - 12)) : Int) < 4)) = false) (c4 : (decide (((IntKind.i64.wrap ((IntKind.i64.wrap ((IntKind.i64.wrap (op - 19)) - 12)) - 4)) : Int) < 17)) = false) (c5 : (decide (((IntKind.i64.wrap ((IntKind.i64.wrap ((IntKind.i64.wrap ((IntKind.i64.wrap (op - 19)) - 12)) - 4)) - 17)) : Int) < 8)) = false) (c6 : (decide (((IntKind.i64.wrap ((IntKind.i64.wrap ((IntKind.i64.wrap ((IntKind.i64.wrap ((IntKind.i64.wrap (op - 19)) - 12)) - 4)) - 17)) - 8)) : Int) < 10)) = false) : FnSpec Try.prog 16 1000 [.int .i64 op] [] (.int .i64 0) [] := by
  exact fn_of_x hG hM Try.func16 (by kernel_rfl) (by kernel_rfl) 400 [.call [] [(1000, 1000)] 1000 (.slice (some ⟨1000, 0, none⟩) 6 6) rKinds_post, .unroll, .yes, .lit 0, .no, .unroll, .yes, .lit 1, .no, .unroll, .yes, .lit 2, .no, .unroll, .yes, .lit 3, .no, .unroll, .yes, .lit 4, .no, .unroll, .yes, .lit 5, .no, .unroll, .no] (And.intro rKinds_p1 (And.intro (Eq.refl true) (And.intro (Eq.refl (0 : Int)) (And.intro (by decide : 0 < 6) (And.intro c1 (And.intro (Eq.refl true) (And.intro (Eq.refl (1 : Int)) (And.intro (by decide : 1 < 6) (And.intro c2 (And.intro (Eq.refl true) (And.intro (Eq.refl (2 : Int)) (And.intro (by decide : 2 < 6) (And.intro c3 (And.intro (Eq.refl true) (And.intro (Eq.refl (3 : Int)) (And.intro (by decide : 3 < 6) (And.intro c4 (And.intro (Eq.refl true) (And.intro (Eq.refl (4 : Int)) (And.intro (by decide : 4 < 6) (And.intro c5 (And.intro (Eq.refl true) (And.intro (Eq.refl (5 : Int)) (And.intro (by decide : 5 < 6) (And.intro c6 (And.intro (Eq.refl false) trivial)))))))))))))))))))))))))) (by kernel_rfl)
theorem rKind_ok (op : Int) : FnSpec Try.prog 16 1000 [.int .i64 op] [] (.int .i64 (rKind op)) [] := by
  rcases bt (decide ((op : Int) < 19)) with c1 | c1
  ·
    have e : rKind op = 1 := by unfold rKind; rw [if_pos c1]
    rw [e]
    exact rKind_p1 op c1
  ·
    rcases bt (decide (((IntKind.i64.wrap (op - 19)) : Int) < 12)) with c2 | c2
    ·
      have e : rKind op = 2 := by unfold rKind; rw [if_neg (nt c1), if_pos c2]
      rw [e]
      exact rKind_p2 op c1 c2
    ·
      rcases bt (decide (((IntKind.i64.wrap ((IntKind.i64.wrap (op - 19)) - 12)) : Int) < 4)) with c3 | c3
      ·
        have e : rKind op = 3 := by unfold rKind; rw [if_neg (nt c1), if_neg (nt c2), if_pos c3]
        rw [e]
        exact rKind_p3 op c1 c2 c3
      ·
        rcases bt (decide (((IntKind.i64.wrap ((IntKind.i64.wrap ((IntKind.i64.wrap (op - 19)) - 12)) - 4)) : Int) < 17)) with c4 | c4
        ·
          have e : rKind op = 4 := by unfold rKind; rw [if_neg (nt c1), if_neg (nt c2), if_neg (nt c3), if_pos c4]
          rw [e]
          exact rKind_p4 op c1 c2 c3 c4
        ·
          rcases bt (decide (((IntKind.i64.wrap ((IntKind.i64.wrap ((IntKind.i64.wrap ((IntKind.i64.wrap (op - 19)) - 12)) - 4)) - 17)) : Int) < 8)) with c5 | c5
          ·
            have e : rKind op = 5 := by unfold rKind; rw [if_neg (nt c1), if_neg (nt c2), if_neg (nt c3), if_neg (nt c4), if_pos c5]
            rw [e]
            exact rKind_p5 op c1 c2 c3 c4 c5
          ·
            rcases bt (decide (((IntKind.i64.wrap ((IntKind.i64.wrap ((IntKind.i64.wrap ((IntKind.i64.wrap ((IntKind.i64.wrap (op - 19)) - 12)) - 4)) - 17)) - 8)) : Int) < 10)) with c6 | c6
            ·
              have e : rKind op = 6 := by unfold rKind; rw [if_neg (nt c1), if_neg (nt c2), if_neg (nt c3), if_neg (nt c4), if_neg (nt c5), if_pos c6]
              rw [e]
              exact rKind_p6 op c1 c2 c3 c4 c5 c6
            ·
              have e : rKind op = 0 := by unfold rKind; rw [if_neg (nt c1), if_neg (nt c2), if_neg (nt c3), if_neg (nt c4), if_neg (nt c5), if_neg (nt c6)]
              rw [e]
              exact rKind_p7 op c1 c2 c3 c4 c5 c6

/-- kotatsu/kotatsuref08.Name -/
def rName_0  : ByteArray :=
  ⟨#[78, 79, 80]⟩
theorem rName_0_p1  : FnSpec Try.prog 18 1000 [.int .i64 0] [] (.string ⟨#[78, 79, 80]⟩) [] := by
  exact fn_of_x hG hM Try.func18 (by kernel_rfl) (by kernel_rfl) 400 [.call [] [(1000, 1000)] 1000 (.slice (some ⟨1000, 0, none⟩) 70 70) rNames_post, .no, .no, .no, .no, .no, .no, .lit 0] (And.intro rNames_p1 (And.intro (Eq.refl false) (And.intro (Eq.refl false) (And.intro (Eq.refl false) (And.intro (Eq.refl false) (And.intro (Eq.refl false) (And.intro (Eq.refl false) (And.intro (Eq.refl (0 : Int)) (And.intro (by decide : 0 < 70) trivial))))))))) (by kernel_rfl)
theorem rName_0_ok  : FnSpec Try.prog 18 1000 [.int .i64 0] [] (.string rName_0) [] := by
  exact rName_0_p1 

/-- kotatsu/kotatsuref08.Name -/
def rName_1  : ByteArray :=
  ⟨#[79, 82, 65]⟩
theorem rName_1_p1  : FnSpec Try.prog 18 1000 [.int .i64 1] [] (.string ⟨#[79, 82, 65]⟩) [] := by
  exact fn_of_x hG hM Try.func18 (by kernel_rfl) (by kernel_rfl) 400 [.call [] [(1000, 1000)] 1000 (.slice (some ⟨1000, 0, none⟩) 70 70) rNames_post, .no, .no, .no, .no, .no, .no, .lit 1] (And.intro rNames_p1 (And.intro (Eq.refl false) (And.intro (Eq.refl false) (And.intro (Eq.refl false) (And.intro (Eq.refl false) (And.intro (Eq.refl false) (And.intro (Eq.refl false) (And.intro (Eq.refl (1 : Int)) (And.intro (by decide : 1 < 70) trivial))))))))) (by kernel_rfl)
theorem rName_1_ok  : FnSpec Try.prog 18 1000 [.int .i64 1] [] (.string rName_1) [] := by
  exact rName_1_p1 

/-- kotatsu/kotatsuref08.Name -/
def rName_2  : ByteArray :=
  ⟨#[65, 78, 68]⟩
theorem rName_2_p1  : FnSpec Try.prog 18 1000 [.int .i64 2] [] (.string ⟨#[65, 78, 68]⟩) [] := by
  exact fn_of_x hG hM Try.func18 (by kernel_rfl) (by kernel_rfl) 400 [.call [] [(1000, 1000)] 1000 (.slice (some ⟨1000, 0, none⟩) 70 70) rNames_post, .no, .no, .no, .no, .no, .no, .lit 2] (And.intro rNames_p1 (And.intro (Eq.refl false) (And.intro (Eq.refl false) (And.intro (Eq.refl false) (And.intro (Eq.refl false) (And.intro (Eq.refl false) (And.intro (Eq.refl false) (And.intro (Eq.refl (2 : Int)) (And.intro (by decide : 2 < 70) trivial))))))))) (by kernel_rfl)
theorem rName_2_ok  : FnSpec Try.prog 18 1000 [.int .i64 2] [] (.string rName_2) [] := by
  exact rName_2_p1 

/-- kotatsu/kotatsuref08.Name -/
def rName_3  : ByteArray :=
  ⟨#[69, 79, 82]⟩
theorem rName_3_p1  : FnSpec Try.prog 18 1000 [.int .i64 3] [] (.string ⟨#[69, 79, 82]⟩) [] := by
  exact fn_of_x hG hM Try.func18 (by kernel_rfl) (by kernel_rfl) 400 [.call [] [(1000, 1000)] 1000 (.slice (some ⟨1000, 0, none⟩) 70 70) rNames_post, .no, .no, .no, .no, .no, .no, .lit 3] (And.intro rNames_p1 (And.intro (Eq.refl false) (And.intro (Eq.refl false) (And.intro (Eq.refl false) (And.intro (Eq.refl false) (And.intro (Eq.refl false) (And.intro (Eq.refl false) (And.intro (Eq.refl (3 : Int)) (And.intro (by decide : 3 < 70) trivial))))))))) (by kernel_rfl)
theorem rName_3_ok  : FnSpec Try.prog 18 1000 [.int .i64 3] [] (.string rName_3) [] := by
  exact rName_3_p1 

/-- kotatsu/kotatsuref08.Name -/
def rName_4  : ByteArray :=
  ⟨#[65, 68, 67]⟩
theorem rName_4_p1  : FnSpec Try.prog 18 1000 [.int .i64 4] [] (.string ⟨#[65, 68, 67]⟩) [] := by
  exact fn_of_x hG hM Try.func18 (by kernel_rfl) (by kernel_rfl) 400 [.call [] [(1000, 1000)] 1000 (.slice (some ⟨1000, 0, none⟩) 70 70) rNames_post, .no, .no, .no, .no, .no, .no, .lit 4] (And.intro rNames_p1 (And.intro (Eq.refl false) (And.intro (Eq.refl false) (And.intro (Eq.refl false) (And.intro (Eq.refl false) (And.intro (Eq.refl false) (And.intro (Eq.refl false) (And.intro (Eq.refl (4 : Int)) (And.intro (by decide : 4 < 70) trivial))))))))) (by kernel_rfl)
theorem rName_4_ok  : FnSpec Try.prog 18 1000 [.int .i64 4] [] (.string rName_4) [] := by
  exact rName_4_p1 

/-- kotatsu/kotatsuref08.Name -/
def rName_5  : ByteArray :=
  ⟨#[83, 66, 67]⟩
theorem rName_5_p1  : FnSpec Try.prog 18 1000 [.int .i64 5] [] (.string ⟨#[83, 66, 67]⟩) [] := by
  exact fn_of_x hG hM Try.func18 (by kernel_rfl) (by kernel_rfl) 400 [.call [] [(1000, 1000)] 1000 (.slice (some ⟨1000, 0, none⟩) 70 70) rNames_post, .no, .no, .no, .no, .no, .no, .lit 5] (And.intro rNames_p1 (And.intro (Eq.refl false) (And.intro (Eq.refl false) (And.intro (Eq.refl false) (And.intro (Eq.refl false) (And.intro (Eq.refl false) (And.intro (Eq.refl false) (And.intro (Eq.refl (5 : Int)) (And.intro (by decide : 5 < 70) trivial))))))))) (by kernel_rfl)
theorem rName_5_ok  : FnSpec Try.prog 18 1000 [.int .i64 5] [] (.string rName_5) [] := by
  exact rName_5_p1 

/-- kotatsu/kotatsuref08.Name -/
def rName_6  : ByteArray :=
  ⟨#[67, 77, 80]⟩
theorem rName_6_p1  : FnSpec Try.prog 18 1000 [.int .i64 6] [] (.string ⟨#[67, 77, 80]⟩) [] := by
  exact fn_of_x hG hM Try.func18 (by kernel_rfl) (by kernel_rfl) 400 [.call [] [(1000, 1000)] 1000 (.slice (some ⟨1000, 0, none⟩) 70 70) rNames_post, .no, .no, .no, .no, .no, .no, .lit 6] (And.intro rNames_p1 (And.intro (Eq.refl false) (And.intro (Eq.refl false) (And.intro (Eq.refl false) (And.intro (Eq.refl false) (And.intro (Eq.refl false) (And.intro (Eq.refl false) (And.intro (Eq.refl (6 : Int)) (And.intro (by decide : 6 < 70) trivial))))))))) (by kernel_rfl)
theorem rName_6_ok  : FnSpec Try.prog 18 1000 [.int .i64 6] [] (.string rName_6) [] := by
  exact rName_6_p1 

/-- kotatsu/kotatsuref08.Name -/
def rName_7  : ByteArray :=
  ⟨#[67, 80, 88]⟩
theorem rName_7_p1  : FnSpec Try.prog 18 1000 [.int .i64 7] [] (.string ⟨#[67, 80, 88]⟩) [] := by
  exact fn_of_x hG hM Try.func18 (by kernel_rfl) (by kernel_rfl) 400 [.call [] [(1000, 1000)] 1000 (.slice (some ⟨1000, 0, none⟩) 70 70) rNames_post, .no, .no, .no, .no, .no, .no, .lit 7] (And.intro rNames_p1 (And.intro (Eq.refl false) (And.intro (Eq.refl false) (And.intro (Eq.refl false) (And.intro (Eq.refl false) (And.intro (Eq.refl false) (And.intro (Eq.refl false) (And.intro (Eq.refl (7 : Int)) (And.intro (by decide : 7 < 70) trivial))))))))) (by kernel_rfl)
theorem rName_7_ok  : FnSpec Try.prog 18 1000 [.int .i64 7] [] (.string rName_7) [] := by
  exact rName_7_p1 

/-- kotatsu/kotatsuref08.Name -/
def rName_8  : ByteArray :=
  ⟨#[67, 80, 89]⟩
theorem rName_8_p1  : FnSpec Try.prog 18 1000 [.int .i64 8] [] (.string ⟨#[67, 80, 89]⟩) [] := by
  exact fn_of_x hG hM Try.func18 (by kernel_rfl) (by kernel_rfl) 400 [.call [] [(1000, 1000)] 1000 (.slice (some ⟨1000, 0, none⟩) 70 70) rNames_post, .no, .no, .no, .no, .no, .no, .lit 8] (And.intro rNames_p1 (And.intro (Eq.refl false) (And.intro (Eq.refl false) (And.intro (Eq.refl false) (And.intro (Eq.refl false) (And.intro (Eq.refl false) (And.intro (Eq.refl false) (And.intro (Eq.refl (8 : Int)) (And.intro (by decide : 8 < 70) trivial))))))))) (by kernel_rfl)
theorem rName_8_ok  : FnSpec Try.prog 18 1000 [.int .i64 8] [] (.string rName_8) [] := by
  exact rName_8_p1 

/-- kotatsu/kotatsuref08.Name -/
def rName_9  : ByteArray :=
  ⟨#[76, 68, 65]⟩
theorem rName_9_p1  : FnSpec Try.prog 18 1000 [.int .i64 9] [] (.string ⟨#[76, 68, 65]⟩) [] := by
  exact fn_of_x hG hM Try.func18 (by kernel_rfl) (by kernel_rfl) 400 [.call [] [(1000, 1000)] 1000 (.slice (some ⟨1000, 0, none⟩) 70 70) rNames_post, .no, .no, .no, .no, .no, .no, .lit 9] (And.intro rNames_p1 (And.intro (Eq.refl false) (And.intro (Eq.refl false) (And.intro (Eq.refl false) (And.intro (Eq.refl false) (And.intro (Eq.refl false) (And.intro (Eq.refl false) (And.intro (Eq.refl (9 : Int)) (And.intro (by decide : 9 < 70) trivial))))))))) (by kernel_rfl)
theorem rName_9_ok  : FnSpec Try.prog 18 1000 [.int .i64 9] [] (.string rName_9) [] := by
  exact rName_9_p1 

/-- kotatsu/kotatsuref08.Name -/
def rName_10  : ByteArray :=
  ⟨#[76, 68, 88]⟩
theorem rName_10_p1  : FnSpec Try.prog 18 1000 [.int .i64 10] [] (.string ⟨#[76, 68, 88]⟩) [] := by
  exact fn_of_x hG hM Try.func18 (by kernel_rfl) (by kernel_rfl) 400 [.call [] [(1000, 1000)] 1000 (.slice (some ⟨1000, 0, none⟩) 70 70) rNames_post, .no, .no, .no, .no, .no, .no, .lit 10] (And.intro rNames_p1 (And.intro (Eq.refl false) (And.intro (Eq.refl false) (And.intro (Eq.refl false) (And.intro (Eq.refl false) (And.intro (Eq.refl false) (And.intro (Eq.refl false) (And.intro (Eq.refl (10 : Int)) (And.intro (by decide : 10 < 70) trivial))))))))) (by kernel_rfl)
theorem rName_10_ok  : FnSpec Try.prog 18 1000 [.int .i64 10] [] (.string rName_10) [] := by
  exact rName_10_p1 

/-- kotatsu/kotatsuref08.Name -/
def rName_11  : ByteArray :=
  ⟨#[76, 68, 89]⟩
theorem rName_11_p1  : FnSpec Try.prog 18 1000 [.int .i64 11] [] (.string ⟨#[76, 68, 89]⟩) [] := by
  exact fn_of_x hG hM Try.func18 (by kernel_rfl) (by kernel_rfl) 400 [.call [] [(1000, 1000)] 1000 (.slice (some ⟨1000, 0, none⟩) 70 70) rNames_post, .no, .no, .no, .no, .no, .no, .lit 11] (And.intro rNames_p1 (And.intro (Eq.refl false) (And.intro (Eq.refl false) (And.intro (Eq.refl false) (And.intro (Eq.refl false) (And.intro (Eq.refl false) (And.intro (Eq.refl false) (And.intro (Eq.refl (11 : Int)) (And.intro (by decide : 11 < 70) trivial))))))))) (by kernel_rfl)
theorem rName_11_ok  : FnSpec Try.prog 18 1000 [.int .i64 11] [] (.string rName_11) [] := by
  exact rName_11_p1 

/-- kotatsu/kotatsuref08.Name -/
def rName_12  : ByteArray :=
  ⟨#[66, 73, 84]⟩
theorem rName_12_p1  : FnSpec Try.prog 18 1000 [.int .i64 12] [] (.string ⟨#[66, 73, 84]⟩) [] := by
  exact fn_of_x hG hM Try.func18 (by kernel_rfl) (by kernel_rfl) 400 [.call [] [(1000, 1000)] 1000 (.slice (some ⟨1000, 0, none⟩) 70 70) rNames_post, .no, .no, .no, .no, .no, .no, .lit 12] (And.intro rNames_p1 (And.intro (Eq.refl false) (And.intro (Eq.refl false) (And.intro (Eq.refl false) (And.intro (Eq.refl false) (And.intro (Eq.refl false) (And.intro (Eq.refl false) (And.intro (Eq.refl (12 : Int)) (And.intro (by decide : 12 < 70) trivial))))))))) (by kernel_rfl)
theorem rName_12_ok  : FnSpec Try.prog 18 1000 [.int .i64 12] [] (.string rName_12) [] := by
  exact rName_12_p1 

/-- kotatsu/kotatsuref08.Name -/
def rName_13  : ByteArray :=
  ⟨#[76, 65, 88]⟩
theorem rName_13_p1  : FnSpec Try.prog 18 1000 [.int .i64 13] [] (.string ⟨#[76, 65, 88]⟩) [] := by
  exact fn_of_x hG hM Try.func18 (by kernel_rfl) (by kernel_rfl) 400 [.call [] [(1000, 1000)] 1000 (.slice (some ⟨1000, 0, none⟩) 70 70) rNames_post, .no, .no, .no, .no, .no, .no, .lit 13] (And.intro rNames_p1 (And.intro (Eq.refl false) (And.intro (Eq.refl false) (And.intro (Eq.refl false) (And.intro (Eq.refl false) (And.intro (Eq.refl false) (And.intro (Eq.refl false) (And.intro (Eq.refl (13 : Int)) (And.intro (by decide : 13 < 70) trivial))))))))) (by kernel_rfl)
theorem rName_13_ok  : FnSpec Try.prog 18 1000 [.int .i64 13] [] (.string rName_13) [] := by
  exact rName_13_p1 

/-- kotatsu/kotatsuref08.Name -/
def rName_14  : ByteArray :=
  ⟨#[65, 78, 67]⟩
theorem rName_14_p1  : FnSpec Try.prog 18 1000 [.int .i64 14] [] (.string ⟨#[65, 78, 67]⟩) [] := by
  exact fn_of_x hG hM Try.func18 (by kernel_rfl) (by kernel_rfl) 400 [.call [] [(1000, 1000)] 1000 (.slice (some ⟨1000, 0, none⟩) 70 70) rNames_post, .no, .no, .no, .no, .no, .no, .lit 14] (And.intro rNames_p1 (And.intro (Eq.refl false) (And.intro (Eq.refl false) (And.intro (Eq.refl false) (And.intro (Eq.refl false) (And.intro (Eq.refl false) (And.intro (Eq.refl false) (And.intro (Eq.refl (14 : Int)) (And.intro (by decide : 14 < 70) trivial))))))))) (by kernel_rfl)
theorem rName_14_ok  : FnSpec Try.prog 18 1000 [.int .i64 14] [] (.string rName_14) [] := by
  exact rName_14_p1 

/-- kotatsu/kotatsuref08.Name -/
def rName_15  : ByteArray :=
  ⟨#[65, 76, 82]⟩
theorem rName_15_p1  : FnSpec Try.prog 18 1000 [.int .i64 15] [] (.string ⟨#[65, 76, 82]⟩) [] := by
  exact fn_of_x hG hM Try.func18 (by kernel_rfl) (by kernel_rfl) 400 [.call [] [(1000, 1000)] 1000 (.slice (some ⟨1000, 0, none⟩) 70 70) rNames_post, .no, .no, .no, .no, .no, .no, .lit 15] (And.intro rNames_p1 (And.intro (Eq.refl false) (And.intro (Eq.refl false) (And.intro (Eq.refl false) (And.intro (Eq.refl false) (And.intro (Eq.refl false) (And.intro (Eq.refl false) (And.intro (Eq.refl (15 : Int)) (And.intro (by decide : 15 < 70) trivial))))))))) (by kernel_rfl)
theorem rName_15_ok  : FnSpec Try.prog 18 1000 [.int .i64 15] [] (.string rName_15) [] := by
  exact rName_15_p1 

/-- kotatsu/kotatsuref08.Name -/
def rName_16  : ByteArray :=
  ⟨#[65, 82, 82]⟩
theorem rName_16_p1  : FnSpec Try.prog 18 1000 [.int .i64 16] [] (.string ⟨#[65, 82, 82]⟩) [] := by
  exact fn_of_x hG hM Try.func18 (by kernel_rfl) (by kernel_rfl) 400 [.call [] [(1000, 1000)] 1000 (.slice (some ⟨1000, 0, none⟩) 70 70) rNames_post, .no, .no, .no, .no, .no, .no, .lit 16] (And.intro rNames_p1 (And.intro (Eq.refl false) (And.intro (Eq.refl false) (And.intro (Eq.refl false) (And.intro (Eq.refl false) (And.intro (Eq.refl false) (And.intro (Eq.refl false) (And.intro (Eq.refl (16 : Int)) (And.intro (by decide : 16 < 70) trivial))))))))) (by kernel_rfl)
theorem rName_16_ok  : FnSpec Try.prog 18 1000 [.int .i64 16] [] (.string rName_16) [] := by
  exact rName_16_p1 

/-- kotatsu/kotatsuref08.Name -/
def rName_17  : ByteArray :=
  ⟨#[65, 88, 83]⟩
theorem rName_17_p1  : FnSpec Try.prog 18 1000 [.int .i64 17] [] (.string ⟨#[65, 88, 83]⟩) [] := by
  exact fn_of_x hG hM Try.func18 (by kernel_rfl) (by kernel_rfl) 400 [.call [] [(1000, 1000)] 1000 (.slice (some ⟨1000, 0, none⟩) 70 70) rNames_post, .no, .no, .no, .no, .no, .no, .lit 17] (And.intro rNames_p1 (And.intro (Eq.refl false) (And.intro (Eq.refl false) (And.intro (Eq.refl false) (And.intro (Eq.refl false) (And.intro (Eq.refl false) (And.intro (Eq.refl false) (And.intro (Eq.refl (17 : Int)) (And.intro (by decide : 17 < 70) trivial))))))))) (by kernel_rfl)
theorem rName_17_ok  : FnSpec Try.prog 18 1000 [.int .i64 17] [] (.string rName_17) [] := by
  exact rName_17_p1 

/-- kotatsu/kotatsuref08.Name -/
def rName_18  : ByteArray :=
  ⟨#[76, 65, 83]⟩
theorem rName_18_p1  : FnSpec Try.prog 18 1000 [.int .i64 18] [] (.string ⟨#[76, 65, 83]⟩) [] := by
  exact fn_of_x hG hM Try.func18 (by kernel_rfl) (by kernel_rfl) 400 [.call [] [(1000, 1000)] 1000 (.slice (some ⟨1000, 0, none⟩) 70 70) rNames_post, .no, .no, .no, .no, .no, .no, .lit 18] (And.intro rNames_p1 (And.intro (Eq.refl false) (And.intro (Eq.refl false) (And.intro (Eq.refl false) (And.intro (Eq.refl false) (And.intro (Eq.refl false) (And.intro (Eq.refl false) (And.intro (Eq.refl (18 : Int)) (And.intro (by decide : 18 < 70) trivial))))))))) (by kernel_rfl)
theorem rName_18_ok  : FnSpec Try.prog 18 1000 [.int .i64 18] [] (.string rName_18) [] := by
  exact rName_18_p1 

/-- kotatsu/kotatsuref08.Name -/
def rName_19  : ByteArray :=
  ⟨#[65, 83, 76]⟩
theorem rName_19_p1  : FnSpec Try.prog 18 1000 [.int .i64 19] [] (.string ⟨#[65, 83, 76]⟩) [] := by
  exact fn_of_x hG hM Try.func18 (by kernel_rfl) (by kernel_rfl) 400 [.call [] [(1000, 1000)] 1000 (.slice (some ⟨1000, 0, none⟩) 70 70) rNames_post, .no, .no, .no, .no, .no, .no, .lit 19] (And.intro rNames_p1 (And.intro (Eq.refl false) (And.intro (Eq.refl false) (And.intro (Eq.refl false) (And.intro (Eq.refl false) (And.intro (Eq.refl false) (And.intro (Eq.refl false) (And.intro (Eq.refl (19 : Int)) (And.intro (by decide : 19 < 70) trivial))))))))) (by kernel_rfl)
theorem rName_19_ok  : FnSpec Try.prog 18 1000 [.int .i64 19] [] (.string rName_19) [] := by
  exact rName_19_p1 

/-- kotatsu/kotatsuref08.Name -/
def rName_20  : ByteArray :=
  ⟨#[76, 83, 82]⟩
theorem rName_20_p1  : FnSpec Try.prog 18 1000 [.int .i64 20] [] (.string ⟨#[76, 83, 82]⟩) [] := by
  exact fn_of_x hG hM Try.func18 (by kernel_rfl) (by kernel_rfl) 400 [.call [] [(1000, 1000)] 1000 (.slice (some ⟨1000, 0, none⟩) 70 70) rNames_post, .no, .no, .no, .no, .no, .no, .lit 20] (And.intro rNames_p1 (And.intro (Eq.refl false) (And.intro (Eq.refl false) (And.intro (Eq.refl false) (And.intro (Eq.refl false) (And.intro (Eq.refl false) (And.intro (Eq.refl false) (And.intro (Eq.refl (20 : Int)) (And.intro (by decide : 20 < 70) trivial))))))))) (by kernel_rfl)
theorem rName_20_ok  : FnSpec Try.prog 18 1000 [.int .i64 20] [] (.string rName_20) [] := by
  exact rName_20_p1 

/-- kotatsu/kotatsuref08.Name -/
def rName_21  : ByteArray :=
  ⟨#[82, 79, 76]⟩
theorem rName_21_p1  : FnSpec Try.prog 18 1000 [.int .i64 21] [] (.string ⟨#[82, 79, 76]⟩) [] := by
  exact fn_of_x hG hM Try.func18 (by kernel_rfl) (by kernel_rfl) 400 [.call [] [(1000, 1000)] 1000 (.slice (some ⟨1000, 0, none⟩) 70 70) rNames_post, .no, .no, .no, .no, .no, .no, .lit 21] (And.intro rNames_p1 (And.intro (Eq.refl false) (And.intro (Eq.refl false) (And.intro (Eq.refl false) (And.intro (Eq.refl false) (And.intro (Eq.refl false) (And.intro (Eq.refl false) (And.intro (Eq.refl (21 : Int)) (And.intro (by decide : 21 < 70) trivial))))))))) (by kernel_rfl)
theorem rName_21_ok  : FnSpec Try.prog 18 1000 [.int .i64 21] [] (.string rName_21) [] := by
  exact rName_21_p1 

/-- kotatsu/kotatsuref08.Name -/
def rName_22  : ByteArray :=
  ⟨#[82, 79, 82]⟩
theorem rName_22_p1  : FnSpec Try.prog 18 1000 [.int .i64 22] [] (.string ⟨#[82, 79, 82]⟩) [] := by
  exact fn_of_x hG hM Try.func18 (by kernel_rfl) (by kernel_rfl) 400 [.call [] [(1000, 1000)] 1000 (.slice (some ⟨1000, 0, none⟩) 70 70) rNames_post, .no, .no, .no, .no, .no, .no, .lit 22] (And.intro rNames_p1 (And.intro (Eq.refl false) (And.intro (Eq.refl false) (And.intro (Eq.refl false) (And.intro (Eq.refl false) (And.intro (Eq.refl false) (And.intro (Eq.refl false) (And.intro (Eq.refl (22 : Int)) (And.intro (by decide : 22 < 70) trivial))))))))) (by kernel_rfl)
theorem rName_22_ok  : FnSpec Try.prog 18 1000 [.int .i64 22] [] (.string rName_22) [] := by
  exact rName_22_p1 

/-- kotatsu/kotatsuref08.Name -/
def rName_23  : ByteArray :=
  ⟨#[73, 78, 67]⟩
theorem rName_23_p1  : FnSpec Try.prog 18 1000 [.int .i64 23] [] (.string ⟨#[73, 78, 67]⟩) [] := by
  exact fn_of_x hG hM Try.func18 (by kernel_rfl) (by kernel_rfl) 400 [.call [] [(1000, 1000)] 1000 (.slice (some ⟨1000, 0, none⟩) 70 70) rNames_post, .no, .no, .no, .no, .no, .no, .lit 23] (And.intro rNames_p1 (And.intro (Eq.refl false) (And.intro (Eq.refl false) (And.intro (Eq.refl false) (And.intro (Eq.refl false) (And.intro (Eq.refl false) (And.intro (Eq.refl false) (And.intro (Eq.refl (23 : Int)) (And.intro (by decide : 23 < 70) trivial))))))))) (by kernel_rfl)
theorem rName_23_ok  : FnSpec Try.prog 18 1000 [.int .i64 23] [] (.string rName_23) [] := by
  exact rName_23_p1 

/-- kotatsu/kotatsuref08.Name -/
def rName_24  : ByteArray :=
  ⟨#[68, 69, 67]⟩
theorem rName_24_p1  : FnSpec Try.prog 18 1000 [.int .i64 24] [] (.string ⟨#[68, 69, 67]⟩) [] := by
  exact fn_of_x hG hM Try.func18 (by kernel_rfl) (by kernel_rfl) 400 [.call [] [(1000, 1000)] 1000 (.slice (some ⟨1000, 0, none⟩) 70 70) rNames_post, .no, .no, .no, .no, .no, .no, .lit 24] (And.intro rNames_p1 (And.intro (Eq.refl false) (And.intro (Eq.refl false) (And.intro (Eq.refl false) (And.intro (Eq.refl false) (And.intro (Eq.refl false) (And.intro (Eq.refl false) (And.intro (Eq.refl (24 : Int)) (And.intro (by decide : 24 < 70) trivial))))))))) (by kernel_rfl)
theorem rName_24_ok  : FnSpec Try.prog 18 1000 [.int .i64 24] [] (.string rName_24) [] := by
  exact rName_24_p1 

/-- kotatsu/kotatsuref08.Name -/
def rName_25  : ByteArray :=
  ⟨#[83, 76, 79]⟩
theorem rName_25_p1  : FnSpec Try.prog 18 1000 [.int .i64 25] [] (.string ⟨#[83, 76, 79]⟩) [] := by
  exact fn_of_x hG hM Try.func18 (by kernel_rfl) (by kernel_rfl) 400 [.call [] [(1000, 1000)] 1000 (.slice (some ⟨1000, 0, none⟩) 70 70) rNames_post, .no, .no, .no, .no, .no, .no, .lit 25] (And.intro rNames_p1 (And.intro (Eq.refl false) (And.intro (Eq.refl false) (And.intro (Eq.refl false) (And.intro (Eq.refl false) (And.intro (Eq.refl false) (And.intro (Eq.refl false) (And.intro (Eq.refl (25 : Int)) (And.intro (by decide : 25 < 70) trivial))))))))) (by kernel_rfl)
theorem rName_25_ok  : FnSpec Try.prog 18 1000 [.int .i64 25] [] (.string rName_25) [] := by
  exact rName_25_p1 

/-- kotatsu/kotatsuref08.Name -/
def rName_26  : ByteArray :=
  ⟨#[82, 76, 65]⟩
theorem rName_26_p1  : FnSpec Try.prog 18 1000 [.int .i64 26] [] (.string ⟨#[82, 76, 65]⟩) [] := by
  exact fn_of_x hG hM Try.func18 (by kernel_rfl) (by kernel_rfl) 400 [.call [] [(1000, 1000)] 1000 (.slice (some ⟨1000, 0, none⟩) 70 70) rNames_post, .no, .no, .no, .no, .no, .no, .lit 26] (And.intro rNames_p1 (And.intro (Eq.refl false) (And.intro (Eq.refl false) (And.intro (Eq.refl false) (And.intro (Eq.refl false) (And.intro (Eq.refl false) (And.intro (Eq.refl false) (And.intro (Eq.refl (26 : Int)) (And.intro (by decide : 26 < 70) trivial))))))))) (by kernel_rfl)
theorem rName_26_ok  : FnSpec Try.prog 18 1000 [.int .i64 26] [] (.string rName_26) [] := by
  exact rName_26_p1 

/-- kotatsu/kotatsuref08.Name -/
def rName_27  : ByteArray :=
  ⟨#[83, 82, 69]⟩
theorem rName_27_p1  : FnSpec Try.prog 18 1000 [.int .i64 27] [] (.string ⟨#[83, 82, 69]⟩) [] := by
  exact fn_of_x hG hM Try.func18 (by kernel_rfl) (by kernel_rfl) 400 [.call [] [(1000, 1000)] 1000 (.slice (some ⟨1000, 0, none⟩) 70 70) rNames_post, .no, .no, .no, .no, .no, .no, .lit 27] (And.intro rNames_p1 (And.intro (Eq.refl false) (And.intro (Eq.refl false) (And.intro (Eq.refl false) (And.intro (Eq.refl false) (And.intro (Eq.refl false) (And.intro (Eq.refl false) (And.intro (Eq.refl (27 : Int)) (And.intro (by decide : 27 < 70) trivial))))))))) (by kernel_rfl)
theorem rName_27_ok  : FnSpec Try.prog 18 1000 [.int .i64 27] [] (.string rName_27) [] := by
  exact rName_27_p1 

/-- kotatsu/kotatsuref08.Name -/
def rName_28  : ByteArray :=
  ⟨#[82, 82, 65]⟩
theorem rName_28_p1  : FnSpec Try.prog 18 1000 [.int .i64 28] [] (.string ⟨#[82, 82, 65]⟩) [] := by
  exact fn_of_x hG hM Try.func18 (by kernel_rfl) (by kernel_rfl) 400 [.call [] [(1000, 1000)] 1000 (.slice (some ⟨1000, 0, none⟩) 70 70) rNames_post, .no, .no, .no, .no, .no, .no, .lit 28] (And.intro rNames_p1 (And.intro (Eq.refl false) (And.intro (Eq.refl false) (And.intro (Eq.refl false) (And.intro (Eq.refl false) (And.intro (Eq.refl false) (And.intro (Eq.refl false) (And.intro (Eq.refl (28 : Int)) (And.intro (by decide : 28 < 70) trivial))))))))) (by kernel_rfl)
theorem rName_28_ok  : FnSpec Try.prog 18 1000 [.int .i64 28] [] (.string rName_28) [] := by
  exact rName_28_p1 

/-- kotatsu/kotatsuref08.Name -/
def rName_29  : ByteArray :=
  ⟨#[68, 67, 80]⟩
theorem rName_29_p1  : FnSpec Try.prog 18 1000 [.int .i64 29] [] (.string ⟨#[68, 67, 80]⟩) [] := by
  exact fn_of_x hG hM Try.func18 (by kernel_rfl) (by kernel_rfl) 400 [.call [] [(1000, 1000)] 1000 (.slice (some ⟨1000, 0, none⟩) 70 70) rNames_post, .no, .no, .no, .no, .no, .no, .lit 29] (And.intro rNames_p1 (And.intro (Eq.refl false) (And.intro (Eq.refl false) (And.intro (Eq.refl false) (And.intro (Eq.refl false) (And.intro (Eq.refl false) (And.intro (Eq.refl false) (And.intro (Eq.refl (29 : Int)) (And.intro (by decide : 29 < 70) trivial))))))))) (by kernel_rfl)
theorem rName_29_ok  : FnSpec Try.prog 18 1000 [.int .i64 29] [] (.string rName_29) [] := by
  exact rName_29_p1 

/-- kotatsu/kotatsuref08.Name -/
def rName_30  : ByteArray :=
  ⟨#[73, 83, 67]⟩
theorem rName_30_p1  : FnSpec Try.prog 18 1000 [.int .i64 30] [] (.string ⟨#[73, 83, 67]⟩) [] := by
  exact fn_of_x hG hM Try.func18 (by kernel_rfl) (by kernel_rfl) 400 [.call [] [(1000, 1000)] 1000 (.slice (some ⟨1000, 0, none⟩) 70 70) rNames_post, .no, .no, .no, .no, .no, .no, .lit 30] (And.intro rNames_p1 (And.intro (Eq.refl false) (And.intro (Eq.refl false) (And.intro (Eq.refl false) (And.intro (Eq.refl false) (And.intro (Eq.refl false) (And.intro (Eq.refl false) (And.intro (Eq.refl (30 : Int)) (And.intro (by decide : 30 < 70) trivial))))))))) (by kernel_rfl)
theorem rName_30_ok  : FnSpec Try.prog 18 1000 [.int .i64 30] [] (.string rName_30) [] := by
  exact rName_30_p1 

/-- kotatsu/kotatsuref08.Name -/
def rName_31  : ByteArray :=
  ⟨#[83, 84, 65]⟩
theorem rName_31_p1  : FnSpec Try.prog 18 1000 [.int .i64 31] [] (.string ⟨#[83, 84, 65]⟩) [] := by
  exact fn_of_x hG hM Try.func18 (by kernel_rfl) (by kernel_rfl) 400 [.call [] [(1000, 1000)] 1000 (.slice (some ⟨1000, 0, none⟩) 70 70) rNames_post, .no, .no, .no, .no, .no, .no, .lit 31] (And.intro rNames_p1 (And.intro (Eq.refl false) (And.intro (Eq.refl false) (And.intro (Eq.refl false) (And.intro (Eq.refl false) (And.intro (Eq.refl false) (And.intro (Eq.refl false) (And.intro (Eq.refl (31 : Int)) (And.intro (by decide : 31 < 70) trivial))))))))) (by kernel_rfl)
theorem rName_31_ok  : FnSpec Try.prog 18 1000 [.int .i64 31] [] (.string rName_31) [] := by
  exact rName_31_p1 

/-- kotatsu/kotatsuref08.Name -/
def rName_32  : ByteArray :=
  ⟨#[83, 84, 88]⟩
theorem rName_32_p1  : FnSpec Try.prog 18 1000 [.int .i64 32] [] (.string ⟨#[83, 84, 88]⟩) [] := by
  exact fn_of_x hG hM Try.func18 (by kernel_rfl) (by kernel_rfl) 400 [.call [] [(1000, 1000)] 1000 (.slice (some ⟨1000, 0, none⟩) 70 70) rNames_post, .no, .no, .no, .no, .no, .no, .lit 32] (And.intro rNames_p1 (And.intro (Eq.refl false) (And.intro (Eq.refl false) (And.intro (Eq.refl false) (And.intro (Eq.refl false) (And.intro (Eq.refl false) (And.intro (Eq.refl false) (And.intro (Eq.refl (32 : Int)) (And.intro (by decide : 32 < 70) trivial))))))))) (by kernel_rfl)
theorem rName_32_ok  : FnSpec Try.prog 18 1000 [.int .i64 32] [] (.string rName_32) [] := by
  exact rName_32_p1 

/-- kotatsu/kotatsuref08.Name -/
def rName_33  : ByteArray :=
  ⟨#[83, 84, 89]⟩
theorem rName_33_p1  : FnSpec Try.prog 18 1000 [.int .i64 33] [] (.string ⟨#[83, 84, 89]⟩) [] := by
  exact fn_of_x hG hM Try.func18 (by kernel_rfl) (by kernel_rfl) 400 [.call [] [(1000, 1000)] 1000 (.slice (some ⟨1000, 0, none⟩) 70 70) rNames_post, .no, .no, .no, .no, .no, .no, .lit 33] (And.intro rNames_p1 (And.intro (Eq.refl false) (And.intro (Eq.refl false) (And.intro (Eq.refl false) (And.intro (Eq.refl false) (And.intro (Eq.refl false) (And.intro (Eq.refl false) (And.intro (Eq.refl (33 : Int)) (And.intro (by decide : 33 < 70) trivial))))))))) (by kernel_rfl)
theorem rName_33_ok  : FnSpec Try.prog 18 1000 [.int .i64 33] [] (.string rName_33) [] := by
  exact rName_33_p1 

/-- kotatsu/kotatsuref08.Name -/
def rName_34  : ByteArray :=
  ⟨#[83, 65, 88]⟩
theorem rName_34_p1  : FnSpec Try.prog 18 1000 [.int .i64 34] [] (.string ⟨#[83, 65, 88]⟩) [] := by
  exact fn_of_x hG hM Try.func18 (by kernel_rfl) (by kernel_rfl) 400 [.call [] [(1000, 1000)] 1000 (.slice (some ⟨1000, 0, none⟩) 70 70) rNames_post, .no, .no, .no, .no, .no, .no, .lit 34] (And.intro rNames_p1 (And.intro (Eq.refl false) (And.intro (Eq.refl false) (And.intro (Eq.refl false) (And.intro (Eq.refl false) (And.intro (Eq.refl false) (And.intro (Eq.refl false) (And.intro (Eq.refl (34 : Int)) (And.intro (by decide : 34 < 70) trivial))))))))) (by kernel_rfl)
theorem rName_34_ok  : FnSpec Try.prog 18 1000 [.int .i64 34] [] (.string rName_34) [] := by
  exact rName_34_p1 

/-- kotatsu/kotatsuref08.Name -/
def rName_35  : ByteArray :=
  ⟨#[84, 65, 88]⟩
theorem rName_35_p1  : FnSpec Try.prog 18 1000 [.int .i64 35] [] (.string ⟨#[84, 65, 88]⟩) [] := by
  exact fn_of_x hG hM Try.func18 (by kernel_rfl) (by kernel_rfl) 400 [.call [] [(1000, 1000)] 1000 (.slice (some ⟨1000, 0, none⟩) 70 70) rNames_post, .no, .no, .no, .no, .no, .no, .lit 35] (And.intro rNames_p1 (And.intro (Eq.refl false) (And.intro (Eq.refl false) (And.intro (Eq.refl false) (And.intro (Eq.refl false) (And.intro (Eq.refl false) (And.intro (Eq.refl false) (And.intro (Eq.refl (35 : Int)) (And.intro (by decide : 35 < 70) trivial))))))))) (by kernel_rfl)
theorem rName_35_ok  : FnSpec Try.prog 18 1000 [.int .i64 35] [] (.string rName_35) [] := by
  exact rName_35_p1 

/-- kotatsu/kotatsuref08.Name -/
def rName_36  : ByteArray :=
  ⟨#[84, 65, 89]⟩
theorem rName_36_p1  : FnSpec Try.prog 18 1000 [.int .i64 36] [] (.string ⟨#[84, 65, 89]⟩) [] := by
  exact fn_of_x hG hM Try.func18 (by kernel_rfl) (by kernel_rfl) 400 [.call [] [(1000, 1000)] 1000 (.slice (some ⟨1000, 0, none⟩) 70 70) rNames_post, .no, .no, .no, .no, .no, .no, .lit 36] (And.intro rNames_p1 (And.intro (Eq.refl false) (And.intro (Eq.refl false) (And.intro (Eq.refl false) (And.intro (Eq.refl false) (And.intro (Eq.refl false) (And.intro (Eq.refl false) (And.intro (Eq.refl (36 : Int)) (And.intro (by decide : 36 < 70) trivial))))))))) (by kernel_rfl)
theorem rName_36_ok  : FnSpec Try.prog 18 1000 [.int .i64 36] [] (.string rName_36) [] := by
  exact rName_36_p1 

/-- kotatsu/kotatsuref08.Name -/
def rName_37  : ByteArray :=
  ⟨#[84, 88, 65]⟩
theorem rName_37_p1  : FnSpec Try.prog 18 1000 [.int .i64 37] [] (.string ⟨#[84, 88, 65]⟩) [] := by
  exact fn_of_x hG hM Try.func18 (by kernel_rfl) (by kernel_rfl) 400 [.call [] [(1000, 1000)] 1000 (.slice (some ⟨1000, 0, none⟩) 70 70) rNames_post, .no, .no, .no, .no, .no, .no, .lit 37] (And.intro rNames_p1 (And.intro (Eq.refl false) (And.intro (Eq.refl false) (And.intro (Eq.refl false) (And.intro (Eq.refl false) (And.intro (Eq.refl false) (And.intro (Eq.refl false) (And.intro (Eq.refl (37 : Int)) (And.intro (by decide : 37 < 70) trivial))))))))) (by kernel_rfl)
theorem rName_37_ok  : FnSpec Try.prog 18 1000 [.int .i64 37] [] (.string rName_37) [] := by
  exact rName_37_p1 

/-- kotatsu/kotatsuref08.Name -/
def rName_38  : ByteArray :=
  ⟨#[84, 89, 65]⟩
theorem rName_38_p1  : FnSpec Try.prog 18 1000 [.int .i64 38] [] (.string ⟨#[84, 89, 65]⟩) [] := by
  exact fn_of_x hG hM Try.func18 (by kernel_rfl) (by kernel_rfl) 400 [.call [] [(1000, 1000)] 1000 (.slice (some ⟨1000, 0, none⟩) 70 70) rNames_post, .no, .no, .no, .no, .no, .no, .lit 38] (And.intro rNames_p1 (And.intro (Eq.refl false) (And.intro (Eq.refl false) (And.intro (Eq.refl false) (And.intro (Eq.refl false) (And.intro (Eq.refl false) (And.intro (Eq.refl false) (And.intro (Eq.refl (38 : Int)) (And.intro (by decide : 38 < 70) trivial))))))))) (by kernel_rfl)
theorem rName_38_ok  : FnSpec Try.prog 18 1000 [.int .i64 38] [] (.string rName_38) [] := by
  exact rName_38_p1 

/-- kotatsu/kotatsuref08.Name -/
def rName_39  : ByteArray :=
  ⟨#[84, 83, 88]⟩
theorem rName_39_p1  : FnSpec Try.prog 18 1000 [.int .i64 39] [] (.string ⟨#[84, 83, 88]⟩) [] := by
  exact fn_of_x hG hM Try.func18 (by kernel_rfl) (by kernel_rfl) 400 [.call [] [(1000, 1000)] 1000 (.slice (some ⟨1000, 0, none⟩) 70 70) rNames_post, .no, .no, .no, .no, .no, .no, .lit 39] (And.intro rNames_p1 (And.intro (Eq.refl false) (And.intro (Eq.refl false) (And.intro (Eq.refl false) (And.intro (Eq.refl false) (And.intro (Eq.refl false) (And.intro (Eq.refl false) (And.intro (Eq.refl (39 : Int)) (And.intro (by decide : 39 < 70) trivial))))))))) (by kernel_rfl)
theorem rName_39_ok  : FnSpec Try.prog 18 1000 [.int .i64 39] [] (.string rName_39) [] := by
  exact rName_39_p1 

/-- kotatsu/kotatsuref08.Name -/
def rName_40  : ByteArray :=
  ⟨#[84, 88, 83]⟩
theorem rName_40_p1  : FnSpec Try.prog 18 1000 [.int .i64 40] [] (.string ⟨#[84, 88, 83]⟩) [] := by
  exact fn_of_x hG hM Try.func18 (by kernel_rfl) (by kernel_rfl) 400 [.call [] [(1000, 1000)] 1000 (.slice (some ⟨1000, 0, none⟩) 70 70) rNames_post, .no, .no, .no, .no, .no, .no, .lit 40] (And.intro rNames_p1 (And.intro (Eq.refl false) (And.intro (Eq.refl false) (And.intro (Eq.refl false) (And.intro (Eq.refl false) (And.intro (Eq.refl false) (And.intro (Eq.refl false) (And.intro (Eq.refl (40 : Int)) (And.intro (by decide : 40 < 70) trivial))))))))) (by kernel_rfl)
theorem rName_40_ok  : FnSpec Try.prog 18 1000 [.int .i64 40] [] (.string rName_40) [] := by
  exact rName_40_p1 

/-- kotatsu/kotatsuref08.Name -/
def rName_41  : ByteArray :=
  ⟨#[73, 78, 88]⟩
theorem rName_41_p1  : FnSpec Try.prog 18 1000 [.int .i64 41] [] (.string ⟨#[73, 78, 88]⟩) [] := by
  exact fn_of_x hG hM Try.func18 (by kernel_rfl) (by kernel_rfl) 400 [.call [] [(1000, 1000)] 1000 (.slice (some ⟨1000, 0, none⟩) 70 70) rNames_post, .no, .no, .no, .no, .no, .no, .lit 41] (And.intro rNames_p1 (And.intro (Eq.refl false) (And.intro (Eq.refl false) (And.intro (Eq.refl false) (And.intro (Eq.refl false) (And.intro (Eq.refl false) (And.intro (Eq.refl false) (And.intro (Eq.refl (41 : Int)) (And.intro (by decide : 41 < 70) trivial))))))))) (by kernel_rfl)
theorem rName_41_ok  : FnSpec Try.prog 18 1000 [.int .i64 41] [] (.string rName_41) [] := by
  exact rName_41_p1 

/-- kotatsu/kotatsuref08.Name -/
def rName_42  : ByteArray :=
  ⟨#[73, 78, 89]⟩
theorem rName_42_p1  : FnSpec Try.prog 18 1000 [.int .i64 42] [] (.string ⟨#[73, 78, 89]⟩) [] := by
  exact fn_of_x hG hM Try.func18 (by kernel_rfl) (by kernel_rfl) 400 [.call [] [(1000, 1000)] 1000 (.slice (some ⟨1000, 0, none⟩) 70 70) rNames_post, .no, .no, .no, .no, .no, .no, .lit 42] (And.intro rNames_p1 (And.intro (Eq.refl false) (And.intro (Eq.refl false) (And.intro (Eq.refl false) (And.intro (Eq.refl false) (And.intro (Eq.refl false) (And.intro (Eq.refl false) (And.intro (Eq.refl (42 : Int)) (And.intro (by decide : 42 < 70) trivial))))))))) (by kernel_rfl)
theorem rName_42_ok  : FnSpec Try.prog 18 1000 [.int .i64 42] [] (.string rName_42) [] := by
  exact rName_42_p1 

/-- kotatsu/kotatsuref08.Name -/
def rName_43  : ByteArray :=
  ⟨#[68, 69, 88]⟩
theorem rName_43_p1  : FnSpec Try.prog 18 1000 [.int .i64 43] [] (.string ⟨#[68, 69, 88]⟩) [] := by
  exact fn_of_x hG hM Try.func18 (by kernel_rfl) (by kernel_rfl) 400 [.call [] [(1000, 1000)] 1000 (.slice (some ⟨1000, 0, none⟩) 70 70) rNames_post, .no, .no, .no, .no, .no, .no, .lit 43] (And.intro rNames_p1 (And.intro (Eq.refl false) (And.intro (Eq.refl false) (And.intro (Eq.refl false) (And.intro (Eq.refl false) (And.intro (Eq.refl false) (And.intro (Eq.refl false) (And.intro (Eq.refl (43 : Int)) (And.intro (by decide : 43 < 70) trivial))))))))) (by kernel_rfl)
theorem rName_43_ok  : FnSpec Try.prog 18 1000 [.int .i64 43] [] (.string rName_43) [] := by
  exact rName_43_p1 

/-- kotatsu/kotatsuref08.Name -/
def rName_44  : ByteArray :=
  ⟨#[68, 69, 89]⟩
theorem rName_44_p1  : FnSpec Try.prog 18 1000 [.int .i64 44] [] (.string ⟨#[68, 69, 89]⟩) [] := by
  exact fn_of_x hG hM Try.func18 (by kernel_rfl) (by kernel_rfl) 400 [.call [] [(1000, 1000)] 1000 (.slice (some ⟨1000, 0, none⟩) 70 70) rNames_post, .no, .no, .no, .no, .no, .no, .lit 44] (And.intro rNames_p1 (And.intro (Eq.refl false) (And.intro (Eq.refl false) (And.intro (Eq.refl false) (And.intro (Eq.refl false) (And.intro (Eq.refl false) (And.intro (Eq.refl false) (And.intro (Eq.refl (44 : Int)) (And.intro (by decide : 44 < 70) trivial))))))))) (by kernel_rfl)
theorem rName_44_ok  : FnSpec Try.prog 18 1000 [.int .i64 44] [] (.string rName_44) [] := by
  exact rName_44_p1 

/-- kotatsu/kotatsuref08.Name -/
def rName_45  : ByteArray :=
  ⟨#[67, 76, 67]⟩
theorem rName_45_p1  : FnSpec Try.prog 18 1000 [.int .i64 45] [] (.string ⟨#[67, 76, 67]⟩) [] := by
  exact fn_of_x hG hM Try.func18 (by kernel_rfl) (by kernel_rfl) 400 [.call [] [(1000, 1000)] 1000 (.slice (some ⟨1000, 0, none⟩) 70 70) rNames_post, .no, .no, .no, .no, .no, .no, .lit 45] (And.intro rNames_p1 (And.intro (Eq.refl false) (And.intro (Eq.refl false) (And.intro (Eq.refl false) (And.intro (Eq.refl false) (And.intro (Eq.refl false) (And.intro (Eq.refl false) (And.intro (Eq.refl (45 : Int)) (And.intro (by decide : 45 < 70) trivial))))))))) (by kernel_rfl)
theorem rName_45_ok  : FnSpec Try.prog 18 1000 [.int .i64 45] [] (.string rName_45) [] := by
  exact rName_45_p1 

/-- kotatsu/kotatsuref08.Name -/
def rName_46  : ByteArray :=
  ⟨#[83, 69, 67]⟩
theorem rName_46_p1  : FnSpec Try.prog 18 1000 [.int .i64 46] [] (.string ⟨#[83, 69, 67]⟩) [] := by
  exact fn_of_x hG hM Try.func18 (by kernel_rfl) (by kernel_rfl) 400 [.call [] [(1000, 1000)] 1000 (.slice (some ⟨1000, 0, none⟩) 70 70) rNames_post, .no, .no, .no, .no, .no, .no, .lit 46] (And.intro rNames_p1 (And.intro (Eq.refl false) (And.intro (Eq.refl false) (And.intro (Eq.refl false) (And.intro (Eq.refl false) (And.intro (Eq.refl false) (And.intro (Eq.refl false) (And.intro (Eq.refl (46 : Int)) (And.intro (by decide : 46 < 70) trivial))))))))) (by kernel_rfl)
theorem rName_46_ok  : FnSpec Try.prog 18 1000 [.int .i64 46] [] (.string rName_46) [] := by
  exact rName_46_p1 

/-- kotatsu/kotatsuref08.Name -/
def rName_47  : ByteArray :=
  ⟨#[67, 76, 73]⟩
theorem rName_47_p1  : FnSpec Try.prog 18 1000 [.int .i64 47] [] (.string ⟨#[67, 76, 73]⟩) [] := by
  exact fn_of_x hG hM Try.func18 (by kernel_rfl) (by kernel_rfl) 400 [.call [] [(1000, 1000)] 1000 (.slice (some ⟨1000, 0, none⟩) 70 70) rNames_post, .no, .no, .no, .no, .no, .no, .lit 47] (And.intro rNames_p1 (And.intro (Eq.refl false) (And.intro (Eq.refl false) (And.intro (Eq.refl false) (And.intro (Eq.refl false) (And.intro (Eq.refl false) (And.intro (Eq.refl false) (And.intro (Eq.refl (47 : Int)) (And.intro (by decide : 47 < 70) trivial))))))))) (by kernel_rfl)
theorem rName_47_ok  : FnSpec Try.prog 18 1000 [.int .i64 47] [] (.string rName_47) [] := by
  exact rName_47_p1 

/-- kotatsu/kotatsuref08.Name -/
def rName_48  : ByteArray :=
  ⟨#[83, 69, 73]⟩
theorem rName_48_p1  : FnSpec Try.prog 18 1000 [.int .i64 48] [] (.string ⟨#[83, 69, 73]⟩) [] := by
  exact fn_of_x hG hM Try.func18 (by kernel_rfl) (by kernel_rfl) 400 [.call [] [(1000, 1000)] 1000 (.slice (some ⟨1000, 0, none⟩) 70 70) rNames_post, .no, .no, .no, .no, .no, .no, .lit 48] (And.intro rNames_p1 (And.intro (Eq.refl false) (And.intro (Eq.refl false) (And.intro (Eq.refl false) (And.intro (Eq.refl false) (And.intro (Eq.refl false) (And.intro (Eq.refl false) (And.intro (Eq.refl (48 : Int)) (And.intro (by decide : 48 < 70) trivial))))))))) (by kernel_rfl)
theorem rName_48_ok  : FnSpec Try.prog 18 1000 [.int .i64 48] [] (.string rName_48) [] := by
  exact rName_48_p1 

/-- kotatsu/kotatsuref08.Name -/
def rName_49  : ByteArray :=
  ⟨#[67, 76, 86]⟩
theorem rName_49_p1  : FnSpec Try.prog 18 1000 [.int .i64 49] [] (.string ⟨#[67, 76, 86]⟩) [] := by
  exact fn_of_x hG hM Try.func18 (by kernel_rfl) (by kernel_rfl) 400 [.call [] [(1000, 1000)] 1000 (.slice (some ⟨1000, 0, none⟩) 70 70) rNames_post, .no, .no, .no, .no, .no, .no, .lit 49] (And.intro rNames_p1 (And.intro (Eq.refl false) (And.intro (Eq.refl false) (And.intro (Eq.refl false) (And.intro (Eq.refl false) (And.intro (Eq.refl false) (And.intro (Eq.refl false) (And.intro (Eq.refl (49 : Int)) (And.intro (by decide : 49 < 70) trivial))))))))) (by kernel_rfl)
theorem rName_49_ok  : FnSpec Try.prog 18 1000 [.int .i64 49] [] (.string rName_49) [] := by
  exact rName_49_p1 

/-- kotatsu/kotatsuref08.Name -/
def rName_50  : ByteArray :=
  ⟨#[67, 76, 68]⟩
theorem rName_50_p1  : FnSpec Try.prog 18 1000 [.int .i64 50] [] (.string ⟨#[67, 76, 68]⟩) [] := by
  exact fn_of_x hG hM Try.func18 (by kernel_rfl) (by kernel_rfl) 400 [.call [] [(1000, 1000)] 1000 (.slice (some ⟨1000, 0, none⟩) 70 70) rNames_post, .no, .no, .no, .no, .no, .no, .lit 50] (And.intro rNames_p1 (And.intro (Eq.refl false) (And.intro (Eq.refl false) (And.intro (Eq.refl false) (And.intro (Eq.refl false) (And.intro (Eq.refl false) (And.intro (Eq.refl false) (And.intro (Eq.refl (50 : Int)) (And.intro (by decide : 50 < 70) trivial))))))))) (by kernel_rfl)
theorem rName_50_ok  : FnSpec Try.prog 18 1000 [.int .i64 50] [] (.string rName_50) [] := by
  exact rName_50_p1 

/-- kotatsu/kotatsuref08.Name -/
def rName_51  : ByteArray :=
  ⟨#[83, 69, 68]⟩
theorem rName_51_p1  : FnSpec Try.prog 18 1000 [.int .i64 51] [] (.string ⟨#[83, 69, 68]⟩) [] := by
  exact fn_of_x hG hM Try.func18 (by kernel_rfl) (by kernel_rfl) 400 [.call [] [(1000, 1000)] 1000 (.slice (some ⟨1000, 0, none⟩) 70 70) rNames_post, .no, .no, .no, .no, .no, .no, .lit 51] (And.intro rNames_p1 (And.intro (Eq.refl false) (And.intro (Eq.refl false) (And.intro (Eq.refl false) (And.intro (Eq.refl false) (And.intro (Eq.refl false) (And.intro (Eq.refl false) (And.intro (Eq.refl (51 : Int)) (And.intro (by decide : 51 < 70) trivial))))))))) (by kernel_rfl)
theorem rName_51_ok  : FnSpec Try.prog 18 1000 [.int .i64 51] [] (.string rName_51) [] := by
  exact rName_51_p1 

/-- kotatsu/kotatsuref08.Name -/
def rName_52  : ByteArray :=
  ⟨#[66, 80, 76]⟩
theorem rName_52_p1  : FnSpec Try.prog 18 1000 [.int .i64 52] [] (.string ⟨#[66, 80, 76]⟩) [] := by
  exact fn_of_x hG hM Try.func18 (by kernel_rfl) (by kernel_rfl) 400 [.call [] [(1000, 1000)] 1000 (.slice (some ⟨1000, 0, none⟩) 70 70) rNames_post, .no, .no, .no, .no, .no, .no, .lit 52] (And.intro rNames_p1 (And.intro (Eq.refl false) (And.intro (Eq.refl false) (And.intro (Eq.refl false) (And.intro (Eq.refl false) (And.intro (Eq.refl false) (And.intro (Eq.refl false) (And.intro (Eq.refl (52 : Int)) (And.intro (by decide : 52 < 70) trivial))))))))) (by kernel_rfl)
theorem rName_52_ok  : FnSpec Try.prog 18 1000 [.int .i64 52] [] (.string rName_52) [] := by
  exact rName_52_p1 

/-- kotatsu/kotatsuref08.Name -/
def rName_53  : ByteArray :=
  ⟨#[66, 77, 73]⟩
theorem rName_53_p1  : FnSpec Try.prog 18 1000 [.int .i64 53] [] (.string ⟨#[66, 77, 73]⟩) [] := by
  exact fn_of_x hG hM Try.func18 (by kernel_rfl) (by kernel_rfl) 400 [.call [] [(1000, 1000)] 1000 (.slice (some ⟨1000, 0, none⟩) 70 70) rNames_post, .no, .no, .no, .no, .no, .no, .lit 53] (And.intro rNames_p1 (And.intro (Eq.refl false) (And.intro (Eq.refl false) (And.intro (Eq.refl false) (And.intro (Eq.refl false) (And.intro (Eq.refl false) (And.intro (Eq.refl false) (And.intro (Eq.refl (53 : Int)) (And.intro (by decide : 53 < 70) trivial))))))))) (by kernel_rfl)
theorem rName_53_ok  : FnSpec Try.prog 18 1000 [.int .i64 53] [] (.string rName_53) [] := by
  exact rName_53_p1 

/-- kotatsu/kotatsuref08.Name -/
def rName_54  : ByteArray :=
  ⟨#[66, 86, 67]⟩
theorem rName_54_p1  : FnSpec Try.prog 18 1000 [.int .i64 54] [] (.string ⟨#[66, 86, 67]⟩) [] := by
  exact fn_of_x hG hM Try.func18 (by kernel_rfl) (by kernel_rfl) 400 [.call [] [(1000, 1000)] 1000 (.slice (some ⟨1000, 0, none⟩) 70 70) rNames_post, .no, .no, .no, .no, .no, .no, .lit 54] (And.intro rNames_p1 (And.intro (Eq.refl false) (And.intro (Eq.refl false) (And.intro (Eq.refl false) (And.intro (Eq.refl false) (And.intro (Eq.refl false) (And.intro (Eq.refl false) (And.intro (Eq.refl (54 : Int)) (And.intro (by decide : 54 < 70) trivial))))))))) (by kernel_rfl)
theorem rName_54_ok  : FnSpec Try.prog 18 1000 [.int .i64 54] [] (.string rName_54) [] := by
  exact rName_54_p1 

/-- kotatsu/kotatsuref08.Name -/
def rName_55  : ByteArray :=
  ⟨#[66, 86, 83]⟩
theorem rName_55_p1  : FnSpec Try.prog 18 1000 [.int .i64 55] [] (.string ⟨#[66, 86, 83]⟩) [] := by
  exact fn_of_x hG hM Try.func18 (by kernel_rfl) (by kernel_rfl) 400 [.call [] [(1000, 1000)] 1000 (.slice (some ⟨1000, 0, none⟩) 70 70) rNames_post, .no, .no, .no, .no, .no, .no, .lit 55] (And.intro rNames_p1 (And.intro (Eq.refl false) (And.intro (Eq.refl false) (And.intro (Eq.refl false) (And.intro (Eq.refl false) (And.intro (Eq.refl false) (And.intro (Eq.refl false) (And.intro (Eq.refl (55 : Int)) (And.intro (by decide : 55 < 70) trivial))))))))) (by kernel_rfl)
theorem rName_55_ok  : FnSpec Try.prog 18 1000 [.int .i64 55] [] (.string rName_55) [] := by
  exact rName_55_p1 

/-- kotatsu/kotatsuref08.Name -/
def rName_56  : ByteArray :=
  ⟨#[66, 67, 67]⟩
theorem rName_56_p1  : FnSpec Try.prog 18 1000 [.int .i64 56] [] (.string ⟨#[66, 67, 67]⟩) [] := by
  exact fn_of_x hG hM Try.func18 (by kernel_rfl) (by kernel_rfl) 400 [.call [] [(1000, 1000)] 1000 (.slice (some ⟨1000, 0, none⟩) 70 70) rNames_post, .no, .no, .no, .no, .no, .no, .lit 56] (And.intro rNames_p1 (And.intro (Eq.refl false) (And.intro (Eq.refl false) (And.intro (Eq.refl false) (And.intro (Eq.refl false) (And.intro (Eq.refl false) (And.intro (Eq.refl false) (And.intro (Eq.refl (56 : Int)) (And.intro (by decide : 56 < 70) trivial))))))))) (by kernel_rfl)
theorem rName_56_ok  : FnSpec Try.prog 18 1000 [.int .i64 56] [] (.string rName_56) [] := by
  exact rName_56_p1 

/-- kotatsu/kotatsuref08.Name -/
def rName_57  : ByteArray :=
  ⟨#[66, 67, 83]⟩
theorem rName_57_p1  : FnSpec Try.prog 18 1000 [.int .i64 57] [] (.string ⟨#[66, 67, 83]⟩) [] := by
  exact fn_of_x hG hM Try.func18 (by kernel_rfl) (by kernel_rfl) 400 [.call [] [(1000, 1000)] 1000 (.slice (some ⟨1000, 0, none⟩) 70 70) rNames_post, .no, .no, .no, .no, .no, .no, .lit 57] (And.intro rNames_p1 (And.intro (Eq.refl false) (And.intro (Eq.refl false) (And.intro (Eq.refl false) (And.intro (Eq.refl false) (And.intro (Eq.refl false) (And.intro (Eq.refl false) (And.intro (Eq.refl (57 : Int)) (And.intro (by decide : 57 < 70) trivial))))))))) (by kernel_rfl)
theorem rName_57_ok  : FnSpec Try.prog 18 1000 [.int .i64 57] [] (.string rName_57) [] := by
  exact rName_57_p1 

/-- kotatsu/kotatsuref08.Name -/
def rName_58  : ByteArray :=
  ⟨#[66, 78, 69]⟩
theorem rName_58_p1  : FnSpec Try.prog 18 1000 [.int .i64 58] [] (.string ⟨#[66, 78, 69]⟩) [] := by
  exact fn_of_x hG hM Try.func18 (by kernel_rfl) (by kernel_rfl) 400 [.call [] [(1000, 1000)] 1000 (.slice (some ⟨1000, 0, none⟩) 70 70) rNames_post, .no, .no, .no, .no, .no, .no, .lit 58] (And.intro rNames_p1 (And.intro (Eq.refl false) (And.intro (Eq.refl false) (And.intro (Eq.refl false) (And.intro (Eq.refl false) (And.intro (Eq.refl false) (And.intro (Eq.refl false) (And.intro (Eq.refl (58 : Int)) (And.intro (by decide : 58 < 70) trivial))))))))) (by kernel_rfl)
theorem rName_58_ok  : FnSpec Try.prog 18 1000 [.int .i64 58] [] (.string rName_58) [] := by
  exact rName_58_p1 

/-- kotatsu/kotatsuref08.Name -/
def rName_59  : ByteArray :=
  ⟨#[66, 69, 81]⟩
theorem rName_59_p1  : FnSpec Try.prog 18 1000 [.int .i64 59] [] (.string ⟨#[66, 69, 81]⟩) [] := by
  exact fn_of_x hG hM Try.func18 (by kernel_rfl) (by kernel_rfl) 400 [.call [] [(1000, 1000)] 1000 (.slice (some ⟨1000, 0, none⟩) 70 70) rNames_post, .no, .no, .no, .no, .no, .no, .lit 59] (And.intro rNames_p1 (And.intro (Eq.refl false) (And.intro (Eq.refl false) (And.intro (Eq.refl false) (And.intro (Eq.refl false) (And.intro (Eq.refl false) (And.intro (Eq.refl false) (And.intro (Eq.refl (59 : Int)) (And.intro (by decide : 59 < 70) trivial))))))))) (by kernel_rfl)
theorem rName_59_ok  : FnSpec Try.prog 18 1000 [.int .i64 59] [] (.string rName_59) [] := by
  exact rName_59_p1 

/-- kotatsu/kotatsuref08.Name -/
def rName_60  : ByteArray :=
  ⟨#[74, 77, 80]⟩
theorem rName_60_p1  : FnSpec Try.prog 18 1000 [.int .i64 60] [] (.string ⟨#[74, 77, 80]⟩) [] := by
  exact fn_of_x hG hM Try.func18 (by kernel_rfl) (by kernel_rfl) 400 [.call [] [(1000, 1000)] 1000 (.slice (some ⟨1000, 0, none⟩) 70 70) rNames_post, .no, .no, .no, .no, .no, .no, .lit 60] (And.intro rNames_p1 (And.intro (Eq.refl false) (And.intro (Eq.refl false) (And.intro (Eq.refl false) (And.intro (Eq.refl false) (And.intro (Eq.refl false) (And.intro (Eq.refl false) (And.intro (Eq.refl (60 : Int)) (And.intro (by decide : 60 < 70) trivial))))))))) (by kernel_rfl)
theorem rName_60_ok  : FnSpec Try.prog 18 1000 [.int .i64 60] [] (.string rName_60) [] := by
  exact rName_60_p1 

/-- kotatsu/kotatsuref08.Name -/
def rName_61  : ByteArray :=
  ⟨#[74, 83, 82]⟩
theorem rName_61_p1  : FnSpec Try.prog 18 1000 [.int .i64 61] [] (.string ⟨#[74, 83, 82]⟩) [] := by
  exact fn_of_x hG hM Try.func18 (by kernel_rfl) (by kernel_rfl) 400 [.call [] [(1000, 1000)] 1000 (.slice (some ⟨1000, 0, none⟩) 70 70) rNames_post, .no, .no, .no, .no, .no, .no, .lit 61] (And.intro rNames_p1 (And.intro (Eq.refl false) (And.intro (Eq.refl false) (And.intro (Eq.refl false) (And.intro (Eq.refl false) (And.intro (Eq.refl false) (And.intro (Eq.refl false) (And.intro (Eq.refl (61 : Int)) (And.intro (by decide : 61 < 70) trivial))))))))) (by kernel_rfl)
theorem rName_61_ok  : FnSpec Try.prog 18 1000 [.int .i64 61] [] (.string rName_61) [] := by
  exact rName_61_p1 

/-- kotatsu/kotatsuref08.Name -/
def rName_62  : ByteArray :=
  ⟨#[82, 84, 83]⟩
theorem rName_62_p1  : FnSpec Try.prog 18 1000 [.int .i64 62] [] (.string ⟨#[82, 84, 83]⟩) [] := by
  exact fn_of_x hG hM Try.func18 (by kernel_rfl) (by kernel_rfl) 400 [.call [] [(1000, 1000)] 1000 (.slice (some ⟨1000, 0, none⟩) 70 70) rNames_post, .no, .no, .no, .no, .no, .no, .lit 62] (And.intro rNames_p1 (And.intro (Eq.refl false) (And.intro (Eq.refl false) (And.intro (Eq.refl false) (And.intro (Eq.refl false) (And.intro (Eq.refl false) (And.intro (Eq.refl false) (And.intro (Eq.refl (62 : Int)) (And.intro (by decide : 62 < 70) trivial))))))))) (by kernel_rfl)
theorem rName_62_ok  : FnSpec Try.prog 18 1000 [.int .i64 62] [] (.string rName_62) [] := by
  exact rName_62_p1 

/-- kotatsu/kotatsuref08.Name -/
def rName_63  : ByteArray :=
  ⟨#[82, 84, 73]⟩
theorem rName_63_p1  : FnSpec Try.prog 18 1000 [.int .i64 63] [] (.string ⟨#[82, 84, 73]⟩) [] := by
  exact fn_of_x hG hM Try.func18 (by kernel_rfl) (by kernel_rfl) 400 [.call [] [(1000, 1000)] 1000 (.slice (some ⟨1000, 0, none⟩) 70 70) rNames_post, .no, .no, .no, .no, .no, .no, .lit 63] (And.intro rNames_p1 (And.intro (Eq.refl false) (And.intro (Eq.refl false) (And.intro (Eq.refl false) (And.intro (Eq.refl false) (And.intro (Eq.refl false) (And.intro (Eq.refl false) (And.intro (Eq.refl (63 : Int)) (And.intro (by decide : 63 < 70) trivial))))))))) (by kernel_rfl)
theorem rName_63_ok  : FnSpec Try.prog 18 1000 [.int .i64 63] [] (.string rName_63) [] := by
  exact rName_63_p1 

/-- kotatsu/kotatsuref08.Name -/
def rName_64  : ByteArray :=
  ⟨#[66, 82, 75]⟩
theorem rName_64_p1  : FnSpec Try.prog 18 1000 [.int .i64 64] [] (.string ⟨#[66, 82, 75]⟩) [] := by
  exact fn_of_x hG hM Try.func18 (by kernel_rfl) (by kernel_rfl) 400 [.call [] [(1000, 1000)] 1000 (.slice (some ⟨1000, 0, none⟩) 70 70) rNames_post, .no, .no, .no, .no, .no, .no, .lit 64] (And.intro rNames_p1 (And.intro (Eq.refl false) (And.intro (Eq.refl false) (And.intro (Eq.refl false) (And.intro (Eq.refl false) (And.intro (Eq.refl false) (And.intro (Eq.refl false) (And.intro (Eq.refl (64 : Int)) (And.intro (by decide : 64 < 70) trivial))))))))) (by kernel_rfl)
theorem rName_64_ok  : FnSpec Try.prog 18 1000 [.int .i64 64] [] (.string rName_64) [] := by
  exact rName_64_p1 

/-- kotatsu/kotatsuref08.Name -/
def rName_65  : ByteArray :=
  ⟨#[80, 72, 65]⟩
theorem rName_65_p1  : FnSpec Try.prog 18 1000 [.int .i64 65] [] (.string ⟨#[80, 72, 65]⟩) [] := by
  exact fn_of_x hG hM Try.func18 (by kernel_rfl) (by kernel_rfl) 400 [.call [] [(1000, 1000)] 1000 (.slice (some ⟨1000, 0, none⟩) 70 70) rNames_post, .no, .no, .no, .no, .no, .no, .lit 65] (And.intro rNames_p1 (And.intro (Eq.refl false) (And.intro (Eq.refl false) (And.intro (Eq.refl false) (And.intro (Eq.refl false) (And.intro (Eq.refl false) (And.intro (Eq.refl false) (And.intro (Eq.refl (65 : Int)) (And.intro (by decide : 65 < 70) trivial))))))))) (by kernel_rfl)
theorem rName_65_ok  : FnSpec Try.prog 18 1000 [.int .i64 65] [] (.string rName_65) [] := by
  exact rName_65_p1 

/-- kotatsu/kotatsuref08.Name -/
def rName_66  : ByteArray :=
  ⟨#[80, 72, 80]⟩
theorem rName_66_p1  : FnSpec Try.prog 18 1000 [.int .i64 66] [] (.string ⟨#[80, 72, 80]⟩) [] := by
  exact fn_of_x hG hM Try.func18 (by kernel_rfl) (by kernel_rfl) 400 [.call [] [(1000, 1000)] 1000 (.slice (some ⟨1000, 0, none⟩) 70 70) rNames_post, .no, .no, .no, .no, .no, .no, .lit 66] (And.intro rNames_p1 (And.intro (Eq.refl false) (And.intro (Eq.refl false) (And.intro (Eq.refl false) (And.intro (Eq.refl false) (And.intro (Eq.refl false) (And.intro (Eq.refl false) (And.intro (Eq.refl (66 : Int)) (And.intro (by decide : 66 < 70) trivial))))))))) (by kernel_rfl)
theorem rName_66_ok  : FnSpec Try.prog 18 1000 [.int .i64 66] [] (.string rName_66) [] := by
  exact rName_66_p1 

/-- kotatsu/kotatsuref08.Name -/
def rName_67  : ByteArray :=
  ⟨#[80, 76, 65]⟩
theorem rName_67_p1  : FnSpec Try.prog 18 1000 [.int .i64 67] [] (.string ⟨#[80, 76, 65]⟩) [] := by
  exact fn_of_x hG hM Try.func18 (by kernel_rfl) (by kernel_rfl) 400 [.call [] [(1000, 1000)] 1000 (.slice (some ⟨1000, 0, none⟩) 70 70) rNames_post, .no, .no, .no, .no, .no, .no, .lit 67] (And.intro rNames_p1 (And.intro (Eq.refl false) (And.intro (Eq.refl false) (And.intro (Eq.refl false) (And.intro (Eq.refl false) (And.intro (Eq.refl false) (And.intro (Eq.refl false) (And.intro (Eq.refl (67 : Int)) (And.intro (by decide : 67 < 70) trivial))))))))) (by kernel_rfl)
theorem rName_67_ok  : FnSpec Try.prog 18 1000 [.int .i64 67] [] (.string rName_67) [] := by
  exact rName_67_p1 

/-- kotatsu/kotatsuref08.Name -/
def rName_68  : ByteArray :=
  ⟨#[80, 76, 80]⟩
theorem rName_68_p1  : FnSpec Try.prog 18 1000 [.int .i64 68] [] (.string ⟨#[80, 76, 80]⟩) [] := by
  exact fn_of_x hG hM Try.func18 (by kernel_rfl) (by kernel_rfl) 400 [.call [] [(1000, 1000)] 1000 (.slice (some ⟨1000, 0, none⟩) 70 70) rNames_post, .no, .no, .no, .no, .no, .no, .lit 68] (And.intro rNames_p1 (And.intro (Eq.refl false) (And.intro (Eq.refl false) (And.intro (Eq.refl false) (And.intro (Eq.refl false) (And.intro (Eq.refl false) (And.intro (Eq.refl false) (And.intro (Eq.refl (68 : Int)) (And.intro (by decide : 68 < 70) trivial))))))))) (by kernel_rfl)
theorem rName_68_ok  : FnSpec Try.prog 18 1000 [.int .i64 68] [] (.string rName_68) [] := by
  exact rName_68_p1 

/-- kotatsu/kotatsuref08.Name -/
def rName_69  : ByteArray :=
  ⟨#[74, 65, 77]⟩
theorem rName_69_p1  : FnSpec Try.prog 18 1000 [.int .i64 69] [] (.string ⟨#[74, 65, 77]⟩) [] := by
  exact fn_of_x hG hM Try.func18 (by kernel_rfl) (by kernel_rfl) 400 [.call [] [(1000, 1000)] 1000 (.slice (some ⟨1000, 0, none⟩) 70 70) rNames_post, .no, .no, .no, .no, .no, .no, .lit 69] (And.intro rNames_p1 (And.intro (Eq.refl false) (And.intro (Eq.refl false) (And.intro (Eq.refl false) (And.intro (Eq.refl false) (And.intro (Eq.refl false) (And.intro (Eq.refl false) (And.intro (Eq.refl (69 : Int)) (And.intro (by decide : 69 < 70) trivial))))))))) (by kernel_rfl)
theorem rName_69_ok  : FnSpec Try.prog 18 1000 [.int .i64 69] [] (.string rName_69) [] := by
  exact rName_69_p1 

/-- kotatsu/kotatsuref08.Read -/
def rRead_NOP (u : RUnit) (m : Int) : RUnit :=
  u
theorem rRead_NOP_p1 (u : RUnit) (m : Int) : FnSpec Try.prog 17 1000 [RUnit.enc u, .string ⟨#[78, 79, 80]⟩, .int .i64 m] [] (RUnit.enc u) [] := by
  exact fn_of_x hG hM Try.func17 (by kernel_rfl) (by kernel_rfl) 400 [.no, .no, .no, .no, .no, .no, .no, .no, .no, .no, .no, .no, .no, .no, .no, .no, .no, .no] (And.intro (Eq.refl false) (And.intro (Eq.refl false) (And.intro (Eq.refl false) (And.intro (Eq.refl false) (And.intro (Eq.refl false) (And.intro (Eq.refl false) (And.intro (Eq.refl false) (And.intro (Eq.refl false) (And.intro (Eq.refl false) (And.intro (Eq.refl false) (And.intro (Eq.refl false) (And.intro (Eq.refl false) (And.intro (Eq.refl false) (And.intro (Eq.refl false) (And.intro (Eq.refl false) (And.intro (Eq.refl false) (And.intro (Eq.refl false) (And.intro (Eq.refl false) trivial)))))))))))))))))) (by kernel_rfl)
theorem rRead_NOP_ok (u : RUnit) (m : Int) : FnSpec Try.prog 17 1000 [RUnit.enc u, .string ⟨#[78, 79, 80]⟩, .int .i64 m] [] (RUnit.enc (rRead_NOP u m)) [] := by
  exact rRead_NOP_p1 u m

/-- kotatsu/kotatsuref08.Read -/
def rRead_ORA (u : RUnit) (m : Int) : RUnit :=
  (rSign ({ A := (bOr .i64 u.A m), X := u.X, Y := u.Y, S := u.S, P := u.P } : RUnit) (bOr .i64 u.A m))
theorem rRead_ORA_p1 (u : RUnit) (m : Int) : FnSpec Try.prog 17 1000 [RUnit.enc u, .string ⟨#[79, 82, 65]⟩, .int .i64 m] [] (RUnit.enc (rSign ({ A := (bOr .i64 u.A m), X := u.X, Y := u.Y, S := u.S, P := u.P } : RUnit) (bOr .i64 u.A m))) [] := by
  exact fn_of_x hG hM Try.func17 (by kernel_rfl) (by kernel_rfl) 400 [.yes, .no, .no, .no, .call [] [] 1000 (RUnit.enc (rSign ({ A := (bOr .i64 u.A m), X := u.X, Y := u.Y, S := u.S, P := u.P } : RUnit) (bOr .i64 u.A m))) []] (And.intro (Eq.refl true) (And.intro (Eq.refl false) (And.intro (Eq.refl false) (And.intro (Eq.refl false) (And.intro (rSign_ok ({ A := (bOr .i64 u.A m), X := u.X, Y := u.Y, S := u.S, P := u.P } : RUnit) (bOr .i64 u.A m)) trivial))))) (by kernel_rfl)
theorem rRead_ORA_ok (u : RUnit) (m : Int) : FnSpec Try.prog 17 1000 [RUnit.enc u, .string ⟨#[79, 82, 65]⟩, .int .i64 m] [] (RUnit.enc (rRead_ORA u m)) [] := by
  exact rRead_ORA_p1 u m

/-- kotatsu/kotatsuref08.Read -/
def rRead_AND (u : RUnit) (m : Int) : RUnit :=
  (rSign ({ A := (bAnd .i64 u.A m), X := u.X, Y := u.Y, S := u.S, P := u.P } : RUnit) (bAnd .i64 u.A m))
theorem rRead_AND_p1 (u : RUnit) (m : Int) : FnSpec Try.prog 17 1000 [RUnit.enc u, .string ⟨#[65, 78, 68]⟩, .int .i64 m] [] (RUnit.enc (rSign ({ A := (bAnd .i64 u.A m), X := u.X, Y := u.Y, S := u.S, P := u.P } : RUnit) (bAnd .i64 u.A m))) [] := by
  exact fn_of_x hG hM Try.func17 (by kernel_rfl) (by kernel_rfl) 400 [.no, .yes, .yes, .no, .no, .no, .call [] [] 1000 (RUnit.enc (rSign ({ A := (bAnd .i64 u.A m), X := u.X, Y := u.Y, S := u.S, P := u.P } : RUnit) (bAnd .i64 u.A m))) []] (And.intro (Eq.refl false) (And.intro (Eq.refl true) (And.intro (Eq.refl true) (And.intro (Eq.refl false) (And.intro (Eq.refl false) (And.intro (Eq.refl false) (And.intro (rSign_ok ({ A := (bAnd .i64 u.A m), X := u.X, Y := u.Y, S := u.S, P := u.P } : RUnit) (bAnd .i64 u.A m)) trivial))))))) (by kernel_rfl)
theorem rRead_AND_ok (u : RUnit) (m : Int) : FnSpec Try.prog 17 1000 [RUnit.enc u, .string ⟨#[65, 78, 68]⟩, .int .i64 m] [] (RUnit.enc (rRead_AND u m)) [] := by
  exact rRead_AND_p1 u m

/-- kotatsu/kotatsuref08.Read -/
def rRead_EOR (u : RUnit) (m : Int) : RUnit :=
  (rSign ({ A := (bXor .i64 u.A m), X := u.X, Y := u.Y, S := u.S, P := u.P } : RUnit) (bXor .i64 u.A m))
theorem rRead_EOR_p1 (u : RUnit) (m : Int) : FnSpec Try.prog 17 1000 [RUnit.enc u, .string ⟨#[69, 79, 82]⟩, .int .i64 m] [] (RUnit.enc (rSign ({ A := (bXor .i64 u.A m), X := u.X, Y := u.Y, S := u.S, P := u.P } : RUnit) (bXor .i64 u.A m))) [] := by
  exact fn_of_x hG hM Try.func17 (by kernel_rfl) (by kernel_rfl) 400 [.no, .no, .no, .no, .no, .yes, .no, .no, .no, .call [] [] 1000 (RUnit.enc (rSign ({ A := (bXor .i64 u.A m), X := u.X, Y := u.Y, S := u.S, P := u.P } : RUnit) (bXor .i64 u.A m))) []] (And.intro (Eq.refl false) (And.intro (Eq.refl false) (And.intro (Eq.refl false) (And.intro (Eq.refl false) (And.intro (Eq.refl false) (And.intro (Eq.refl true) (And.intro (Eq.refl false) (And.intro (Eq.refl false) (And.intro (Eq.refl false) (And.intro (rSign_ok ({ A := (bXor .i64 u.A m), X := u.X, Y := u.Y, S := u.S, P := u.P } : RUnit) (bXor .i64 u.A m)) trivial)))))))))) (by kernel_rfl)
theorem rRead_EOR_ok (u : RUnit) (m : Int) : FnSpec Try.prog 17 1000 [RUnit.enc u, .string ⟨#[69, 79, 82]⟩, .int .i64 m] [] (RUnit.enc (rRead_EOR u m)) [] := by
  exact rRead_EOR_p1 u m

/-- kotatsu/kotatsuref08.Read -/
def rRead_ADC (u : RUnit) (m : Int) : RUnit :=
  (rAdd u m)
theorem rRead_ADC_p1 (u : RUnit) (m : Int) : FnSpec Try.prog 17 1000 [RUnit.enc u, .string ⟨#[65, 68, 67]⟩, .int .i64 m] [] (RUnit.enc (rAdd u m)) [] := by
  exact fn_of_x hG hM Try.func17 (by kernel_rfl) (by kernel_rfl) 400 [.no, .no, .no, .no, .no, .no, .yes, .call [] [] 1000 (RUnit.enc (rAdd u m)) []] (And.intro (Eq.refl false) (And.intro (Eq.refl false) (And.intro (Eq.refl false) (And.intro (Eq.refl false) (And.intro (Eq.refl false) (And.intro (Eq.refl false) (And.intro (Eq.refl true) (And.intro (rAdd_ok u m) trivial)))))))) (by kernel_rfl)
theorem rRead_ADC_ok (u : RUnit) (m : Int) : FnSpec Try.prog 17 1000 [RUnit.enc u, .string ⟨#[65, 68, 67]⟩, .int .i64 m] [] (RUnit.enc (rRead_ADC u m)) [] := by
  exact rRead_ADC_p1 u m

/-- kotatsu/kotatsuref08.Read -/
def rRead_SBC (u : RUnit) (m : Int) : RUnit :=
  (rAdd u (IntKind.i64.wrap (255 - m)))
theorem rRead_SBC_p1 (u : RUnit) (m : Int) : FnSpec Try.prog 17 1000 [RUnit.enc u, .string ⟨#[83, 66, 67]⟩, .int .i64 m] [] (RUnit.enc (rAdd u (IntKind.i64.wrap (255 - m)))) [] := by
  exact fn_of_x hG hM Try.func17 (by kernel_rfl) (by kernel_rfl) 400 [.no, .no, .no, .no, .no, .no, .no, .yes, .call [] [] 1000 (RUnit.enc (rAdd u (IntKind.i64.wrap (255 - m)))) []] (And.intro (Eq.refl false) (And.intro (Eq.refl false) (And.intro (Eq.refl false) (And.intro (Eq.refl false) (And.intro (Eq.refl false) (And.intro (Eq.refl false) (And.intro (Eq.refl false) (And.intro (Eq.refl true) (And.intro (rAdd_ok u (IntKind.i64.wrap (255 - m))) trivial))))))))) (by kernel_rfl)
theorem rRead_SBC_ok (u : RUnit) (m : Int) : FnSpec Try.prog 17 1000 [RUnit.enc u, .string ⟨#[83, 66, 67]⟩, .int .i64 m] [] (RUnit.enc (rRead_SBC u m)) [] := by
  exact rRead_SBC_p1 u m

/-- kotatsu/kotatsuref08.Read -/
def rRead_CMP (u : RUnit) (m : Int) : RUnit :=
  (rLess u u.A m)
theorem rRead_CMP_p1 (u : RUnit) (m : Int) : FnSpec Try.prog 17 1000 [RUnit.enc u, .string ⟨#[67, 77, 80]⟩, .int .i64 m] [] (RUnit.enc (rLess u u.A m)) [] := by
  exact fn_of_x hG hM Try.func17 (by kernel_rfl) (by kernel_rfl) 400 [.no, .no, .no, .no, .no, .no, .no, .no, .yes, .call [] [] 1000 (RUnit.enc (rLess u u.A m)) []] (And.intro (Eq.refl false) (And.intro (Eq.refl false) (And.intro (Eq.refl false) (And.intro (Eq.refl false) (And.intro (Eq.refl false) (And.intro (Eq.refl false) (And.intro (Eq.refl false) (And.intro (Eq.refl false) (And.intro (Eq.refl true) (And.intro (rLess_ok u u.A m) trivial)))))))))) (by kernel_rfl)
theorem rRead_CMP_ok (u : RUnit) (m : Int) : FnSpec Try.prog 17 1000 [RUnit.enc u, .string ⟨#[67, 77, 80]⟩, .int .i64 m] [] (RUnit.enc (rRead_CMP u m)) [] := by
  exact rRead_CMP_p1 u m

/-- kotatsu/kotatsuref08.Read -/
def rRead_CPX (u : RUnit) (m : Int) : RUnit :=
  (rLess u u.X m)
theorem rRead_CPX_p1 (u : RUnit) (m : Int) : FnSpec Try.prog 17 1000 [RUnit.enc u, .string ⟨#[67, 80, 88]⟩, .int .i64 m] [] (RUnit.enc (rLess u u.X m)) [] := by
  exact fn_of_x hG hM Try.func17 (by kernel_rfl) (by kernel_rfl) 400 [.no, .no, .no, .no, .no, .no, .no, .no, .no, .yes, .call [] [] 1000 (RUnit.enc (rLess u u.X m)) []] (And.intro (Eq.refl false) (And.intro (Eq.refl false) (And.intro (Eq.refl false) (And.intro (Eq.refl false) (And.intro (Eq.refl false) (And.intro (Eq.refl false) (And.intro (Eq.refl false) (And.intro (Eq.refl false) (And.intro (Eq.refl false) (And.intro (Eq.refl true) (And.intro (rLess_ok u u.X m) trivial))))))))))) (by kernel_rfl)
theorem rRead_CPX_ok (u : RUnit) (m : Int) : FnSpec Try.prog 17 1000 [RUnit.enc u, .string ⟨#[67, 80, 88]⟩, .int .i64 m] [] (RUnit.enc (rRead_CPX u m)) [] := by
  exact rRead_CPX_p1 u m

/-- kotatsu/kotatsuref08.Read -/
def rRead_CPY (u : RUnit) (m : Int) : RUnit :=
  (rLess u u.Y m)
theorem rRead_CPY_p1 (u : RUnit) (m : Int) : FnSpec Try.prog 17 1000 [RUnit.enc u, .string ⟨#[67, 80, 89]⟩, .int .i64 m] [] (RUnit.enc (rLess u u.Y m)) [] := by
  exact fn_of_x hG hM Try.func17 (by kernel_rfl) (by kernel_rfl) 400 [.no, .no, .no, .no, .no, .no, .no, .no, .no, .no, .yes, .call [] [] 1000 (RUnit.enc (rLess u u.Y m)) []] (And.intro (Eq.refl false) (And.intro (Eq.refl false) (And.intro (Eq.refl false) (And.intro (Eq.refl false) (And.intro (Eq.refl false) (And.intro (Eq.refl false) (And.intro (Eq.refl false) (And.intro (Eq.refl false) (And.intro (Eq.refl false) (And.intro (Eq.refl false) (And.intro (Eq.refl true) (And.intro (rLess_ok u u.Y m) trivial)))))))))))) (by kernel_rfl)
theorem rRead_CPY_ok (u : RUnit) (m : Int) : FnSpec Try.prog 17 1000 [RUnit.enc u, .string ⟨#[67, 80, 89]⟩, .int .i64 m] [] (RUnit.enc (rRead_CPY u m)) [] := by
  exact rRead_CPY_p1 u m

/-- kotatsu/kotatsuref08.Read -/
def rRead_LDA (u : RUnit) (m : Int) : RUnit :=
  (rSign ({ A := m, X := u.X, Y := u.Y, S := u.S, P := u.P } : RUnit) m)
theorem rRead_LDA_p1 (u : RUnit) (m : Int) : FnSpec Try.prog 17 1000 [RUnit.enc u, .string ⟨#[76, 68, 65]⟩, .int .i64 m] [] (RUnit.enc (rSign ({ A := m, X := u.X, Y := u.Y, S := u.S, P := u.P } : RUnit) m)) [] := by
  exact fn_of_x hG hM Try.func17 (by kernel_rfl) (by kernel_rfl) 400 [.no, .no, .no, .no, .no, .no, .no, .no, .no, .no, .no, .yes, .no, .no, .no, .call [] [] 1000 (RUnit.enc (rSign ({ A := m, X := u.X, Y := u.Y, S := u.S, P := u.P } : RUnit) m)) []] (And.intro (Eq.refl false) (And.intro (Eq.refl false) (And.intro (Eq.refl false) (And.intro (Eq.refl false) (And.intro (Eq.refl false) (And.intro (Eq.refl false) (And.intro (Eq.refl false) (And.intro (Eq.refl false) (And.intro (Eq.refl false) (And.intro (Eq.refl false) (And.intro (Eq.refl false) (And.intro (Eq.refl true) (And.intro (Eq.refl false) (And.intro (Eq.refl false) (And.intro (Eq.refl false) (And.intro (rSign_ok ({ A := m, X := u.X, Y := u.Y, S := u.S, P := u.P } : RUnit) m) trivial)))))))))))))))) (by kernel_rfl)
theorem rRead_LDA_ok (u : RUnit) (m : Int) : FnSpec Try.prog 17 1000 [RUnit.enc u, .string ⟨#[76, 68, 65]⟩, .int .i64 m] [] (RUnit.enc (rRead_LDA u m)) [] := by
  exact rRead_LDA_p1 u m

/-- kotatsu/kotatsuref08.Read -/
def rRead_LDX (u : RUnit) (m : Int) : RUnit :=
  (rSign ({ A := u.A, X := m, Y := u.Y, S := u.S, P := u.P } : RUnit) m)
theorem rRead_LDX_p1 (u : RUnit) (m : Int) : FnSpec Try.prog 17 1000 [RUnit.enc u, .string ⟨#[76, 68, 88]⟩, .int .i64 m] [] (RUnit.enc (rSign ({ A := u.A, X := m, Y := u.Y, S := u.S, P := u.P } : RUnit) m)) [] := by
  exact fn_of_x hG hM Try.func17 (by kernel_rfl) (by kernel_rfl) 400 [.no, .no, .no, .no, .no, .no, .no, .no, .no, .no, .no, .no, .yes, .call [] [] 1000 (RUnit.enc (rSign ({ A := u.A, X := m, Y := u.Y, S := u.S, P := u.P } : RUnit) m)) []] (And.intro (Eq.refl false) (And.intro (Eq.refl false) (And.intro (Eq.refl false) (And.intro (Eq.refl false) (And.intro (Eq.refl false) (And.intro (Eq.refl false) (And.intro (Eq.refl false) (And.intro (Eq.refl false) (And.intro (Eq.refl false) (And.intro (Eq.refl false) (And.intro (Eq.refl false) (And.intro (Eq.refl false) (And.intro (Eq.refl true) (And.intro (rSign_ok ({ A := u.A, X := m, Y := u.Y, S := u.S, P := u.P } : RUnit) m) trivial)))))))))))))) (by kernel_rfl)
theorem rRead_LDX_ok (u : RUnit) (m : Int) : FnSpec Try.prog 17 1000 [RUnit.enc u, .string ⟨#[76, 68, 88]⟩, .int .i64 m] [] (RUnit.enc (rRead_LDX u m)) [] := by
  exact rRead_LDX_p1 u m

/-- kotatsu/kotatsuref08.Read -/
def rRead_LDY (u : RUnit) (m : Int) : RUnit :=
  (rSign ({ A := u.A, X := u.X, Y := m, S := u.S, P := u.P } : RUnit) m)
theorem rRead_LDY_p1 (u : RUnit) (m : Int) : FnSpec Try.prog 17 1000 [RUnit.enc u, .string ⟨#[76, 68, 89]⟩, .int .i64 m] [] (RUnit.enc (rSign ({ A := u.A, X := u.X, Y := m, S := u.S, P := u.P } : RUnit) m)) [] := by
  exact fn_of_x hG hM Try.func17 (by kernel_rfl) (by kernel_rfl) 400 [.no, .no, .no, .no, .no, .no, .no, .no, .no, .no, .no, .no, .no, .yes, .call [] [] 1000 (RUnit.enc (rSign ({ A := u.A, X := u.X, Y := m, S := u.S, P := u.P } : RUnit) m)) []] (And.intro (Eq.refl false) (And.intro (Eq.refl false) (And.intro (Eq.refl false) (And.intro (Eq.refl false) (And.intro (Eq.refl false) (And.intro (Eq.refl false) (And.intro (Eq.refl false) (And.intro (Eq.refl false) (And.intro (Eq.refl false) (And.intro (Eq.refl false) (And.intro (Eq.refl false) (And.intro (Eq.refl false) (And.intro (Eq.refl false) (And.intro (Eq.refl true) (And.intro (rSign_ok ({ A := u.A, X := u.X, Y := m, S := u.S, P := u.P } : RUnit) m) trivial))))))))))))))) (by kernel_rfl)
theorem rRead_LDY_ok (u : RUnit) (m : Int) : FnSpec Try.prog 17 1000 [RUnit.enc u, .string ⟨#[76, 68, 89]⟩, .int .i64 m] [] (RUnit.enc (rRead_LDY u m)) [] := by
  exact rRead_LDY_p1 u m

/-- kotatsu/kotatsuref08.Read -/
def rRead_BIT (u : RUnit) (m : Int) : RUnit :=
  (rSet (rSet (rSet u 128 (IntKind.i64.wrap (Int.tdiv m 128))) 64 (rHas m 64)) 2 (rYes (((bAnd .i64 u.A m) : Int) == 0)))
theorem rRead_BIT_p1 (u : RUnit) (m : Int) : FnSpec Try.prog 17 1000 [RUnit.enc u, .string ⟨#[66, 73, 84]⟩, .int .i64 m] [] (RUnit.enc (rSet (rSet (rSet u 128 (IntKind.i64.wrap (Int.tdiv m 128))) 64 (rHas m 64)) 2 (rYes (((bAnd .i64 u.A m) : Int) == 0)))) [] := by
  have o1 : (128 : Int) ≠ 0 := by first | decide | omega
  have o2 : (64 : Int) ≠ 0 := by first | decide | omega
  have o3 : (64 : Int) ≠ 0 := by first | decide | omega
  have o4 : (2 : Int) ≠ 0 := by first | decide | omega
  exact fn_of_x hG hM Try.func17 (by kernel_rfl) (by kernel_rfl) 400 [.no, .no, .no, .no, .no, .no, .no, .no, .no, .no, .no, .no, .no, .no, .yes, .call [] [] 1000 (RUnit.enc (rSet u 128 (IntKind.i64.wrap (Int.tdiv m 128)))) [], .call [] [] 1000 (.int .i64 (rHas m 64)) [], .call [] [] 1000 (RUnit.enc (rSet (rSet u 128 (IntKind.i64.wrap (Int.tdiv m 128))) 64 (rHas m 64))) [], .call [] [] 1000 (.int .i64 (rYes (((bAnd .i64 u.A m) : Int) == 0))) [], .call [] [] 1000 (RUnit.enc (rSet (rSet (rSet u 128 (IntKind.i64.wrap (Int.tdiv m 128))) 64 (rHas m 64)) 2 (rYes (((bAnd .i64 u.A m) : Int) == 0)))) []] (And.intro (Eq.refl false) (And.intro (Eq.refl false) (And.intro (Eq.refl false) (And.intro (Eq.refl false) (And.intro (Eq.refl false) (And.intro (Eq.refl false) (And.intro (Eq.refl false) (And.intro (Eq.refl false) (And.intro (Eq.refl false) (And.intro (Eq.refl false) (And.intro (Eq.refl false) (And.intro (Eq.refl false) (And.intro (Eq.refl false) (And.intro (Eq.refl false) (And.intro (Eq.refl true) (And.intro (by decide : ((128 : Int) ≠ 0)) (And.intro (rSet_ok u 128 (IntKind.i64.wrap (Int.tdiv m 128)) o1) (And.intro (rHas_ok m 64 o2) (And.intro (rSet_ok (rSet u 128 (IntKind.i64.wrap (Int.tdiv m 128))) 64 (rHas m 64) o3) (And.intro (rYes_ok (((bAnd .i64 u.A m) : Int) == 0)) (And.intro (rSet_ok (rSet (rSet u 128 (IntKind.i64.wrap (Int.tdiv m 128))) 64 (rHas m 64)) 2 (rYes (((bAnd .i64 u.A m) : Int) == 0)) o4) trivial))))))))))))))))))))) (by kernel_rfl)
theorem rRead_BIT_ok (u : RUnit) (m : Int) : FnSpec Try.prog 17 1000 [RUnit.enc u, .string ⟨#[66, 73, 84]⟩, .int .i64 m] [] (RUnit.enc (rRead_BIT u m)) [] := by
  exact rRead_BIT_p1 u m

/-- kotatsu/kotatsuref08.Read -/
def rRead_LAX (u : RUnit) (m : Int) : RUnit :=
  (rSign ({ A := m, X := m, Y := u.Y, S := u.S, P := u.P } : RUnit) m)
theorem rRead_LAX_p1 (u : RUnit) (m : Int) : FnSpec Try.prog 17 1000 [RUnit.enc u, .string ⟨#[76, 65, 88]⟩, .int .i64 m] [] (RUnit.enc (rSign ({ A := m, X := m, Y := u.Y, S := u.S, P := u.P } : RUnit) m)) [] := by
  exact fn_of_x hG hM Try.func17 (by kernel_rfl) (by kernel_rfl) 400 [.no, .no, .no, .no, .no, .no, .no, .no, .no, .no, .no, .no, .no, .no, .no, .yes, .no, .no, .no, .call [] [] 1000 (RUnit.enc (rSign ({ A := m, X := m, Y := u.Y, S := u.S, P := u.P } : RUnit) m)) []] (And.intro (Eq.refl false) (And.intro (Eq.refl false) (And.intro (Eq.refl false) (And.intro (Eq.refl false) (And.intro (Eq.refl false) (And.intro (Eq.refl false) (And.intro (Eq.refl false) (And.intro (Eq.refl false) (And.intro (Eq.refl false) (And.intro (Eq.refl false) (And.intro (Eq.refl false) (And.intro (Eq.refl false) (And.intro (Eq.refl false) (And.intro (Eq.refl false) (And.intro (Eq.refl false) (And.intro (Eq.refl true) (And.intro (Eq.refl false) (And.intro (Eq.refl false) (And.intro (Eq.refl false) (And.intro (rSign_ok ({ A := m, X := m, Y := u.Y, S := u.S, P := u.P } : RUnit) m) trivial)))))))))))))))))))) (by kernel_rfl)
theorem rRead_LAX_ok (u : RUnit) (m : Int) : FnSpec Try.prog 17 1000 [RUnit.enc u, .string ⟨#[76, 65, 88]⟩, .int .i64 m] [] (RUnit.enc (rRead_LAX u m)) [] := by
  exact rRead_LAX_p1 u m

/-- kotatsu/kotatsuref08.Read -/
def rRead_ANC (u : RUnit) (m : Int) : RUnit :=
  (rSign (rSet ({ A := (bAnd .i64 u.A m), X := u.X, Y := u.Y, S := u.S, P := u.P } : RUnit) 1 (IntKind.i64.wrap (Int.tdiv (bAnd .i64 u.A m) 128))) ((rSet ({ A := (bAnd .i64 u.A m), X := u.X, Y := u.Y, S := u.S, P := u.P } : RUnit) 1 (IntKind.i64.wrap (Int.tdiv (bAnd .i64 u.A m) 128))).A))
theorem rRead_ANC_p1 (u : RUnit) (m : Int) : FnSpec Try.prog 17 1000 [RUnit.enc u, .string ⟨#[65, 78, 67]⟩, .int .i64 m] [] (RUnit.enc (rSign (rSet ({ A := (bAnd .i64 u.A m), X := u.X, Y := u.Y, S := u.S, P := u.P } : RUnit) 1 (IntKind.i64.wrap (Int.tdiv (bAnd .i64 u.A m) 128))) ((rSet ({ A := (bAnd .i64 u.A m), X := u.X, Y := u.Y, S := u.S, P := u.P } : RUnit) 1 (IntKind.i64.wrap (Int.tdiv (bAnd .i64 u.A m) 128))).A))) [] := by
  have o1 : (1 : Int) ≠ 0 := by first | decide | omega
  exact fn_of_x hG hM Try.func17 (by kernel_rfl) (by kernel_rfl) 400 [.no, .no, .yes, .yes, .yes, .call [] [] 1000 (RUnit.enc (rSet ({ A := (bAnd .i64 u.A m), X := u.X, Y := u.Y, S := u.S, P := u.P } : RUnit) 1 (IntKind.i64.wrap (Int.tdiv (bAnd .i64 u.A m) 128)))) [], .call [] [] 1000 (RUnit.enc (rSign (rSet ({ A := (bAnd .i64 u.A m), X := u.X, Y := u.Y, S := u.S, P := u.P } : RUnit) 1 (IntKind.i64.wrap (Int.tdiv (bAnd .i64 u.A m) 128))) ((rSet ({ A := (bAnd .i64 u.A m), X := u.X, Y := u.Y, S := u.S, P := u.P } : RUnit) 1 (IntKind.i64.wrap (Int.tdiv (bAnd .i64 u.A m) 128))).A))) []] (And.intro (Eq.refl false) (And.intro (Eq.refl false) (And.intro (Eq.refl true) (And.intro (Eq.refl true) (And.intro (Eq.refl true) (And.intro (by decide : ((128 : Int) ≠ 0)) (And.intro (rSet_ok ({ A := (bAnd .i64 u.A m), X := u.X, Y := u.Y, S := u.S, P := u.P } : RUnit) 1 (IntKind.i64.wrap (Int.tdiv (bAnd .i64 u.A m) 128)) o1) (And.intro (rSign_ok (rSet ({ A := (bAnd .i64 u.A m), X := u.X, Y := u.Y, S := u.S, P := u.P } : RUnit) 1 (IntKind.i64.wrap (Int.tdiv (bAnd .i64 u.A m) 128))) ((rSet ({ A := (bAnd .i64 u.A m), X := u.X, Y := u.Y, S := u.S, P := u.P } : RUnit) 1 (IntKind.i64.wrap (Int.tdiv (bAnd .i64 u.A m) 128))).A)) trivial)))))))) (by kernel_rfl)
theorem rRead_ANC_ok (u : RUnit) (m : Int) : FnSpec Try.prog 17 1000 [RUnit.enc u, .string ⟨#[65, 78, 67]⟩, .int .i64 m] [] (RUnit.enc (rRead_ANC u m)) [] := by
  exact rRead_ANC_p1 u m

/-- kotatsu/kotatsuref08.Read -/
def rRead_ALR (u : RUnit) (m : Int) : RUnit :=
  (rSign ({ A := (IntKind.i64.wrap (Int.tdiv ((rSet ({ A := (bAnd .i64 u.A m), X := u.X, Y := u.Y, S := u.S, P := u.P } : RUnit) 1 (Int.tmod (bAnd .i64 u.A m) 2)).A) 2)), X := (rSet ({ A := (bAnd .i64 u.A m), X := u.X, Y := u.Y, S := u.S, P := u.P } : RUnit) 1 (Int.tmod (bAnd .i64 u.A m) 2)).X, Y := (rSet ({ A := (bAnd .i64 u.A m), X := u.X, Y := u.Y, S := u.S, P := u.P } : RUnit) 1 (Int.tmod (bAnd .i64 u.A m) 2)).Y, S := (rSet ({ A := (bAnd .i64 u.A m), X := u.X, Y := u.Y, S := u.S, P := u.P } : RUnit) 1 (Int.tmod (bAnd .i64 u.A m) 2)).S, P := (rSet ({ A := (bAnd .i64 u.A m), X := u.X, Y := u.Y, S := u.S, P := u.P } : RUnit) 1 (Int.tmod (bAnd .i64 u.A m) 2)).P } : RUnit) (IntKind.i64.wrap (Int.tdiv ((rSet ({ A := (bAnd .i64 u.A m), X := u.X, Y := u.Y, S := u.S, P := u.P } : RUnit) 1 (Int.tmod (bAnd .i64 u.A m) 2)).A) 2)))
theorem rRead_ALR_p1 (u : RUnit) (m : Int) : FnSpec Try.prog 17 1000 [RUnit.enc u, .string ⟨#[65, 76, 82]⟩, .int .i64 m] [] (RUnit.enc (rSign ({ A := (IntKind.i64.wrap (Int.tdiv ((rSet ({ A := (bAnd .i64 u.A m), X := u.X, Y := u.Y, S := u.S, P := u.P } : RUnit) 1 (Int.tmod (bAnd .i64 u.A m) 2)).A) 2)), X := (rSet ({ A := (bAnd .i64 u.A m), X := u.X, Y := u.Y, S := u.S, P := u.P } : RUnit) 1 (Int.tmod (bAnd .i64 u.A m) 2)).X, Y := (rSet ({ A := (bAnd .i64 u.A m), X := u.X, Y := u.Y, S := u.S, P := u.P } : RUnit) 1 (Int.tmod (bAnd .i64 u.A m) 2)).Y, S := (rSet ({ A := (bAnd .i64 u.A m), X := u.X, Y := u.Y, S := u.S, P := u.P } : RUnit) 1 (Int.tmod (bAnd .i64 u.A m) 2)).S, P := (rSet ({ A := (bAnd .i64 u.A m), X := u.X, Y := u.Y, S := u.S, P := u.P } : RUnit) 1 (Int.tmod (bAnd .i64 u.A m) 2)).P } : RUnit) (IntKind.i64.wrap (Int.tdiv ((rSet ({ A := (bAnd .i64 u.A m), X := u.X, Y := u.Y, S := u.S, P := u.P } : RUnit) 1 (Int.tmod (bAnd .i64 u.A m) 2)).A) 2)))) [] := by
  have o1 : (1 : Int) ≠ 0 := by first | decide | omega
  exact fn_of_x hG hM Try.func17 (by kernel_rfl) (by kernel_rfl) 400 [.no, .no, .no, .yes, .yes, .no, .yes, .call [] [] 1000 (RUnit.enc (rSet ({ A := (bAnd .i64 u.A m), X := u.X, Y := u.Y, S := u.S, P := u.P } : RUnit) 1 (Int.tmod (bAnd .i64 u.A m) 2))) [], .call [] [] 1000 (RUnit.enc (rSign ({ A := (IntKind.i64.wrap (Int.tdiv ((rSet ({ A := (bAnd .i64 u.A m), X := u.X, Y := u.Y, S := u.S, P := u.P } : RUnit) 1 (Int.tmod (bAnd .i64 u.A m) 2)).A) 2)), X := (rSet ({ A := (bAnd .i64 u.A m), X := u.X, Y := u.Y, S := u.S, P := u.P } : RUnit) 1 (Int.tmod (bAnd .i64 u.A m) 2)).X, Y := (rSet ({ A := (bAnd .i64 u.A m), X := u.X, Y := u.Y, S := u.S, P := u.P } : RUnit) 1 (Int.tmod (bAnd .i64 u.A m) 2)).Y, S := (rSet ({ A := (bAnd .i64 u.A m), X := u.X, Y := u.Y, S := u.S, P := u.P } : RUnit) 1 (Int.tmod (bAnd .i64 u.A m) 2)).S, P := (rSet ({ A := (bAnd .i64 u.A m), X := u.X, Y := u.Y, S := u.S, P := u.P } : RUnit) 1 (Int.tmod (bAnd .i64 u.A m) 2)).P } : RUnit) (IntKind.i64.wrap (Int.tdiv ((rSet ({ A := (bAnd .i64 u.A m), X := u.X, Y := u.Y, S := u.S, P := u.P } : RUnit) 1 (Int.tmod (bAnd .i64 u.A m) 2)).A) 2)))) []] (And.intro (Eq.refl false) (And.intro (Eq.refl false) (And.intro (Eq.refl false) (And.intro (Eq.refl true) (And.intro (Eq.refl true) (And.intro (Eq.refl false) (And.intro (Eq.refl true) (And.intro (by decide : ((2 : Int) ≠ 0)) (And.intro (rSet_ok ({ A := (bAnd .i64 u.A m), X := u.X, Y := u.Y, S := u.S, P := u.P } : RUnit) 1 (Int.tmod (bAnd .i64 u.A m) 2) o1) (And.intro (by decide : ((2 : Int) ≠ 0)) (And.intro (rSign_ok ({ A := (IntKind.i64.wrap (Int.tdiv ((rSet ({ A := (bAnd .i64 u.A m), X := u.X, Y := u.Y, S := u.S, P := u.P } : RUnit) 1 (Int.tmod (bAnd .i64 u.A m) 2)).A) 2)), X := (rSet ({ A := (bAnd .i64 u.A m), X := u.X, Y := u.Y, S := u.S, P := u.P } : RUnit) 1 (Int.tmod (bAnd .i64 u.A m) 2)).X, Y := (rSet ({ A := (bAnd .i64 u.A m), X := u.X, Y := u.Y, S := u.S, P := u.P } : RUnit) 1 (Int.tmod (bAnd .i64 u.A m) 2)).Y, S := (rSet ({ A := (bAnd .i64 u.A m), X := u.X, Y := u.Y, S := u.S, P := u.P } : RUnit) 1 (Int.tmod (bAnd .i64 u.A m) 2)).S, P := (rSet ({ A := (bAnd .i64 u.A m), X := u.X, Y := u.Y, S := u.S, P := u.P } : RUnit) 1 (Int.tmod (bAnd .i64 u.A m) 2)).P } : RUnit) (IntKind.i64.wrap (Int.tdiv ((rSet ({ A := (bAnd .i64 u.A m), X := u.X, Y := u.Y, S := u.S, P := u.P } : RUnit) 1 (Int.tmod (bAnd .i64 u.A m) 2)).A) 2))) trivial))))))))))) (by kernel_rfl)
theorem rRead_ALR_ok (u : RUnit) (m : Int) : FnSpec Try.prog 17 1000 [RUnit.enc u, .string ⟨#[65, 76, 82]⟩, .int .i64 m] [] (RUnit.enc (rRead_ALR u m)) [] := by
  exact rRead_ALR_p1 u m

/-- kotatsu/kotatsuref08.Read -/
def rRead_ARR (u : RUnit) (m : Int) : RUnit :=
  (rSign (rSet (rSet ({ A := (IntKind.i64.wrap ((IntKind.i64.wrap (Int.tdiv (bAnd .i64 u.A m) 2)) + (IntKind.i64.wrap (128 * (rHas u.P 1))))), X := u.X, Y := u.Y, S := u.S, P := u.P } : RUnit) 1 (rHas (IntKind.i64.wrap ((IntKind.i64.wrap (Int.tdiv (bAnd .i64 u.A m) 2)) + (IntKind.i64.wrap (128 * (rHas u.P 1))))) 64)) 64 (Int.tmod (IntKind.i64.wrap ((rHas (IntKind.i64.wrap ((IntKind.i64.wrap (Int.tdiv (bAnd .i64 u.A m) 2)) + (IntKind.i64.wrap (128 * (rHas u.P 1))))) 64) + (rHas (IntKind.i64.wrap ((IntKind.i64.wrap (Int.tdiv (bAnd .i64 u.A m) 2)) + (IntKind.i64.wrap (128 * (rHas u.P 1))))) 32))) 2)) ((rSet (rSet ({ A := (IntKind.i64.wrap ((IntKind.i64.wrap (Int.tdiv (bAnd .i64 u.A m) 2)) + (IntKind.i64.wrap (128 * (rHas u.P 1))))), X := u.X, Y := u.Y, S := u.S, P := u.P } : RUnit) 1 (rHas (IntKind.i64.wrap ((IntKind.i64.wrap (Int.tdiv (bAnd .i64 u.A m) 2)) + (IntKind.i64.wrap (128 * (rHas u.P 1))))) 64)) 64 (Int.tmod (IntKind.i64.wrap ((rHas (IntKind.i64.wrap ((IntKind.i64.wrap (Int.tdiv (bAnd .i64 u.A m) 2)) + (IntKind.i64.wrap (128 * (rHas u.P 1))))) 64) + (rHas (IntKind.i64.wrap ((IntKind.i64.wrap (Int.tdiv (bAnd .i64 u.A m) 2)) + (IntKind.i64.wrap (128 * (rHas u.P 1))))) 32))) 2)).A))
theorem rRead_ARR_p1 (u : RUnit) (m : Int) : FnSpec Try.prog 17 1000 [RUnit.enc u, .string ⟨#[65, 82, 82]⟩, .int .i64 m] [] (RUnit.enc (rSign (rSet (rSet ({ A := (IntKind.i64.wrap ((IntKind.i64.wrap (Int.tdiv (bAnd .i64 u.A m) 2)) + (IntKind.i64.wrap (128 * (rHas u.P 1))))), X := u.X, Y := u.Y, S := u.S, P := u.P } : RUnit) 1 (rHas (IntKind.i64.wrap ((IntKind.i64.wrap (Int.tdiv (bAnd .i64 u.A m) 2)) + (IntKind.i64.wrap (128 * (rHas u.P 1))))) 64)) 64 (Int.tmod (IntKind.i64.wrap ((rHas (IntKind.i64.wrap ((IntKind.i64.wrap (Int.tdiv (bAnd .i64 u.A m) 2)) + (IntKind.i64.wrap (128 * (rHas u.P 1))))) 64) + (rHas (IntKind.i64.wrap ((IntKind.i64.wrap (Int.tdiv (bAnd .i64 u.A m) 2)) + (IntKind.i64.wrap (128 * (rHas u.P 1))))) 32))) 2)) ((rSet (rSet ({ A := (IntKind.i64.wrap ((IntKind.i64.wrap (Int.tdiv (bAnd .i64 u.A m) 2)) + (IntKind.i64.wrap (128 * (rHas u.P 1))))), X := u.X, Y := u.Y, S := u.S, P := u.P } : RUnit) 1 (rHas (IntKind.i64.wrap ((IntKind.i64.wrap (Int.tdiv (bAnd .i64 u.A m) 2)) + (IntKind.i64.wrap (128 * (rHas u.P 1))))) 64)) 64 (Int.tmod (IntKind.i64.wrap ((rHas (IntKind.i64.wrap ((IntKind.i64.wrap (Int.tdiv (bAnd .i64 u.A m) 2)) + (IntKind.i64.wrap (128 * (rHas u.P 1))))) 64) + (rHas (IntKind.i64.wrap ((IntKind.i64.wrap (Int.tdiv (bAnd .i64 u.A m) 2)) + (IntKind.i64.wrap (128 * (rHas u.P 1))))) 32))) 2)).A))) [] := by
  have o1 : (1 : Int) ≠ 0 := by first | decide | omega
  have o2 : (64 : Int) ≠ 0 := by first | decide | omega
  have o3 : (1 : Int) ≠ 0 := by first | decide | omega
  have o4 : (64 : Int) ≠ 0 := by first | decide | omega
  have o5 : (32 : Int) ≠ 0 := by first | decide | omega
  have o6 : (64 : Int) ≠ 0 := by first | decide | omega
  exact fn_of_x hG hM Try.func17 (by kernel_rfl) (by kernel_rfl) 400 [.no, .no, .no, .no, .yes, .no, .no, .yes, .call [] [] 1000 (.int .i64 (rHas u.P 1)) [], .call [] [] 1000 (.int .i64 (rHas (IntKind.i64.wrap ((IntKind.i64.wrap (Int.tdiv (bAnd .i64 u.A m) 2)) + (IntKind.i64.wrap (128 * (rHas u.P 1))))) 64)) [], .call [] [] 1000 (RUnit.enc (rSet ({ A := (IntKind.i64.wrap ((IntKind.i64.wrap (Int.tdiv (bAnd .i64 u.A m) 2)) + (IntKind.i64.wrap (128 * (rHas u.P 1))))), X := u.X, Y := u.Y, S := u.S, P := u.P } : RUnit) 1 (rHas (IntKind.i64.wrap ((IntKind.i64.wrap (Int.tdiv (bAnd .i64 u.A m) 2)) + (IntKind.i64.wrap (128 * (rHas u.P 1))))) 64))) [], .call [] [] 1000 (.int .i64 (rHas (IntKind.i64.wrap ((IntKind.i64.wrap (Int.tdiv (bAnd .i64 u.A m) 2)) + (IntKind.i64.wrap (128 * (rHas u.P 1))))) 64)) [], .call [] [] 1000 (.int .i64 (rHas (IntKind.i64.wrap ((IntKind.i64.wrap (Int.tdiv (bAnd .i64 u.A m) 2)) + (IntKind.i64.wrap (128 * (rHas u.P 1))))) 32)) [], .call [] [] 1000 (RUnit.enc (rSet (rSet ({ A := (IntKind.i64.wrap ((IntKind.i64.wrap (Int.tdiv (bAnd .i64 u.A m) 2)) + (IntKind.i64.wrap (128 * (rHas u.P 1))))), X := u.X, Y := u.Y, S := u.S, P := u.P } : RUnit) 1 (rHas (IntKind.i64.wrap ((IntKind.i64.wrap (Int.tdiv (bAnd .i64 u.A m) 2)) + (IntKind.i64.wrap (128 * (rHas u.P 1))))) 64)) 64 (Int.tmod (IntKind.i64.wrap ((rHas (IntKind.i64.wrap ((IntKind.i64.wrap (Int.tdiv (bAnd .i64 u.A m) 2)) + (IntKind.i64.wrap (128 * (rHas u.P 1))))) 64) + (rHas (IntKind.i64.wrap ((IntKind.i64.wrap (Int.tdiv (bAnd .i64 u.A m) 2)) + (IntKind.i64.wrap (128 * (rHas u.P 1))))) 32))) 2))) [], .call [] [] 1000 (RUnit.enc (rSign (rSet (rSet ({ A := (IntKind.i64.wrap ((IntKind.i64.wrap (Int.tdiv (bAnd .i64 u.A m) 2)) + (IntKind.i64.wrap (128 * (rHas u.P 1))))), X := u.X, Y := u.Y, S := u.S, P := u.P } : RUnit) 1 (rHas (IntKind.i64.wrap ((IntKind.i64.wrap (Int.tdiv (bAnd .i64 u.A m) 2)) + (IntKind.i64.wrap (128 * (rHas u.P 1))))) 64)) 64 (Int.tmod (IntKind.i64.wrap ((rHas (IntKind.i64.wrap ((IntKind.i64.wrap (Int.tdiv (bAnd .i64 u.A m) 2)) + (IntKind.i64.wrap (128 * (rHas u.P 1))))) 64) + (rHas (IntKind.i64.wrap ((IntKind.i64.wrap (Int.tdiv (bAnd .i64 u.A m) 2)) + (IntKind.i64.wrap (128 * (rHas u.P 1))))) 32))) 2)) ((rSet (rSet ({ A := (IntKind.i64.wrap ((IntKind.i64.wrap (Int.tdiv (bAnd .i64 u.A m) 2)) + (IntKind.i64.wrap (128 * (rHas u.P 1))))), X := u.X, Y := u.Y, S := u.S, P := u.P } : RUnit) 1 (rHas (IntKind.i64.wrap ((IntKind.i64.wrap (Int.tdiv (bAnd .i64 u.A m) 2)) + (IntKind.i64.wrap (128 * (rHas u.P 1))))) 64)) 64 (Int.tmod (IntKind.i64.wrap ((rHas (IntKind.i64.wrap ((IntKind.i64.wrap (Int.tdiv (bAnd .i64 u.A m) 2)) + (IntKind.i64.wrap (128 * (rHas u.P 1))))) 64) + (rHas (IntKind.i64.wrap ((IntKind.i64.wrap (Int.tdiv (bAnd .i64 u.A m) 2)) + (IntKind.i64.wrap (128 * (rHas u.P 1))))) 32))) 2)).A))) []] (And.intro (Eq.refl false) (And.intro (Eq.refl false) (And.intro (Eq.refl false) (And.intro (Eq.refl false) (And.intro (Eq.refl true) (And.intro (Eq.refl false) (And.intro (Eq.refl false) (And.intro (Eq.refl true) (And.intro (by decide : ((2 : Int) ≠ 0)) (And.intro (rHas_ok u.P 1 o1) (And.intro (rHas_ok (IntKind.i64.wrap ((IntKind.i64.wrap (Int.tdiv (bAnd .i64 u.A m) 2)) + (IntKind.i64.wrap (128 * (rHas u.P 1))))) 64 o2) (And.intro (rSet_ok ({ A := (IntKind.i64.wrap ((IntKind.i64.wrap (Int.tdiv (bAnd .i64 u.A m) 2)) + (IntKind.i64.wrap (128 * (rHas u.P 1))))), X := u.X, Y := u.Y, S := u.S, P := u.P } : RUnit) 1 (rHas (IntKind.i64.wrap ((IntKind.i64.wrap (Int.tdiv (bAnd .i64 u.A m) 2)) + (IntKind.i64.wrap (128 * (rHas u.P 1))))) 64) o3) (And.intro (rHas_ok (IntKind.i64.wrap ((IntKind.i64.wrap (Int.tdiv (bAnd .i64 u.A m) 2)) + (IntKind.i64.wrap (128 * (rHas u.P 1))))) 64 o4) (And.intro (rHas_ok (IntKind.i64.wrap ((IntKind.i64.wrap (Int.tdiv (bAnd .i64 u.A m) 2)) + (IntKind.i64.wrap (128 * (rHas u.P 1))))) 32 o5) (And.intro (by decide : ((2 : Int) ≠ 0)) (And.intro (rSet_ok (rSet ({ A := (IntKind.i64.wrap ((IntKind.i64.wrap (Int.tdiv (bAnd .i64 u.A m) 2)) + (IntKind.i64.wrap (128 * (rHas u.P 1))))), X := u.X, Y := u.Y, S := u.S, P := u.P } : RUnit) 1 (rHas (IntKind.i64.wrap ((IntKind.i64.wrap (Int.tdiv (bAnd .i64 u.A m) 2)) + (IntKind.i64.wrap (128 * (rHas u.P 1))))) 64)) 64 (Int.tmod (IntKind.i64.wrap ((rHas (IntKind.i64.wrap ((IntKind.i64.wrap (Int.tdiv (bAnd .i64 u.A m) 2)) + (IntKind.i64.wrap (128 * (rHas u.P 1))))) 64) + (rHas (IntKind.i64.wrap ((IntKind.i64.wrap (Int.tdiv (bAnd .i64 u.A m) 2)) + (IntKind.i64.wrap (128 * (rHas u.P 1))))) 32))) 2) o6) (And.intro (rSign_ok (rSet (rSet ({ A := (IntKind.i64.wrap ((IntKind.i64.wrap (Int.tdiv (bAnd .i64 u.A m) 2)) + (IntKind.i64.wrap (128 * (rHas u.P 1))))), X := u.X, Y := u.Y, S := u.S, P := u.P } : RUnit) 1 (rHas (IntKind.i64.wrap ((IntKind.i64.wrap (Int.tdiv (bAnd .i64 u.A m) 2)) + (IntKind.i64.wrap (128 * (rHas u.P 1))))) 64)) 64 (Int.tmod (IntKind.i64.wrap ((rHas (IntKind.i64.wrap ((IntKind.i64.wrap (Int.tdiv (bAnd .i64 u.A m) 2)) + (IntKind.i64.wrap (128 * (rHas u.P 1))))) 64) + (rHas (IntKind.i64.wrap ((IntKind.i64.wrap (Int.tdiv (bAnd .i64 u.A m) 2)) + (IntKind.i64.wrap (128 * (rHas u.P 1))))) 32))) 2)) ((rSet (rSet ({ A := (IntKind.i64.wrap ((IntKind.i64.wrap (Int.tdiv (bAnd .i64 u.A m) 2)) + (IntKind.i64.wrap (128 * (rHas u.P 1))))), X := u.X, Y := u.Y, S := u.S, P := u.P } : RUnit) 1 (rHas (IntKind.i64.wrap ((IntKind.i64.wrap (Int.tdiv (bAnd .i64 u.A m) 2)) + (IntKind.i64.wrap (128 * (rHas u.P 1))))) 64)) 64 (Int.tmod (IntKind.i64.wrap ((rHas (IntKind.i64.wrap ((IntKind.i64.wrap (Int.tdiv (bAnd .i64 u.A m) 2)) + (IntKind.i64.wrap (128 * (rHas u.P 1))))) 64) + (rHas (IntKind.i64.wrap ((IntKind.i64.wrap (Int.tdiv (bAnd .i64 u.A m) 2)) + (IntKind.i64.wrap (128 * (rHas u.P 1))))) 32))) 2)).A)) trivial))))))))))))))))) (by kernel_rfl)
theorem rRead_ARR_ok (u : RUnit) (m : Int) : FnSpec Try.prog 17 1000 [RUnit.enc u, .string ⟨#[65, 82, 82]⟩, .int .i64 m] [] (RUnit.enc (rRead_ARR u m)) [] := by
  exact rRead_ARR_p1 u m

/-- kotatsu/kotatsuref08.Read -/
def rRead_AXS (u : RUnit) (m : Int) : RUnit :=
  ({ A := (rLess u (bAnd .i64 u.A u.X) m).A, X := (Int.tmod (IntKind.i64.wrap ((IntKind.i64.wrap ((bAnd .i64 u.A u.X) + 256)) - m)) 256), Y := (rLess u (bAnd .i64 u.A u.X) m).Y, S := (rLess u (bAnd .i64 u.A u.X) m).S, P := (rLess u (bAnd .i64 u.A u.X) m).P } : RUnit)
theorem rRead_AXS_p1 (u : RUnit) (m : Int) : FnSpec Try.prog 17 1000 [RUnit.enc u, .string ⟨#[65, 88, 83]⟩, .int .i64 m] [] (RUnit.enc ({ A := (rLess u (bAnd .i64 u.A u.X) m).A, X := (Int.tmod (IntKind.i64.wrap ((IntKind.i64.wrap ((bAnd .i64 u.A u.X) + 256)) - m)) 256), Y := (rLess u (bAnd .i64 u.A u.X) m).Y, S := (rLess u (bAnd .i64 u.A u.X) m).S, P := (rLess u (bAnd .i64 u.A u.X) m).P } : RUnit)) [] := by
  exact fn_of_x hG hM Try.func17 (by kernel_rfl) (by kernel_rfl) 400 [.no, .no, .no, .no, .no, .no, .no, .no, .no, .no, .no, .no, .no, .no, .no, .no, .yes, .call [] [] 1000 (RUnit.enc (rLess u (bAnd .i64 u.A u.X) m)) []] (And.intro (Eq.refl false) (And.intro (Eq.refl false) (And.intro (Eq.refl false) (And.intro (Eq.refl false) (And.intro (Eq.refl false) (And.intro (Eq.refl false) (And.intro (Eq.refl false) (And.intro (Eq.refl false) (And.intro (Eq.refl false) (And.intro (Eq.refl false) (And.intro (Eq.refl false) (And.intro (Eq.refl false) (And.intro (Eq.refl false) (And.intro (Eq.refl false) (And.intro (Eq.refl false) (And.intro (Eq.refl false) (And.intro (Eq.refl true) (And.intro (rLess_ok u (bAnd .i64 u.A u.X) m) (And.intro (by decide : ((256 : Int) ≠ 0)) trivial))))))))))))))))))) (by kernel_rfl)
theorem rRead_AXS_ok (u : RUnit) (m : Int) : FnSpec Try.prog 17 1000 [RUnit.enc u, .string ⟨#[65, 88, 83]⟩, .int .i64 m] [] (RUnit.enc (rRead_AXS u m)) [] := by
  exact rRead_AXS_p1 u m

/-- kotatsu/kotatsuref08.Read -/
def rRead_LAS (u : RUnit) (m : Int) : RUnit :=
  (rSign ({ A := (bAnd .i64 u.S m), X := (bAnd .i64 u.S m), Y := u.Y, S := (bAnd .i64 u.S m), P := u.P } : RUnit) (bAnd .i64 u.S m))
theorem rRead_LAS_p1 (u : RUnit) (m : Int) : FnSpec Try.prog 17 1000 [RUnit.enc u, .string ⟨#[76, 65, 83]⟩, .int .i64 m] [] (RUnit.enc (rSign ({ A := (bAnd .i64 u.S m), X := (bAnd .i64 u.S m), Y := u.Y, S := (bAnd .i64 u.S m), P := u.P } : RUnit) (bAnd .i64 u.S m))) [] := by
  exact fn_of_x hG hM Try.func17 (by kernel_rfl) (by kernel_rfl) 400 [.no, .no, .no, .no, .no, .no, .no, .no, .no, .no, .no, .no, .no, .no, .no, .no, .no, .yes, .no, .no, .no, .call [] [] 1000 (RUnit.enc (rSign ({ A := (bAnd .i64 u.S m), X := (bAnd .i64 u.S m), Y := u.Y, S := (bAnd .i64 u.S m), P := u.P } : RUnit) (bAnd .i64 u.S m))) []] (And.intro (Eq.refl false) (And.intro (Eq.refl false) (And.intro (Eq.refl false) (And.intro (Eq.refl false) (And.intro (Eq.refl false) (And.intro (Eq.refl false) (And.intro (Eq.refl false) (And.intro (Eq.refl false) (And.intro (Eq.refl false) (And.intro (Eq.refl false) (And.intro (Eq.refl false) (And.intro (Eq.refl false) (And.intro (Eq.refl false) (And.intro (Eq.refl false) (And.intro (Eq.refl false) (And.intro (Eq.refl false) (And.intro (Eq.refl false) (And.intro (Eq.refl true) (And.intro (Eq.refl false) (And.intro (Eq.refl false) (And.intro (Eq.refl false) (And.intro (rSign_ok ({ A := (bAnd .i64 u.S m), X := (bAnd .i64 u.S m), Y := u.Y, S := (bAnd .i64 u.S m), P := u.P } : RUnit) (bAnd .i64 u.S m)) trivial)))))))))))))))))))))) (by kernel_rfl)
theorem rRead_LAS_ok (u : RUnit) (m : Int) : FnSpec Try.prog 17 1000 [RUnit.enc u, .string ⟨#[76, 65, 83]⟩, .int .i64 m] [] (RUnit.enc (rRead_LAS u m)) [] := by
  exact rRead_LAS_p1 u m

/-- kotatsu/kotatsuref08.Change -/
def rChange_ASL (u : RUnit) (m : Int) : RUnit × Int :=
  ((rSign (rSet u 1 (IntKind.i64.wrap (Int.tdiv m 128))) (Int.tmod (IntKind.i64.wrap (2 * m)) 256)), (Int.tmod (IntKind.i64.wrap (2 * m)) 256))
theorem rChange_ASL_p1 (u : RUnit) (m : Int) : FnSpec Try.prog 29 1000 [RUnit.enc u, .string ⟨#[65, 83, 76]⟩, .int .i64 m] [] (.tuple ⟨[RUnit.enc (((rSign (rSet u 1 (IntKind.i64.wrap (Int.tdiv m 128))) (Int.tmod (IntKind.i64.wrap (2 * m)) 256)), (Int.tmod (IntKind.i64.wrap (2 * m)) 256)).1), .int .i64 (((rSign (rSet u 1 (IntKind.i64.wrap (Int.tdiv m 128))) (Int.tmod (IntKind.i64.wrap (2 * m)) 256)), (Int.tmod (IntKind.i64.wrap (2 * m)) 256)).2)]⟩) [] := by
  have o1 : (1 : Int) ≠ 0 := by first | decide | omega
  have o2 : (1 : Int) ≠ 0 := by first | decide | omega
  exact fn_of_x hG hM Try.func29 (by kernel_rfl) (by kernel_rfl) 400 [.call [] [] 1000 (.int .i64 (rHas u.P 1)) [], .yes, .yes, .call [] [] 1000 (RUnit.enc (rSet u 1 (IntKind.i64.wrap (Int.tdiv m 128)))) [], .call [] [] 1000 (RUnit.enc (rSign (rSet u 1 (IntKind.i64.wrap (Int.tdiv m 128))) (Int.tmod (IntKind.i64.wrap (2 * m)) 256))) [], .no, .no, .no, .no, .no, .no] (And.intro (rHas_ok u.P 1 o1) (And.intro (Eq.refl true) (And.intro (Eq.refl true) (And.intro (by decide : ((128 : Int) ≠ 0)) (And.intro (rSet_ok u 1 (IntKind.i64.wrap (Int.tdiv m 128)) o2) (And.intro (by decide : ((256 : Int) ≠ 0)) (And.intro (rSign_ok (rSet u 1 (IntKind.i64.wrap (Int.tdiv m 128))) (Int.tmod (IntKind.i64.wrap (2 * m)) 256)) (And.intro (Eq.refl false) (And.intro (Eq.refl false) (And.intro (Eq.refl false) (And.intro (Eq.refl false) (And.intro (Eq.refl false) (And.intro (Eq.refl false) trivial))))))))))))) (by kernel_rfl)
theorem rChange_ASL_ok (u : RUnit) (m : Int) : FnSpec Try.prog 29 1000 [RUnit.enc u, .string ⟨#[65, 83, 76]⟩, .int .i64 m] [] (.tuple ⟨[RUnit.enc ((rChange_ASL u m).1), .int .i64 ((rChange_ASL u m).2)]⟩) [] := by
  exact rChange_ASL_p1 u m

/-- kotatsu/kotatsuref08.Change -/
def rChange_LSR (u : RUnit) (m : Int) : RUnit × Int :=
  ((rSign (rSet u 1 (Int.tmod m 2)) (IntKind.i64.wrap (Int.tdiv m 2))), (IntKind.i64.wrap (Int.tdiv m 2)))
theorem rChange_LSR_p1 (u : RUnit) (m : Int) : FnSpec Try.prog 29 1000 [RUnit.enc u, .string ⟨#[76, 83, 82]⟩, .int .i64 m] [] (.tuple ⟨[RUnit.enc (((rSign (rSet u 1 (Int.tmod m 2)) (IntKind.i64.wrap (Int.tdiv m 2))), (IntKind.i64.wrap (Int.tdiv m 2))).1), .int .i64 (((rSign (rSet u 1 (Int.tmod m 2)) (IntKind.i64.wrap (Int.tdiv m 2))), (IntKind.i64.wrap (Int.tdiv m 2))).2)]⟩) [] := by
  have o1 : (1 : Int) ≠ 0 := by first | decide | omega
  have o2 : (1 : Int) ≠ 0 := by first | decide | omega
  exact fn_of_x hG hM Try.func29 (by kernel_rfl) (by kernel_rfl) 400 [.call [] [] 1000 (.int .i64 (rHas u.P 1)) [], .no, .no, .yes, .yes, .call [] [] 1000 (RUnit.enc (rSet u 1 (Int.tmod m 2))) [], .call [] [] 1000 (RUnit.enc (rSign (rSet u 1 (Int.tmod m 2)) (IntKind.i64.wrap (Int.tdiv m 2)))) [], .no, .no, .no, .no, .no, .no] (And.intro (rHas_ok u.P 1 o1) (And.intro (Eq.refl false) (And.intro (Eq.refl false) (And.intro (Eq.refl true) (And.intro (Eq.refl true) (And.intro (by decide : ((2 : Int) ≠ 0)) (And.intro (rSet_ok u 1 (Int.tmod m 2) o2) (And.intro (by decide : ((2 : Int) ≠ 0)) (And.intro (rSign_ok (rSet u 1 (Int.tmod m 2)) (IntKind.i64.wrap (Int.tdiv m 2))) (And.intro (Eq.refl false) (And.intro (Eq.refl false) (And.intro (Eq.refl false) (And.intro (Eq.refl false) (And.intro (Eq.refl false) (And.intro (Eq.refl false) trivial))))))))))))))) (by kernel_rfl)
theorem rChange_LSR_ok (u : RUnit) (m : Int) : FnSpec Try.prog 29 1000 [RUnit.enc u, .string ⟨#[76, 83, 82]⟩, .int .i64 m] [] (.tuple ⟨[RUnit.enc ((rChange_LSR u m).1), .int .i64 ((rChange_LSR u m).2)]⟩) [] := by
  exact rChange_LSR_p1 u m

/-- kotatsu/kotatsuref08.Change -/
def rChange_ROL (u : RUnit) (m : Int) : RUnit × Int :=
  ((rSign (rSet u 1 (IntKind.i64.wrap (Int.tdiv m 128))) (IntKind.i64.wrap ((Int.tmod (IntKind.i64.wrap (2 * m)) 256) + (rHas u.P 1)))), (IntKind.i64.wrap ((Int.tmod (IntKind.i64.wrap (2 * m)) 256) + (rHas u.P 1))))
theorem rChange_ROL_p1 (u : RUnit) (m : Int) : FnSpec Try.prog 29 1000 [RUnit.enc u, .string ⟨#[82, 79, 76]⟩, .int .i64 m] [] (.tuple ⟨[RUnit.enc (((rSign (rSet u 1 (IntKind.i64.wrap (Int.tdiv m 128))) (IntKind.i64.wrap ((Int.tmod (IntKind.i64.wrap (2 * m)) 256) + (rHas u.P 1)))), (IntKind.i64.wrap ((Int.tmod (IntKind.i64.wrap (2 * m)) 256) + (rHas u.P 1)))).1), .int .i64 (((rSign (rSet u 1 (IntKind.i64.wrap (Int.tdiv m 128))) (IntKind.i64.wrap ((Int.tmod (IntKind.i64.wrap (2 * m)) 256) + (rHas u.P 1)))), (IntKind.i64.wrap ((Int.tmod (IntKind.i64.wrap (2 * m)) 256) + (rHas u.P 1)))).2)]⟩) [] := by
  have o1 : (1 : Int) ≠ 0 := by first | decide | omega
  have o2 : (1 : Int) ≠ 0 := by first | decide | omega
  exact fn_of_x hG hM Try.func29 (by kernel_rfl) (by kernel_rfl) 400 [.call [] [] 1000 (.int .i64 (rHas u.P 1)) [], .no, .no, .no, .no, .yes, .yes, .call [] [] 1000 (RUnit.enc (rSet u 1 (IntKind.i64.wrap (Int.tdiv m 128)))) [], .call [] [] 1000 (RUnit.enc (rSign (rSet u 1 (IntKind.i64.wrap (Int.tdiv m 128))) (IntKind.i64.wrap ((Int.tmod (IntKind.i64.wrap (2 * m)) 256) + (rHas u.P 1))))) [], .no, .no, .no, .no, .no, .no] (And.intro (rHas_ok u.P 1 o1) (And.intro (Eq.refl false) (And.intro (Eq.refl false) (And.intro (Eq.refl false) (And.intro (Eq.refl false) (And.intro (Eq.refl true) (And.intro (Eq.refl true) (And.intro (by decide : ((128 : Int) ≠ 0)) (And.intro (rSet_ok u 1 (IntKind.i64.wrap (Int.tdiv m 128)) o2) (And.intro (by decide : ((256 : Int) ≠ 0)) (And.intro (rSign_ok (rSet u 1 (IntKind.i64.wrap (Int.tdiv m 128))) (IntKind.i64.wrap ((Int.tmod (IntKind.i64.wrap (2 * m)) 256) + (rHas u.P 1)))) (And.intro (Eq.refl false) (And.intro (Eq.refl false) (And.intro (Eq.refl false) (And.intro (Eq.refl false) (And.intro (Eq.refl false) (And.intro (Eq.refl false) trivial))))))))))))))))) (by kernel_rfl)
theorem rChange_ROL_ok (u : RUnit) (m : Int) : FnSpec Try.prog 29 1000 [RUnit.enc u, .string ⟨#[82, 79, 76]⟩, .int .i64 m] [] (.tuple ⟨[RUnit.enc ((rChange_ROL u m).1), .int .i64 ((rChange_ROL u m).2)]⟩) [] := by
  exact rChange_ROL_p1 u m

/-- kotatsu/kotatsuref08.Change -/
def rChange_ROR (u : RUnit) (m : Int) : RUnit × Int :=
  ((rSign (rSet u 1 (Int.tmod m 2)) (IntKind.i64.wrap ((IntKind.i64.wrap (Int.tdiv m 2)) + (IntKind.i64.wrap (128 * (rHas u.P 1)))))), (IntKind.i64.wrap ((IntKind.i64.wrap (Int.tdiv m 2)) + (IntKind.i64.wrap (128 * (rHas u.P 1))))))
theorem rChange_ROR_p1 (u : RUnit) (m : Int) : FnSpec Try.prog 29 1000 [RUnit.enc u, .string ⟨#[82, 79, 82]⟩, .int .i64 m] [] (.tuple ⟨[RUnit.enc (((rSign (rSet u 1 (Int.tmod m 2)) (IntKind.i64.wrap ((IntKind.i64.wrap (Int.tdiv m 2)) + (IntKind.i64.wrap (128 * (rHas u.P 1)))))), (IntKind.i64.wrap ((IntKind.i64.wrap (Int.tdiv m 2)) + (IntKind.i64.wrap (128 * (rHas u.P 1)))))).1), .int .i64 (((rSign (rSet u 1 (Int.tmod m 2)) (IntKind.i64.wrap ((IntKind.i64.wrap (Int.tdiv m 2)) + (IntKind.i64.wrap (128 * (rHas u.P 1)))))), (IntKind.i64.wrap ((IntKind.i64.wrap (Int.tdiv m 2)) + (IntKind.i64.wrap (128 * (rHas u.P 1)))))).2)]⟩) [] := by
  have o1 : (1 : Int) ≠ 0 := by first | decide | omega
  have o2 : (1 : Int) ≠ 0 := by first | decide | omega
  exact fn_of_x hG hM Try.func29 (by kernel_rfl) (by kernel_rfl) 400 [.call [] [] 1000 (.int .i64 (rHas u.P 1)) [], .no, .no, .no, .no, .no, .no, .yes, .yes, .call [] [] 1000 (RUnit.enc (rSet u 1 (Int.tmod m 2))) [], .call [] [] 1000 (RUnit.enc (rSign (rSet u 1 (Int.tmod m 2)) (IntKind.i64.wrap ((IntKind.i64.wrap (Int.tdiv m 2)) + (IntKind.i64.wrap (128 * (rHas u.P 1))))))) [], .no, .no, .no, .no, .no, .no] (And.intro (rHas_ok u.P 1 o1) (And.intro (Eq.refl false) (And.intro (Eq.refl false) (And.intro (Eq.refl false) (And.intro (Eq.refl false) (And.intro (Eq.refl false) (And.intro (Eq.refl false) (And.intro (Eq.refl true) (And.intro (Eq.refl true) (And.intro (by decide : ((2 : Int) ≠ 0)) (And.intro (rSet_ok u 1 (Int.tmod m 2) o2) (And.intro (by decide : ((2 : Int) ≠ 0)) (And.intro (rSign_ok (rSet u 1 (Int.tmod m 2)) (IntKind.i64.wrap ((IntKind.i64.wrap (Int.tdiv m 2)) + (IntKind.i64.wrap (128 * (rHas u.P 1)))))) (And.intro (Eq.refl false) (And.intro (Eq.refl false) (And.intro (Eq.refl false) (And.intro (Eq.refl false) (And.intro (Eq.refl false) (And.intro (Eq.refl false) trivial))))))))))))))))))) (by kernel_rfl)
theorem rChange_ROR_ok (u : RUnit) (m : Int) : FnSpec Try.prog 29 1000 [RUnit.enc u, .string ⟨#[82, 79, 82]⟩, .int .i64 m] [] (.tuple ⟨[RUnit.enc ((rChange_ROR u m).1), .int .i64 ((rChange_ROR u m).2)]⟩) [] := by
  exact rChange_ROR_p1 u m

/-- kotatsu/kotatsuref08.Change -/
def rChange_INC (u : RUnit) (m : Int) : RUnit × Int :=
  ((rSign u (Int.tmod (IntKind.i64.wrap (m + 1)) 256)), (Int.tmod (IntKind.i64.wrap (m + 1)) 256))
theorem rChange_INC_p1 (u : RUnit) (m : Int) : FnSpec Try.prog 29 1000 [RUnit.enc u, .string ⟨#[73, 78, 67]⟩, .int .i64 m] [] (.tuple ⟨[RUnit.enc (((rSign u (Int.tmod (IntKind.i64.wrap (m + 1)) 256)), (Int.tmod (IntKind.i64.wrap (m + 1)) 256)).1), .int .i64 (((rSign u (Int.tmod (IntKind.i64.wrap (m + 1)) 256)), (Int.tmod (IntKind.i64.wrap (m + 1)) 256)).2)]⟩) [] := by
  have o1 : (1 : Int) ≠ 0 := by first | decide | omega
  exact fn_of_x hG hM Try.func29 (by kernel_rfl) (by kernel_rfl) 400 [.call [] [] 1000 (.int .i64 (rHas u.P 1)) [], .no, .no, .no, .no, .no, .no, .no, .no, .yes, .yes, .call [] [] 1000 (RUnit.enc (rSign u (Int.tmod (IntKind.i64.wrap (m + 1)) 256))) [], .no, .no, .no, .no, .no, .no] (And.intro (rHas_ok u.P 1 o1) (And.intro (Eq.refl false) (And.intro (Eq.refl false) (And.intro (Eq.refl false) (And.intro (Eq.refl false) (And.intro (Eq.refl false) (And.intro (Eq.refl false) (And.intro (Eq.refl false) (And.intro (Eq.refl false) (And.intro (Eq.refl true) (And.intro (Eq.refl true) (And.intro (by decide : ((256 : Int) ≠ 0)) (And.intro (rSign_ok u (Int.tmod (IntKind.i64.wrap (m + 1)) 256)) (And.intro (Eq.refl false) (And.intro (Eq.refl false) (And.intro (Eq.refl false) (And.intro (Eq.refl false) (And.intro (Eq.refl false) (And.intro (Eq.refl false) trivial))))))))))))))))))) (by kernel_rfl)
theorem rChange_INC_ok (u : RUnit) (m : Int) : FnSpec Try.prog 29 1000 [RUnit.enc u, .string ⟨#[73, 78, 67]⟩, .int .i64 m] [] (.tuple ⟨[RUnit.enc ((rChange_INC u m).1), .int .i64 ((rChange_INC u m).2)]⟩) [] := by
  exact rChange_INC_p1 u m

/-- kotatsu/kotatsuref08.Change -/
def rChange_DEC (u : RUnit) (m : Int) : RUnit × Int :=
  ((rSign u (Int.tmod (IntKind.i64.wrap (m + 255)) 256)), (Int.tmod (IntKind.i64.wrap (m + 255)) 256))
theorem rChange_DEC_p1 (u : RUnit) (m : Int) : FnSpec Try.prog 29 1000 [RUnit.enc u, .string ⟨#[68, 69, 67]⟩, .int .i64 m] [] (.tuple ⟨[RUnit.enc (((rSign u (Int.tmod (IntKind.i64.wrap (m + 255)) 256)), (Int.tmod (IntKind.i64.wrap (m + 255)) 256)).1), .int .i64 (((rSign u (Int.tmod (IntKind.i64.wrap (m + 255)) 256)), (Int.tmod (IntKind.i64.wrap (m + 255)) 256)).2)]⟩) [] := by
  have o1 : (1 : Int) ≠ 0 := by first | decide | omega
  exact fn_of_x hG hM Try.func29 (by kernel_rfl) (by kernel_rfl) 400 [.call [] [] 1000 (.int .i64 (rHas u.P 1)) [], .no, .no, .no, .no, .no, .no, .no, .no, .no, .no, .yes, .yes, .call [] [] 1000 (RUnit.enc (rSign u (Int.tmod (IntKind.i64.wrap (m + 255)) 256))) [], .no, .no, .no, .no, .no, .no] (And.intro (rHas_ok u.P 1 o1) (And.intro (Eq.refl false) (And.intro (Eq.refl false) (And.intro (Eq.refl false) (And.intro (Eq.refl false) (And.intro (Eq.refl false) (And.intro (Eq.refl false) (And.intro (Eq.refl false) (And.intro (Eq.refl false) (And.intro (Eq.refl false) (And.intro (Eq.refl false) (And.intro (Eq.refl true) (And.intro (Eq.refl true) (And.intro (by decide : ((256 : Int) ≠ 0)) (And.intro (rSign_ok u (Int.tmod (IntKind.i64.wrap (m + 255)) 256)) (And.intro (Eq.refl false) (And.intro (Eq.refl false) (And.intro (Eq.refl false) (And.intro (Eq.refl false) (And.intro (Eq.refl false) (And.intro (Eq.refl false) trivial))))))))))))))))))))) (by kernel_rfl)
theorem rChange_DEC_ok (u : RUnit) (m : Int) : FnSpec Try.prog 29 1000 [RUnit.enc u, .string ⟨#[68, 69, 67]⟩, .int .i64 m] [] (.tuple ⟨[RUnit.enc ((rChange_DEC u m).1), .int .i64 ((rChange_DEC u m).2)]⟩) [] := by
  exact rChange_DEC_p1 u m

/-- kotatsu/kotatsuref08.Change -/
def rChange_SLO (u : RUnit) (m : Int) : RUnit × Int :=
  ((rRead_ORA (rSign (rSet u 1 (IntKind.i64.wrap (Int.tdiv m 128))) (Int.tmod (IntKind.i64.wrap (2 * m)) 256)) (Int.tmod (IntKind.i64.wrap (2 * m)) 256)), (Int.tmod (IntKind.i64.wrap (2 * m)) 256))
theorem rChange_SLO_p1 (u : RUnit) (m : Int) : FnSpec Try.prog 29 1000 [RUnit.enc u, .string ⟨#[83, 76, 79]⟩, .int .i64 m] [] (.tuple ⟨[RUnit.enc (((rRead_ORA (rSign (rSet u 1 (IntKind.i64.wrap (Int.tdiv m 128))) (Int.tmod (IntKind.i64.wrap (2 * m)) 256)) (Int.tmod (IntKind.i64.wrap (2 * m)) 256)), (Int.tmod (IntKind.i64.wrap (2 * m)) 256)).1), .int .i64 (((rRead_ORA (rSign (rSet u 1 (IntKind.i64.wrap (Int.tdiv m 128))) (Int.tmod (IntKind.i64.wrap (2 * m)) 256)) (Int.tmod (IntKind.i64.wrap (2 * m)) 256)), (Int.tmod (IntKind.i64.wrap (2 * m)) 256)).2)]⟩) [] := by
  have o1 : (1 : Int) ≠ 0 := by first | decide | omega
  have o2 : (1 : Int) ≠ 0 := by first | decide | omega
  exact fn_of_x hG hM Try.func29 (by kernel_rfl) (by kernel_rfl) 400 [.call [] [] 1000 (.int .i64 (rHas u.P 1)) [], .no, .yes, .call [] [] 1000 (RUnit.enc (rSet u 1 (IntKind.i64.wrap (Int.tdiv m 128)))) [], .call [] [] 1000 (RUnit.enc (rSign (rSet u 1 (IntKind.i64.wrap (Int.tdiv m 128))) (Int.tmod (IntKind.i64.wrap (2 * m)) 256))) [], .yes, .call [] [] 1000 (RUnit.enc (rRead_ORA (rSign (rSet u 1 (IntKind.i64.wrap (Int.tdiv m 128))) (Int.tmod (IntKind.i64.wrap (2 * m)) 256)) (Int.tmod (IntKind.i64.wrap (2 * m)) 256))) []] (And.intro (rHas_ok u.P 1 o1) (And.intro (Eq.refl false) (And.intro (Eq.refl true) (And.intro (by decide : ((128 : Int) ≠ 0)) (And.intro (rSet_ok u 1 (IntKind.i64.wrap (Int.tdiv m 128)) o2) (And.intro (by decide : ((256 : Int) ≠ 0)) (And.intro (rSign_ok (rSet u 1 (IntKind.i64.wrap (Int.tdiv m 128))) (Int.tmod (IntKind.i64.wrap (2 * m)) 256)) (And.intro (Eq.refl true) (And.intro (rRead_ORA_ok (rSign (rSet u 1 (IntKind.i64.wrap (Int.tdiv m 128))) (Int.tmod (IntKind.i64.wrap (2 * m)) 256)) (Int.tmod (IntKind.i64.wrap (2 * m)) 256)) trivial))))))))) (by kernel_rfl)
theorem rChange_SLO_ok (u : RUnit) (m : Int) : FnSpec Try.prog 29 1000 [RUnit.enc u, .string ⟨#[83, 76, 79]⟩, .int .i64 m] [] (.tuple ⟨[RUnit.enc ((rChange_SLO u m).1), .int .i64 ((rChange_SLO u m).2)]⟩) [] := by
  exact rChange_SLO_p1 u m

/-- kotatsu/kotatsuref08.Change -/
def rChange_RLA (u : RUnit) (m : Int) : RUnit × Int :=
  ((rRead_AND (rSign (rSet u 1 (IntKind.i64.wrap (Int.tdiv m 128))) (IntKind.i64.wrap ((Int.tmod (IntKind.i64.wrap (2 * m)) 256) + (rHas u.P 1)))) (IntKind.i64.wrap ((Int.tmod (IntKind.i64.wrap (2 * m)) 256) + (rHas u.P 1)))), (IntKind.i64.wrap ((Int.tmod (IntKind.i64.wrap (2 * m)) 256) + (rHas u.P 1))))
theorem rChange_RLA_p1 (u : RUnit) (m : Int) : FnSpec Try.prog 29 1000 [RUnit.enc u, .string ⟨#[82, 76, 65]⟩, .int .i64 m] [] (.tuple ⟨[RUnit.enc (((rRead_AND (rSign (rSet u 1 (IntKind.i64.wrap (Int.tdiv m 128))) (IntKind.i64.wrap ((Int.tmod (IntKind.i64.wrap (2 * m)) 256) + (rHas u.P 1)))) (IntKind.i64.wrap ((Int.tmod (IntKind.i64.wrap (2 * m)) 256) + (rHas u.P 1)))), (IntKind.i64.wrap ((Int.tmod (IntKind.i64.wrap (2 * m)) 256) + (rHas u.P 1)))).1), .int .i64 (((rRead_AND (rSign (rSet u 1 (IntKind.i64.wrap (Int.tdiv m 128))) (IntKind.i64.wrap ((Int.tmod (IntKind.i64.wrap (2 * m)) 256) + (rHas u.P 1)))) (IntKind.i64.wrap ((Int.tmod (IntKind.i64.wrap (2 * m)) 256) + (rHas u.P 1)))), (IntKind.i64.wrap ((Int.tmod (IntKind.i64.wrap (2 * m)) 256) + (rHas u.P 1)))).2)]⟩) [] := by
  have o1 : (1 : Int) ≠ 0 := by first | decide | omega
  have o2 : (1 : Int) ≠ 0 := by first | decide | omega
  exact fn_of_x hG hM Try.func29 (by kernel_rfl) (by kernel_rfl) 400 [.call [] [] 1000 (.int .i64 (rHas u.P 1)) [], .no, .no, .no, .no, .no, .yes, .call [] [] 1000 (RUnit.enc (rSet u 1 (IntKind.i64.wrap (Int.tdiv m 128)))) [], .call [] [] 1000 (RUnit.enc (rSign (rSet u 1 (IntKind.i64.wrap (Int.tdiv m 128))) (IntKind.i64.wrap ((Int.tmod (IntKind.i64.wrap (2 * m)) 256) + (rHas u.P 1))))) [], .no, .yes, .call [] [] 1000 (RUnit.enc (rRead_AND (rSign (rSet u 1 (IntKind.i64.wrap (Int.tdiv m 128))) (IntKind.i64.wrap ((Int.tmod (IntKind.i64.wrap (2 * m)) 256) + (rHas u.P 1)))) (IntKind.i64.wrap ((Int.tmod (IntKind.i64.wrap (2 * m)) 256) + (rHas u.P 1))))) []] (And.intro (rHas_ok u.P 1 o1) (And.intro (Eq.refl false) (And.intro (Eq.refl false) (And.intro (Eq.refl false) (And.intro (Eq.refl false) (And.intro (Eq.refl false) (And.intro (Eq.refl true) (And.intro (by decide : ((128 : Int) ≠ 0)) (And.intro (rSet_ok u 1 (IntKind.i64.wrap (Int.tdiv m 128)) o2) (And.intro (by decide : ((256 : Int) ≠ 0)) (And.intro (rSign_ok (rSet u 1 (IntKind.i64.wrap (Int.tdiv m 128))) (IntKind.i64.wrap ((Int.tmod (IntKind.i64.wrap (2 * m)) 256) + (rHas u.P 1)))) (And.intro (Eq.refl false) (And.intro (Eq.refl true) (And.intro (rRead_AND_ok (rSign (rSet u 1 (IntKind.i64.wrap (Int.tdiv m 128))) (IntKind.i64.wrap ((Int.tmod (IntKind.i64.wrap (2 * m)) 256) + (rHas u.P 1)))) (IntKind.i64.wrap ((Int.tmod (IntKind.i64.wrap (2 * m)) 256) + (rHas u.P 1)))) trivial)))))))))))))) (by kernel_rfl)
theorem rChange_RLA_ok (u : RUnit) (m : Int) : FnSpec Try.prog 29 1000 [RUnit.enc u, .string ⟨#[82, 76, 65]⟩, .int .i64 m] [] (.tuple ⟨[RUnit.enc ((rChange_RLA u m).1), .int .i64 ((rChange_RLA u m).2)]⟩) [] := by
  exact rChange_RLA_p1 u m

/-- kotatsu/kotatsuref08.Change -/
def rChange_SRE (u : RUnit) (m : Int) : RUnit × Int :=
  ((rRead_EOR (rSign (rSet u 1 (Int.tmod m 2)) (IntKind.i64.wrap (Int.tdiv m 2))) (IntKind.i64.wrap (Int.tdiv m 2))), (IntKind.i64.wrap (Int.tdiv m 2)))
theorem rChange_SRE_p1 (u : RUnit) (m : Int) : FnSpec Try.prog 29 1000 [RUnit.enc u, .string ⟨#[83, 82, 69]⟩, .int .i64 m] [] (.tuple ⟨[RUnit.enc (((rRead_EOR (rSign (rSet u 1 (Int.tmod m 2)) (IntKind.i64.wrap (Int.tdiv m 2))) (IntKind.i64.wrap (Int.tdiv m 2))), (IntKind.i64.wrap (Int.tdiv m 2))).1), .int .i64 (((rRead_EOR (rSign (rSet u 1 (Int.tmod m 2)) (IntKind.i64.wrap (Int.tdiv m 2))) (IntKind.i64.wrap (Int.tdiv m 2))), (IntKind.i64.wrap (Int.tdiv m 2))).2)]⟩) [] := by
  have o1 : (1 : Int) ≠ 0 := by first | decide | omega
  have o2 : (1 : Int) ≠ 0 := by first | decide | omega
  exact fn_of_x hG hM Try.func29 (by kernel_rfl) (by kernel_rfl) 400 [.call [] [] 1000 (.int .i64 (rHas u.P 1)) [], .no, .no, .no, .yes, .call [] [] 1000 (RUnit.enc (rSet u 1 (Int.tmod m 2))) [], .call [] [] 1000 (RUnit.enc (rSign (rSet u 1 (Int.tmod m 2)) (IntKind.i64.wrap (Int.tdiv m 2)))) [], .no, .no, .yes, .call [] [] 1000 (RUnit.enc (rRead_EOR (rSign (rSet u 1 (Int.tmod m 2)) (IntKind.i64.wrap (Int.tdiv m 2))) (IntKind.i64.wrap (Int.tdiv m 2)))) []] (And.intro (rHas_ok u.P 1 o1) (And.intro (Eq.refl false) (And.intro (Eq.refl false) (And.intro (Eq.refl false) (And.intro (Eq.refl true) (And.intro (by decide : ((2 : Int) ≠ 0)) (And.intro (rSet_ok u 1 (Int.tmod m 2) o2) (And.intro (by decide : ((2 : Int) ≠ 0)) (And.intro (rSign_ok (rSet u 1 (Int.tmod m 2)) (IntKind.i64.wrap (Int.tdiv m 2))) (And.intro (Eq.refl false) (And.intro (Eq.refl false) (And.intro (Eq.refl true) (And.intro (rRead_EOR_ok (rSign (rSet u 1 (Int.tmod m 2)) (IntKind.i64.wrap (Int.tdiv m 2))) (IntKind.i64.wrap (Int.tdiv m 2))) trivial))))))))))))) (by kernel_rfl)
theorem rChange_SRE_ok (u : RUnit) (m : Int) : FnSpec Try.prog 29 1000 [RUnit.enc u, .string ⟨#[83, 82, 69]⟩, .int .i64 m] [] (.tuple ⟨[RUnit.enc ((rChange_SRE u m).1), .int .i64 ((rChange_SRE u m).2)]⟩) [] := by
  exact rChange_SRE_p1 u m

/-- kotatsu/kotatsuref08.Change -/
def rChange_RRA (u : RUnit) (m : Int) : RUnit × Int :=
  ((rRead_ADC (rSign (rSet u 1 (Int.tmod m 2)) (IntKind.i64.wrap ((IntKind.i64.wrap (Int.tdiv m 2)) + (IntKind.i64.wrap (128 * (rHas u.P 1)))))) (IntKind.i64.wrap ((IntKind.i64.wrap (Int.tdiv m 2)) + (IntKind.i64.wrap (128 * (rHas u.P 1)))))), (IntKind.i64.wrap ((IntKind.i64.wrap (Int.tdiv m 2)) + (IntKind.i64.wrap (128 * (rHas u.P 1))))))
theorem rChange_RRA_p1 (u : RUnit) (m : Int) : FnSpec Try.prog 29 1000 [RUnit.enc u, .string ⟨#[82, 82, 65]⟩, .int .i64 m] [] (.tuple ⟨[RUnit.enc (((rRead_ADC (rSign (rSet u 1 (Int.tmod m 2)) (IntKind.i64.wrap ((IntKind.i64.wrap (Int.tdiv m 2)) + (IntKind.i64.wrap (128 * (rHas u.P 1)))))) (IntKind.i64.wrap ((IntKind.i64.wrap (Int.tdiv m 2)) + (IntKind.i64.wrap (128 * (rHas u.P 1)))))), (IntKind.i64.wrap ((IntKind.i64.wrap (Int.tdiv m 2)) + (IntKind.i64.wrap (128 * (rHas u.P 1)))))).1), .int .i64 (((rRead_ADC (rSign (rSet u 1 (Int.tmod m 2)) (IntKind.i64.wrap ((IntKind.i64.wrap (Int.tdiv m 2)) + (IntKind.i64.wrap (128 * (rHas u.P 1)))))) (IntKind.i64.wrap ((IntKind.i64.wrap (Int.tdiv m 2)) + (IntKind.i64.wrap (128 * (rHas u.P 1)))))), (IntKind.i64.wrap ((IntKind.i64.wrap (Int.tdiv m 2)) + (IntKind.i64.wrap (128 * (rHas u.P 1)))))).2)]⟩) [] := by
  have o1 : (1 : Int) ≠ 0 := by first | decide | omega
  have o2 : (1 : Int) ≠ 0 := by first | decide | omega
  exact fn_of_x hG hM Try.func29 (by kernel_rfl) (by kernel_rfl) 400 [.call [] [] 1000 (.int .i64 (rHas u.P 1)) [], .no, .no, .no, .no, .no, .no, .no, .yes, .call [] [] 1000 (RUnit.enc (rSet u 1 (Int.tmod m 2))) [], .call [] [] 1000 (RUnit.enc (rSign (rSet u 1 (Int.tmod m 2)) (IntKind.i64.wrap ((IntKind.i64.wrap (Int.tdiv m 2)) + (IntKind.i64.wrap (128 * (rHas u.P 1))))))) [], .no, .no, .no, .yes, .call [] [] 1000 (RUnit.enc (rRead_ADC (rSign (rSet u 1 (Int.tmod m 2)) (IntKind.i64.wrap ((IntKind.i64.wrap (Int.tdiv m 2)) + (IntKind.i64.wrap (128 * (rHas u.P 1)))))) (IntKind.i64.wrap ((IntKind.i64.wrap (Int.tdiv m 2)) + (IntKind.i64.wrap (128 * (rHas u.P 1))))))) []] (And.intro (rHas_ok u.P 1 o1) (And.intro (Eq.refl false) (And.intro (Eq.refl false) (And.intro (Eq.refl false) (And.intro (Eq.refl false) (And.intro (Eq.refl false) (And.intro (Eq.refl false) (And.intro (Eq.refl false) (And.intro (Eq.refl true) (And.intro (by decide : ((2 : Int) ≠ 0)) (And.intro (rSet_ok u 1 (Int.tmod m 2) o2) (And.intro (by decide : ((2 : Int) ≠ 0)) (And.intro (rSign_ok (rSet u 1 (Int.tmod m 2)) (IntKind.i64.wrap ((IntKind.i64.wrap (Int.tdiv m 2)) + (IntKind.i64.wrap (128 * (rHas u.P 1)))))) (And.intro (Eq.refl false) (And.intro (Eq.refl false) (And.intro (Eq.refl false) (And.intro (Eq.refl true) (And.intro (rRead_ADC_ok (rSign (rSet u 1 (Int.tmod m 2)) (IntKind.i64.wrap ((IntKind.i64.wrap (Int.tdiv m 2)) + (IntKind.i64.wrap (128 * (rHas u.P 1)))))) (IntKind.i64.wrap ((IntKind.i64.wrap (Int.tdiv m 2)) + (IntKind.i64.wrap (128 * (rHas u.P 1)))))) trivial)))))))))))))))))) (by kernel_rfl)
theorem rChange_RRA_ok (u : RUnit) (m : Int) : FnSpec Try.prog 29 1000 [RUnit.enc u, .string ⟨#[82, 82, 65]⟩, .int .i64 m] [] (.tuple ⟨[RUnit.enc ((rChange_RRA u m).1), .int .i64 ((rChange_RRA u m).2)]⟩) [] := by
  exact rChange_RRA_p1 u m

/-- kotatsu/kotatsuref08.Change -/
def rChange_DCP (u : RUnit) (m : Int) : RUnit × Int :=
  ((rRead_CMP (rSign u (Int.tmod (IntKind.i64.wrap (m + 255)) 256)) (Int.tmod (IntKind.i64.wrap (m + 255)) 256)), (Int.tmod (IntKind.i64.wrap (m + 255)) 256))
theorem rChange_DCP_p1 (u : RUnit) (m : Int) : FnSpec Try.prog 29 1000 [RUnit.enc u, .string ⟨#[68, 67, 80]⟩, .int .i64 m] [] (.tuple ⟨[RUnit.enc (((rRead_CMP (rSign u (Int.tmod (IntKind.i64.wrap (m + 255)) 256)) (Int.tmod (IntKind.i64.wrap (m + 255)) 256)), (Int.tmod (IntKind.i64.wrap (m + 255)) 256)).1), .int .i64 (((rRead_CMP (rSign u (Int.tmod (IntKind.i64.wrap (m + 255)) 256)) (Int.tmod (IntKind.i64.wrap (m + 255)) 256)), (Int.tmod (IntKind.i64.wrap (m + 255)) 256)).2)]⟩) [] := by
  have o1 : (1 : Int) ≠ 0 := by first | decide | omega
  exact fn_of_x hG hM Try.func29 (by kernel_rfl) (by kernel_rfl) 400 [.call [] [] 1000 (.int .i64 (rHas u.P 1)) [], .no, .no, .no, .no, .no, .no, .no, .no, .no, .no, .no, .yes, .call [] [] 1000 (RUnit.enc (rSign u (Int.tmod (IntKind.i64.wrap (m + 255)) 256))) [], .no, .no, .no, .no, .yes, .call [] [] 1000 (RUnit.enc (rRead_CMP (rSign u (Int.tmod (IntKind.i64.wrap (m + 255)) 256)) (Int.tmod (IntKind.i64.wrap (m + 255)) 256))) []] (And.intro (rHas_ok u.P 1 o1) (And.intro (Eq.refl false) (And.intro (Eq.refl false) (And.intro (Eq.refl false) (And.intro (Eq.refl false) (And.intro (Eq.refl false) (And.intro (Eq.refl false) (And.intro (Eq.refl false) (And.intro (Eq.refl false) (And.intro (Eq.refl false) (And.intro (Eq.refl false) (And.intro (Eq.refl false) (And.intro (Eq.refl true) (And.intro (by decide : ((256 : Int) ≠ 0)) (And.intro (rSign_ok u (Int.tmod (IntKind.i64.wrap (m + 255)) 256)) (And.intro (Eq.refl false) (And.intro (Eq.refl false) (And.intro (Eq.refl false) (And.intro (Eq.refl false) (And.intro (Eq.refl true) (And.intro (rRead_CMP_ok (rSign u (Int.tmod (IntKind.i64.wrap (m + 255)) 256)) (Int.tmod (IntKind.i64.wrap (m + 255)) 256)) trivial))))))))))))))))))))) (by kernel_rfl)
theorem rChange_DCP_ok (u : RUnit) (m : Int) : FnSpec Try.prog 29 1000 [RUnit.enc u, .string ⟨#[68, 67, 80]⟩, .int .i64 m] [] (.tuple ⟨[RUnit.enc ((rChange_DCP u m).1), .int .i64 ((rChange_DCP u m).2)]⟩) [] := by
  exact rChange_DCP_p1 u m

/-- kotatsu/kotatsuref08.Change -/
def rChange_ISC (u : RUnit) (m : Int) : RUnit × Int :=
  ((rRead_SBC (rSign u (Int.tmod (IntKind.i64.wrap (m + 1)) 256)) (Int.tmod (IntKind.i64.wrap (m + 1)) 256)), (Int.tmod (IntKind.i64.wrap (m + 1)) 256))
theorem rChange_ISC_p1 (u : RUnit) (m : Int) : FnSpec Try.prog 29 1000 [RUnit.enc u, .string ⟨#[73, 83, 67]⟩, .int .i64 m] [] (.tuple ⟨[RUnit.enc (((rRead_SBC (rSign u (Int.tmod (IntKind.i64.wrap (m + 1)) 256)) (Int.tmod (IntKind.i64.wrap (m + 1)) 256)), (Int.tmod (IntKind.i64.wrap (m + 1)) 256)).1), .int .i64 (((rRead_SBC (rSign u (Int.tmod (IntKind.i64.wrap (m + 1)) 256)) (Int.tmod (IntKind.i64.wrap (m + 1)) 256)), (Int.tmod (IntKind.i64.wrap (m + 1)) 256)).2)]⟩) [] := by
  have o1 : (1 : Int) ≠ 0 := by first | decide | omega
  exact fn_of_x hG hM Try.func29 (by kernel_rfl) (by kernel_rfl) 400 [.call [] [] 1000 (.int .i64 (rHas u.P 1)) [], .no, .no, .no, .no, .no, .no, .no, .no, .no, .yes, .call [] [] 1000 (RUnit.enc (rSign u (Int.tmod (IntKind.i64.wrap (m + 1)) 256))) [], .no, .no, .no, .no, .no, .yes, .call [] [] 1000 (RUnit.enc (rRead_SBC (rSign u (Int.tmod (IntKind.i64.wrap (m + 1)) 256)) (Int.tmod (IntKind.i64.wrap (m + 1)) 256))) []] (And.intro (rHas_ok u.P 1 o1) (And.intro (Eq.refl false) (And.intro (Eq.refl false) (And.intro (Eq.refl false) (And.intro (Eq.refl false) (And.intro (Eq.refl false) (And.intro (Eq.refl false) (And.intro (Eq.refl false) (And.intro (Eq.refl false) (And.intro (Eq.refl false) (And.intro (Eq.refl true) (And.intro (by decide : ((256 : Int) ≠ 0)) (And.intro (rSign_ok u (Int.tmod (IntKind.i64.wrap (m + 1)) 256)) (And.intro (Eq.refl false) (And.intro (Eq.refl false) (And.intro (Eq.refl false) (And.intro (Eq.refl false) (And.intro (Eq.refl false) (And.intro (Eq.refl true) (And.intro (rRead_SBC_ok (rSign u (Int.tmod (IntKind.i64.wrap (m + 1)) 256)) (Int.tmod (IntKind.i64.wrap (m + 1)) 256)) trivial)))))))))))))))))))) (by kernel_rfl)
theorem rChange_ISC_ok (u : RUnit) (m : Int) : FnSpec Try.prog 29 1000 [RUnit.enc u, .string ⟨#[73, 83, 67]⟩, .int .i64 m] [] (.tuple ⟨[RUnit.enc ((rChange_ISC u m).1), .int .i64 ((rChange_ISC u m).2)]⟩) [] := by
  exact rChange_ISC_p1 u m

/-- kotatsu/kotatsuref08.Get -/
def rGet (u : RUnit) (r : Int) : Int :=
  if ((r : Int) == 65) = true then
    u.A
  else
    if ((r : Int) == 88) = true then
      u.X
    else
      if ((r : Int) == 89) = true then
        u.Y
      else
        u.S
theorem rGet_p1 (u : RUnit) (r : Int) (c1 : ((r : Int) == 65) = true) : FnSpec Try.prog 41 1000 [RUnit.enc u, .int .u8 r] [] (.int .i64 u.A) [] := by
  exact fn_of_x hG hM Try.func41 (by kernel_rfl) (by kernel_rfl) 400 [.yes] (And.intro c1 trivial) (by kernel_rfl)
theorem rGet_p2 (u : RUnit) (r : Int) (c1 : ((r : Int) == 65) = false) (c2 : ((r : Int) == 88) = true) : FnSpec Try.prog 41 1000 [RUnit.enc u, .int .u8 r] [] (.int .i64 u.X) [] := by
  exact fn_of_x hG hM Try.func41 (by kernel_rfl) (by kernel_rfl) 400 [.no, .yes] (And.intro c1 (And.intro c2 trivial)) (by kernel_rfl)
theorem rGet_p3 (u : RUnit) (r : Int) (c1 : ((r : Int) == 65) = false) (c2 : ((r : Int) == 88) = false) (c3 : ((r : Int) == 89) = true) : FnSpec Try.prog 41 1000 [RUnit.enc u, .int .u8 r] [] (.int .i64 u.Y) [] := by
  exact fn_of_x hG hM Try.func41 (by kernel_rfl) (by kernel_rfl) 400 [.no, .no, .yes] (And.intro c1 (And.intro c2 (And.intro c3 trivial))) (by kernel_rfl)
theorem rGet_p4 (u : RUnit) (r : Int) (c1 : ((r : Int) == 65) = false) (c2 : ((r : Int) == 88) = false) (c3 : ((r : Int) == 89) = false) : FnSpec Try.prog 41 1000 [RUnit.enc u, .int .u8 r] [] (.int .i64 u.S) [] := by
  exact fn_of_x hG hM Try.func41 (by kernel_rfl) (by kernel_rfl) 400 [.no, .no, .no] (And.intro c1 (And.intro c2 (And.intro c3 trivial))) (by kernel_rfl)
theorem rGet_ok (u : RUnit) (r : Int) : FnSpec Try.prog 41 1000 [RUnit.enc u, .int .u8 r] [] (.int .i64 (rGet u r)) [] := by
  rcases bt ((r : Int) == 65) with c1 | c1
  ·
    have e : rGet u r = u.A := by unfold rGet; rw [if_pos c1]
    rw [e]
    exact rGet_p1 u r c1
  ·
    rcases bt ((r : Int) == 88) with c2 | c2
    ·
      have e : rGet u r = u.X := by unfold rGet; rw [if_neg (nt c1), if_pos c2]
      rw [e]
      exact rGet_p2 u r c1 c2
    ·
      rcases bt ((r : Int) == 89) with c3 | c3
      ·
        have e : rGet u r = u.Y := by unfold rGet; rw [if_neg (nt c1), if_neg (nt c2), if_pos c3]
        rw [e]
        exact rGet_p3 u r c1 c2 c3
      ·
        have e : rGet u r = u.S := by unfold rGet; rw [if_neg (nt c1), if_neg (nt c2), if_neg (nt c3)]
        rw [e]
        exact rGet_p4 u r c1 c2 c3

/-- kotatsu/kotatsuref08.Put -/
def rPut (u : RUnit) (r : Int) (n : Int) : RUnit :=
  if ((r : Int) == 65) = true then
    ({ A := n, X := u.X, Y := u.Y, S := u.S, P := u.P } : RUnit)
  else
    if ((r : Int) == 88) = true then
      ({ A := u.A, X := n, Y := u.Y, S := u.S, P := u.P } : RUnit)
    else
      if ((r : Int) == 89) = true then
        ({ A := u.A, X := u.X, Y := n, S := u.S, P := u.P } : RUnit)
      else
        ({ A := u.A, X := u.X, Y := u.Y, S := n, P := u.P } : RUnit)
theorem rPut_p1 (u : RUnit) (r : Int) (n : Int) (c1 : ((r : Int) == 65) = true) : FnSpec Try.prog 57 1000 [RUnit.enc u, .int .u8 r, .int .i64 n] [] (RUnit.enc ({ A := n, X := u.X, Y := u.Y, S := u.S, P := u.P } : RUnit)) [] := by
  exact fn_of_x hG hM Try.func57 (by kernel_rfl) (by kernel_rfl) 400 [.yes] (And.intro c1 trivial) (by kernel_rfl)
theorem rPut_p2 (u : RUnit) (r : Int) (n : Int) (c1 : ((r : Int) == 65) = false) (c2 : ((r : Int) == 88) = true) : FnSpec Try.prog 57 1000 [RUnit.enc u, .int .u8 r, .int .i64 n] [] (RUnit.enc ({ A := u.A, X := n, Y := u.Y, S := u.S, P := u.P } : RUnit)) [] := by
  exact fn_of_x hG hM Try.func57 (by kernel_rfl) (by kernel_rfl) 400 [.no, .yes] (And.intro c1 (And.intro c2 trivial)) (by kernel_rfl)
theorem rPut_p3 (u : RUnit) (r : Int) (n : Int) (c1 : ((r : Int) == 65) = false) (c2 : ((r : Int) == 88) = false) (c3 : ((r : Int) == 89) = true) : FnSpec Try.prog 57 1000 [RUnit.enc u, .int .u8 r, .int .i64 n] [] (RUnit.enc ({ A := u.A, X := u.X, Y := n, S := u.S, P := u.P } : RUnit)) [] := by
  exact fn_of_x hG hM Try.func57 (by kernel_rfl) (by kernel_rfl) 400 [.no, .no, .yes] (And.intro c1 (And.intro c2 (And.intro c3 trivial))) (by kernel_rfl)
theorem rPut_p4 (u : RUnit) (r : Int) (n : Int) (c1 : ((r : Int) == 65) = false) (c2 : ((r : Int) == 88) = false) (c3 : ((r : Int) == 89) = false) : FnSpec Try.prog 57 1000 [RUnit.enc u, .int .u8 r, .int .i64 n] [] (RUnit.enc ({ A := u.A, X := u.X, Y := u.Y, S := n, P := u.P } : RUnit)) [] := by
  exact fn_of_x hG hM Try.func57 (by kernel_rfl) (by kernel_rfl) 400 [.no, .no, .no] (And.intro c1 (And.intro c2 (And.intro c3 trivial))) (by kernel_rfl)
theorem rPut_ok (u : RUnit) (r : Int) (n : Int) : FnSpec Try.prog 57 1000 [RUnit.enc u, .int .u8 r, .int .i64 n] [] (RUnit.enc (rPut u r n)) [] := by
  rcases bt ((r : Int) == 65) with c1 | c1
  ·
    have e : rPut u r n = ({ A := n, X := u.X, Y := u.Y, S := u.S, P := u.P } : RUnit) := by unfold rPut; rw [if_pos c1]
    rw [e]
    exact rPut_p1 u r n c1
  ·
    rcases bt ((r : Int) == 88) with c2 | c2
    ·
      have e : rPut u r n = ({ A := u.A, X := n, Y := u.Y, S := u.S, P := u.P } : RUnit) := by unfold rPut; rw [if_neg (nt c1), if_pos c2]
      rw [e]
      exact rPut_p2 u r n c1 c2
    ·
      rcases bt ((r : Int) == 89) with c3 | c3
      ·
        have e : rPut u r n = ({ A := u.A, X := u.X, Y := n, S := u.S, P := u.P } : RUnit) := by unfold rPut; rw [if_neg (nt c1), if_neg (nt c2), if_pos c3]
        rw [e]
        exact rPut_p3 u r n c1 c2 c3
      ·
        have e : rPut u r n = ({ A := u.A, X := u.X, Y := u.Y, S := n, P := u.P } : RUnit) := by unfold rPut; rw [if_neg (nt c1), if_neg (nt c2), if_neg (nt c3)]
        rw [e]
        exact rPut_p4 u r n c1 c2 c3

/-- kotatsu/kotatsuref08.flag -/
def rFlag (r : Int) : Int :=
  if ((r : Int) == 67) = true then
    1
  else
    if ((r : Int) == 73) = true then
      4
    else
      if ((r : Int) == 68) = true then
        8
      else
        64
theorem rFlag_p1 (r : Int) (c1 : ((r : Int) == 67) = true) : FnSpec Try.prog 58 1000 [.int .u8 r] [] (.int .i64 1) [] := by
  exact fn_of_x hG hM Try.func58 (by kernel_rfl) (by kernel_rfl) 400 [.yes] (And.intro c1 trivial) (by kernel_rfl)
theorem rFlag_p2 (r : Int) (c1 : ((r : Int) == 67) = false) (c2 : ((r : Int) == 73) = true) : FnSpec Try.prog 58 1000 [.int .u8 r] [] (.int .i64 4) [] := by
  exact fn_of_x hG hM Try.func58 (by kernel_rfl) (by kernel_rfl) 400 [.no, .yes] (And.intro c1 (And.intro c2 trivial)) (by kernel_rfl)
theorem rFlag_p3 (r : Int) (c1 : ((r : Int) == 67) = false) (c2 : ((r : Int) == 73) = false) (c3 : ((r : Int) == 68) = true) : FnSpec Try.prog 58 1000 [.int .u8 r] [] (.int .i64 8) [] := by
  exact fn_of_x hG hM Try.func58 (by kernel_rfl) (by kernel_rfl) 400 [.no, .no, .yes] (And.intro c1 (And.intro c2 (And.intro c3 trivial))) (by kernel_rfl)
theorem rFlag_p4 (r : Int) (c1 : ((r : Int) == 67) = false) (c2 : ((r : Int) == 73) = false) (c3 : ((r : Int) == 68) = false) : FnSpec Try.prog 58 1000 [.int .u8 r] [] (.int .i64 64) [] := by
  exact fn_of_x hG hM Try.func58 (by kernel_rfl) (by kernel_rfl) 400 [.no, .no, .no] (And.intro c1 (And.intro c2 (And.intro c3 trivial))) (by kernel_rfl)
theorem rFlag_ok (r : Int) : FnSpec Try.prog 58 1000 [.int .u8 r] [] (.int .i64 (rFlag r)) [] := by
  rcases bt ((r : Int) == 67) with c1 | c1
  ·
    have e : rFlag r = 1 := by unfold rFlag; rw [if_pos c1]
    rw [e]
    exact rFlag_p1 r c1
  ·
    rcases bt ((r : Int) == 73) with c2 | c2
    ·
      have e : rFlag r = 4 := by unfold rFlag; rw [if_neg (nt c1), if_pos c2]
      rw [e]
      exact rFlag_p2 r c1 c2
    ·
      rcases bt ((r : Int) == 68) with c3 | c3
      ·
        have e : rFlag r = 8 := by unfold rFlag; rw [if_neg (nt c1), if_neg (nt c2), if_pos c3]
        rw [e]
        exact rFlag_p3 r c1 c2 c3
      ·
        have e : rFlag r = 64 := by unfold rFlag; rw [if_neg (nt c1), if_neg (nt c2), if_neg (nt c3)]
        rw [e]
        exact rFlag_p4 r c1 c2 c3

/-- kotatsu/kotatsuref08.Store -/
def rStore_NOP (u : RUnit) : Int :=
  0
theorem rStore_NOP_p1 (u : RUnit) : FnSpec Try.prog 26 1000 [RUnit.enc u, .string ⟨#[78, 79, 80]⟩] [] (.int .i64 0) [] := by
  exact fn_of_x hG hM Try.func26 (by kernel_rfl) (by kernel_rfl) 400 [.no, .no, .no, .no] (And.intro (Eq.refl false) (And.intro (Eq.refl false) (And.intro (Eq.refl false) (And.intro (Eq.refl false) trivial)))) (by kernel_rfl)
theorem rStore_NOP_ok (u : RUnit) : FnSpec Try.prog 26 1000 [RUnit.enc u, .string ⟨#[78, 79, 80]⟩] [] (.int .i64 (rStore_NOP u)) [] := by
  exact rStore_NOP_p1 u

/-- kotatsu/kotatsuref08.Store -/
def rStore_ORA (u : RUnit) : Int :=
  0
theorem rStore_ORA_p1 (u : RUnit) : FnSpec Try.prog 26 1000 [RUnit.enc u, .string ⟨#[79, 82, 65]⟩] [] (.int .i64 0) [] := by
  exact fn_of_x hG hM Try.func26 (by kernel_rfl) (by kernel_rfl) 400 [.no, .no, .no, .no] (And.intro (Eq.refl false) (And.intro (Eq.refl false) (And.intro (Eq.refl false) (And.intro (Eq.refl false) trivial)))) (by kernel_rfl)
theorem rStore_ORA_ok (u : RUnit) : FnSpec Try.prog 26 1000 [RUnit.enc u, .string ⟨#[79, 82, 65]⟩] [] (.int .i64 (rStore_ORA u)) [] := by
  exact rStore_ORA_p1 u

/-- kotatsu/kotatsuref08.Store -/
def rStore_AND (u : RUnit) : Int :=
  0
theorem rStore_AND_p1 (u : RUnit) : FnSpec Try.prog 26 1000 [RUnit.enc u, .string ⟨#[65, 78, 68]⟩] [] (.int .i64 0) [] := by
  exact fn_of_x hG hM Try.func26 (by kernel_rfl) (by kernel_rfl) 400 [.no, .no, .no, .no] (And.intro (Eq.refl false) (And.intro (Eq.refl false) (And.intro (Eq.refl false) (And.intro (Eq.refl false) trivial)))) (by kernel_rfl)
theorem rStore_AND_ok (u : RUnit) : FnSpec Try.prog 26 1000 [RUnit.enc u, .string ⟨#[65, 78, 68]⟩] [] (.int .i64 (rStore_AND u)) [] := by
  exact rStore_AND_p1 u

/-- kotatsu/kotatsuref08.Store -/
def rStore_EOR (u : RUnit) : Int :=
  0
theorem rStore_EOR_p1 (u : RUnit) : FnSpec Try.prog 26 1000 [RUnit.enc u, .string ⟨#[69, 79, 82]⟩] [] (.int .i64 0) [] := by
  exact fn_of_x hG hM Try.func26 (by kernel_rfl) (by kernel_rfl) 400 [.no, .no, .no, .no] (And.intro (Eq.refl false) (And.intro (Eq.refl false) (And.intro (Eq.refl false) (And.intro (Eq.refl false) trivial)))) (by kernel_rfl)
theorem rStore_EOR_ok (u : RUnit) : FnSpec Try.prog 26 1000 [RUnit.enc u, .string ⟨#[69, 79, 82]⟩] [] (.int .i64 (rStore_EOR u)) [] := by
  exact rStore_EOR_p1 u

/-- kotatsu/kotatsuref08.Store -/
def rStore_ADC (u : RUnit) : Int :=
  0
theorem rStore_ADC_p1 (u : RUnit) : FnSpec Try.prog 26 1000 [RUnit.enc u, .string ⟨#[65, 68, 67]⟩] [] (.int .i64 0) [] := by
  exact fn_of_x hG hM Try.func26 (by kernel_rfl) (by kernel_rfl) 400 [.no, .no, .no, .no] (And.intro (Eq.refl false) (And.intro (Eq.refl false) (And.intro (Eq.refl false) (And.intro (Eq.refl false) trivial)))) (by kernel_rfl)
theorem rStore_ADC_ok (u : RUnit) : FnSpec Try.prog 26 1000 [RUnit.enc u, .string ⟨#[65, 68, 67]⟩] [] (.int .i64 (rStore_ADC u)) [] := by
  exact rStore_ADC_p1 u

/-- kotatsu/kotatsuref08.Store -/
def rStore_SBC (u : RUnit) : Int :=
  0
theorem rStore_SBC_p1 (u : RUnit) : FnSpec Try.prog 26 1000 [RUnit.enc u, .string ⟨#[83, 66, 67]⟩] [] (.int .i64 0) [] := by
  exact fn_of_x hG hM Try.func26 (by kernel_rfl) (by kernel_rfl) 400 [.no, .no, .no, .no] (And.intro (Eq.refl false) (And.intro (Eq.refl false) (And.intro (Eq.refl false) (And.intro (Eq.refl false) trivial)))) (by kernel_rfl)
theorem rStore_SBC_ok (u : RUnit) : FnSpec Try.prog 26 1000 [RUnit.enc u, .string ⟨#[83, 66, 67]⟩] [] (.int .i64 (rStore_SBC u)) [] := by
  exact rStore_SBC_p1 u

/-- kotatsu/kotatsuref08.Store -/
def rStore_CMP (u : RUnit) : Int :=
  0
theorem rStore_CMP_p1 (u : RUnit) : FnSpec Try.prog 26 1000 [RUnit.enc u, .string ⟨#[67, 77, 80]⟩] [] (.int .i64 0) [] := by
  exact fn_of_x hG hM Try.func26 (by kernel_rfl) (by kernel_rfl) 400 [.no, .no, .no, .no] (And.intro (Eq.refl false) (And.intro (Eq.refl false) (And.intro (Eq.refl false) (And.intro (Eq.refl false) trivial)))) (by kernel_rfl)
theorem rStore_CMP_ok (u : RUnit) : FnSpec Try.prog 26 1000 [RUnit.enc u, .string ⟨#[67, 77, 80]⟩] [] (.int .i64 (rStore_CMP u)) [] := by
  exact rStore_CMP_p1 u

/-- kotatsu/kotatsuref08.Store -/
def rStore_CPX (u : RUnit) : Int :=
  0
theorem rStore_CPX_p1 (u : RUnit) : FnSpec Try.prog 26 1000 [RUnit.enc u, .string ⟨#[67, 80, 88]⟩] [] (.int .i64 0) [] := by
  exact fn_of_x hG hM Try.func26 (by kernel_rfl) (by kernel_rfl) 400 [.no, .no, .no, .no] (And.intro (Eq.refl false) (And.intro (Eq.refl false) (And.intro (Eq.refl false) (And.intro (Eq.refl false) trivial)))) (by kernel_rfl)
theorem rStore_CPX_ok (u : RUnit) : FnSpec Try.prog 26 1000 [RUnit.enc u, .string ⟨#[67, 80, 88]⟩] [] (.int .i64 (rStore_CPX u)) [] := by
  exact rStore_CPX_p1 u

/-- kotatsu/kotatsuref08.Store -/
def rStore_CPY (u : RUnit) : Int :=
  0
theorem rStore_CPY_p1 (u : RUnit) : FnSpec Try.prog 26 1000 [RUnit.enc u, .string ⟨#[67, 80, 89]⟩] [] (.int .i64 0) [] := by
  exact fn_of_x hG hM Try.func26 (by kernel_rfl) (by kernel_rfl) 400 [.no, .no, .no, .no] (And.intro (Eq.refl false) (And.intro (Eq.refl false) (And.intro (Eq.refl false) (And.intro (Eq.refl false) trivial)))) (by kernel_rfl)
theorem rStore_CPY_ok (u : RUnit) : FnSpec Try.prog 26 1000 [RUnit.enc u, .string ⟨#[67, 80, 89]⟩] [] (.int .i64 (rStore_CPY u)) [] := by
  exact rStore_CPY_p1 u

/-- kotatsu/kotatsuref08.Store -/
def rStore_LDA (u : RUnit) : Int :=
  0
theorem rStore_LDA_p1 (u : RUnit) : FnSpec Try.prog 26 1000 [RUnit.enc u, .string ⟨#[76, 68, 65]⟩] [] (.int .i64 0) [] := by
  exact fn_of_x hG hM Try.func26 (by kernel_rfl) (by kernel_rfl) 400 [.no, .no, .no, .no] (And.intro (Eq.refl false) (And.intro (Eq.refl false) (And.intro (Eq.refl false) (And.intro (Eq.refl false) trivial)))) (by kernel_rfl)
theorem rStore_LDA_ok (u : RUnit) : FnSpec Try.prog 26 1000 [RUnit.enc u, .string ⟨#[76, 68, 65]⟩] [] (.int .i64 (rStore_LDA u)) [] := by
  exact rStore_LDA_p1 u

/-- kotatsu/kotatsuref08.Store -/
def rStore_LDX (u : RUnit) : Int :=
  0
theorem rStore_LDX_p1 (u : RUnit) : FnSpec Try.prog 26 1000 [RUnit.enc u, .string ⟨#[76, 68, 88]⟩] [] (.int .i64 0) [] := by
  exact fn_of_x hG hM Try.func26 (by kernel_rfl) (by kernel_rfl) 400 [.no, .no, .no, .no] (And.intro (Eq.refl false) (And.intro (Eq.refl false) (And.intro (Eq.refl false) (And.intro (Eq.refl false) trivial)))) (by kernel_rfl)
theorem rStore_LDX_ok (u : RUnit) : FnSpec Try.prog 26 1000 [RUnit.enc u, .string ⟨#[76, 68, 88]⟩] [] (.int .i64 (rStore_LDX u)) [] := by
  exact rStore_LDX_p1 u

/-- kotatsu/kotatsuref08.Store -/
def rStore_LDY (u : RUnit) : Int :=
  0
theorem rStore_LDY_p1 (u : RUnit) : FnSpec Try.prog 26 1000 [RUnit.enc u, .string ⟨#[76, 68, 89]⟩] [] (.int .i64 0) [] := by
  exact fn_of_x hG hM Try.func26 (by kernel_rfl) (by kernel_rfl) 400 [.no, .no, .no, .no] (And.intro (Eq.refl false) (And.intro (Eq.refl false) (And.intro (Eq.refl false) (And.intro (Eq.refl false) trivial)))) (by kernel_rfl)
theorem rStore_LDY_ok (u : RUnit) : FnSpec Try.prog 26 1000 [RUnit.enc u, .string ⟨#[76, 68, 89]⟩] [] (.int .i64 (rStore_LDY u)) [] := by
  exact rStore_LDY_p1 u

/-- kotatsu/kotatsuref08.Store -/
def rStore_BIT (u : RUnit) : Int :=
  0
theorem rStore_BIT_p1 (u : RUnit) : FnSpec Try.prog 26 1000 [RUnit.enc u, .string ⟨#[66, 73, 84]⟩] [] (.int .i64 0) [] := by
  exact fn_of_x hG hM Try.func26 (by kernel_rfl) (by kernel_rfl) 400 [.no, .no, .no, .no] (And.intro (Eq.refl false) (And.intro (Eq.refl false) (And.intro (Eq.refl false) (And.intro (Eq.refl false) trivial)))) (by kernel_rfl)
theorem rStore_BIT_ok (u : RUnit) : FnSpec Try.prog 26 1000 [RUnit.enc u, .string ⟨#[66, 73, 84]⟩] [] (.int .i64 (rStore_BIT u)) [] := by
  exact rStore_BIT_p1 u

/-- kotatsu/kotatsuref08.Store -/
def rStore_LAX (u : RUnit) : Int :=
  0
theorem rStore_LAX_p1 (u : RUnit) : FnSpec Try.prog 26 1000 [RUnit.enc u, .string ⟨#[76, 65, 88]⟩] [] (.int .i64 0) [] := by
  exact fn_of_x hG hM Try.func26 (by kernel_rfl) (by kernel_rfl) 400 [.no, .no, .no, .no] (And.intro (Eq.refl false) (And.intro (Eq.refl false) (And.intro (Eq.refl false) (And.intro (Eq.refl false) trivial)))) (by kernel_rfl)
theorem rStore_LAX_ok (u : RUnit) : FnSpec Try.prog 26 1000 [RUnit.enc u, .string ⟨#[76, 65, 88]⟩] [] (.int .i64 (rStore_LAX u)) [] := by
  exact rStore_LAX_p1 u

/-- kotatsu/kotatsuref08.Store -/
def rStore_ANC (u : RUnit) : Int :=
  0
theorem rStore_ANC_p1 (u : RUnit) : FnSpec Try.prog 26 1000 [RUnit.enc u, .string ⟨#[65, 78, 67]⟩] [] (.int .i64 0) [] := by
  exact fn_of_x hG hM Try.func26 (by kernel_rfl) (by kernel_rfl) 400 [.no, .no, .no, .no] (And.intro (Eq.refl false) (And.intro (Eq.refl false) (And.intro (Eq.refl false) (And.intro (Eq.refl false) trivial)))) (by kernel_rfl)
theorem rStore_ANC_ok (u : RUnit) : FnSpec Try.prog 26 1000 [RUnit.enc u, .string ⟨#[65, 78, 67]⟩] [] (.int .i64 (rStore_ANC u)) [] := by
  exact rStore_ANC_p1 u

/-- kotatsu/kotatsuref08.Store -/
def rStore_ALR (u : RUnit) : Int :=
  0
theorem rStore_ALR_p1 (u : RUnit) : FnSpec Try.prog 26 1000 [RUnit.enc u, .string ⟨#[65, 76, 82]⟩] [] (.int .i64 0) [] := by
  exact fn_of_x hG hM Try.func26 (by kernel_rfl) (by kernel_rfl) 400 [.no, .no, .no, .no] (And.intro (Eq.refl false) (And.intro (Eq.refl false) (And.intro (Eq.refl false) (And.intro (Eq.refl false) trivial)))) (by kernel_rfl)
theorem rStore_ALR_ok (u : RUnit) : FnSpec Try.prog 26 1000 [RUnit.enc u, .string ⟨#[65, 76, 82]⟩] [] (.int .i64 (rStore_ALR u)) [] := by
  exact rStore_ALR_p1 u

/-- kotatsu/kotatsuref08.Store -/
def rStore_ARR (u : RUnit) : Int :=
  0
theorem rStore_ARR_p1 (u : RUnit) : FnSpec Try.prog 26 1000 [RUnit.enc u, .string ⟨#[65, 82, 82]⟩] [] (.int .i64 0) [] := by
  exact fn_of_x hG hM Try.func26 (by kernel_rfl) (by kernel_rfl) 400 [.no, .no, .no, .no] (And.intro (Eq.refl false) (And.intro (Eq.refl false) (And.intro (Eq.refl false) (And.intro (Eq.refl false) trivial)))) (by kernel_rfl)
theorem rStore_ARR_ok (u : RUnit) : FnSpec Try.prog 26 1000 [RUnit.enc u, .string ⟨#[65, 82, 82]⟩] [] (.int .i64 (rStore_ARR u)) [] := by
  exact rStore_ARR_p1 u

/-- kotatsu/kotatsuref08.Store -/
def rStore_AXS (u : RUnit) : Int :=
  0
theorem rStore_AXS_p1 (u : RUnit) : FnSpec Try.prog 26 1000 [RUnit.enc u, .string ⟨#[65, 88, 83]⟩] [] (.int .i64 0) [] := by
  exact fn_of_x hG hM Try.func26 (by kernel_rfl) (by kernel_rfl) 400 [.no, .no, .no, .no] (And.intro (Eq.refl false) (And.intro (Eq.refl false) (And.intro (Eq.refl false) (And.intro (Eq.refl false) trivial)))) (by kernel_rfl)
theorem rStore_AXS_ok (u : RUnit) : FnSpec Try.prog 26 1000 [RUnit.enc u, .string ⟨#[65, 88, 83]⟩] [] (.int .i64 (rStore_AXS u)) [] := by
  exact rStore_AXS_p1 u

/-- kotatsu/kotatsuref08.Store -/
def rStore_LAS (u : RUnit) : Int :=
  0
theorem rStore_LAS_p1 (u : RUnit) : FnSpec Try.prog 26 1000 [RUnit.enc u, .string ⟨#[76, 65, 83]⟩] [] (.int .i64 0) [] := by
  exact fn_of_x hG hM Try.func26 (by kernel_rfl) (by kernel_rfl) 400 [.no, .no, .no, .no] (And.intro (Eq.refl false) (And.intro (Eq.refl false) (And.intro (Eq.refl false) (And.intro (Eq.refl false) trivial)))) (by kernel_rfl)
theorem rStore_LAS_ok (u : RUnit) : FnSpec Try.prog 26 1000 [RUnit.enc u, .string ⟨#[76, 65, 83]⟩] [] (.int .i64 (rStore_LAS u)) [] := by
  exact rStore_LAS_p1 u

/-- kotatsu/kotatsuref08.Store -/
def rStore_ASL (u : RUnit) : Int :=
  0
theorem rStore_ASL_p1 (u : RUnit) : FnSpec Try.prog 26 1000 [RUnit.enc u, .string ⟨#[65, 83, 76]⟩] [] (.int .i64 0) [] := by
  exact fn_of_x hG hM Try.func26 (by kernel_rfl) (by kernel_rfl) 400 [.no, .no, .no, .no] (And.intro (Eq.refl false) (And.intro (Eq.refl false) (And.intro (Eq.refl false) (And.intro (Eq.refl false) trivial)))) (by kernel_rfl)
theorem rStore_ASL_ok (u : RUnit) : FnSpec Try.prog 26 1000 [RUnit.enc u, .string ⟨#[65, 83, 76]⟩] [] (.int .i64 (rStore_ASL u)) [] := by
  exact rStore_ASL_p1 u

/-- kotatsu/kotatsuref08.Store -/
def rStore_LSR (u : RUnit) : Int :=
  0
theorem rStore_LSR_p1 (u : RUnit) : FnSpec Try.prog 26 1000 [RUnit.enc u, .string ⟨#[76, 83, 82]⟩] [] (.int .i64 0) [] := by
  exact fn_of_x hG hM Try.func26 (by kernel_rfl) (by kernel_rfl) 400 [.no, .no, .no, .no] (And.intro (Eq.refl false) (And.intro (Eq.refl false) (And.intro (Eq.refl false) (And.intro (Eq.refl false) trivial)))) (by kernel_rfl)
theorem rStore_LSR_ok (u : RUnit) : FnSpec Try.prog 26 1000 [RUnit.enc u, .string ⟨#[76, 83, 82]⟩] [] (.int .i64 (rStore_LSR u)) [] := by
  exact rStore_LSR_p1 u

/-- kotatsu/kotatsuref08.Store -/
def rStore_ROL (u : RUnit) : Int :=
  0
theorem rStore_ROL_p1 (u : RUnit) : FnSpec Try.prog 26 1000 [RUnit.enc u, .string ⟨#[82, 79, 76]⟩] [] (.int .i64 0) [] := by
  exact fn_of_x hG hM Try.func26 (by kernel_rfl) (by kernel_rfl) 400 [.no, .no, .no, .no] (And.intro (Eq.refl false) (And.intro (Eq.refl false) (And.intro (Eq.refl false) (And.intro (Eq.refl false) trivial)))) (by kernel_rfl)
theorem rStore_ROL_ok (u : RUnit) : FnSpec Try.prog 26 1000 [RUnit.enc u, .string ⟨#[82, 79, 76]⟩] [] (.int .i64 (rStore_ROL u)) [] := by
  exact rStore_ROL_p1 u

/-- kotatsu/kotatsuref08.Store -/
def rStore_ROR (u : RUnit) : Int :=
  0
theorem rStore_ROR_p1 (u : RUnit) : FnSpec Try.prog 26 1000 [RUnit.enc u, .string ⟨#[82, 79, 82]⟩] [] (.int .i64 0) [] := by
  exact fn_of_x hG hM Try.func26 (by kernel_rfl) (by kernel_rfl) 400 [.no, .no, .no, .no] (And.intro (Eq.refl false) (And.intro (Eq.refl false) (And.intro (Eq.refl false) (And.intro (Eq.refl false) trivial)))) (by kernel_rfl)
theorem rStore_ROR_ok (u : RUnit) : FnSpec Try.prog 26 1000 [RUnit.enc u, .string ⟨#[82, 79, 82]⟩] [] (.int .i64 (rStore_ROR u)) [] := by
  exact rStore_ROR_p1 u

/-- kotatsu/kotatsuref08.Store -/
def rStore_INC (u : RUnit) : Int :=
  0
theorem rStore_INC_p1 (u : RUnit) : FnSpec Try.prog 26 1000 [RUnit.enc u, .string ⟨#[73, 78, 67]⟩] [] (.int .i64 0) [] := by
  exact fn_of_x hG hM Try.func26 (by kernel_rfl) (by kernel_rfl) 400 [.no, .no, .no, .no] (And.intro (Eq.refl false) (And.intro (Eq.refl false) (And.intro (Eq.refl false) (And.intro (Eq.refl false) trivial)))) (by kernel_rfl)
theorem rStore_INC_ok (u : RUnit) : FnSpec Try.prog 26 1000 [RUnit.enc u, .string ⟨#[73, 78, 67]⟩] [] (.int .i64 (rStore_INC u)) [] := by
  exact rStore_INC_p1 u

/-- kotatsu/kotatsuref08.Store -/
def rStore_DEC (u : RUnit) : Int :=
  0
theorem rStore_DEC_p1 (u : RUnit) : FnSpec Try.prog 26 1000 [RUnit.enc u, .string ⟨#[68, 69, 67]⟩] [] (.int .i64 0) [] := by
  exact fn_of_x hG hM Try.func26 (by kernel_rfl) (by kernel_rfl) 400 [.no, .no, .no, .no] (And.intro (Eq.refl false) (And.intro (Eq.refl false) (And.intro (Eq.refl false) (And.intro (Eq.refl false) trivial)))) (by kernel_rfl)
theorem rStore_DEC_ok (u : RUnit) : FnSpec Try.prog 26 1000 [RUnit.enc u, .string ⟨#[68, 69, 67]⟩] [] (.int .i64 (rStore_DEC u)) [] := by
  exact rStore_DEC_p1 u

/-- kotatsu/kotatsuref08.Store -/
def rStore_SLO (u : RUnit) : Int :=
  0
theorem rStore_SLO_p1 (u : RUnit) : FnSpec Try.prog 26 1000 [RUnit.enc u, .string ⟨#[83, 76, 79]⟩] [] (.int .i64 0) [] := by
  exact fn_of_x hG hM Try.func26 (by kernel_rfl) (by kernel_rfl) 400 [.no, .no, .no, .no] (And.intro (Eq.refl false) (And.intro (Eq.refl false) (And.intro (Eq.refl false) (And.intro (Eq.refl false) trivial)))) (by kernel_rfl)
theorem rStore_SLO_ok (u : RUnit) : FnSpec Try.prog 26 1000 [RUnit.enc u, .string ⟨#[83, 76, 79]⟩] [] (.int .i64 (rStore_SLO u)) [] := by
  exact rStore_SLO_p1 u

/-- kotatsu/kotatsuref08.Store -/
def rStore_RLA (u : RUnit) : Int :=
  0
theorem rStore_RLA_p1 (u : RUnit) : FnSpec Try.prog 26 1000 [RUnit.enc u, .string ⟨#[82, 76, 65]⟩] [] (.int .i64 0) [] := by
  exact fn_of_x hG hM Try.func26 (by kernel_rfl) (by kernel_rfl) 400 [.no, .no, .no, .no] (And.intro (Eq.refl false) (And.intro (Eq.refl false) (And.intro (Eq.refl false) (And.intro (Eq.refl false) trivial)))) (by kernel_rfl)
theorem rStore_RLA_ok (u : RUnit) : FnSpec Try.prog 26 1000 [RUnit.enc u, .string ⟨#[82, 76, 65]⟩] [] (.int .i64 (rStore_RLA u)) [] := by
  exact rStore_RLA_p1 u

/-- kotatsu/kotatsuref08.Store -/
def rStore_SRE (u : RUnit) : Int :=
  0
theorem rStore_SRE_p1 (u : RUnit) : FnSpec Try.prog 26 1000 [RUnit.enc u, .string ⟨#[83, 82, 69]⟩] [] (.int .i64 0) [] := by
  exact fn_of_x hG hM Try.func26 (by kernel_rfl) (by kernel_rfl) 400 [.no, .no, .no, .no] (And.intro (Eq.refl false) (And.intro (Eq.refl false) (And.intro (Eq.refl false) (And.intro (Eq.refl false) trivial)))) (by kernel_rfl)
theorem rStore_SRE_ok (u : RUnit) : FnSpec Try.prog 26 1000 [RUnit.enc u, .string ⟨#[83, 82, 69]⟩] [] (.int .i64 (rStore_SRE u)) [] := by
  exact rStore_SRE_p1 u

/-- kotatsu/kotatsuref08.Store -/
def rStore_RRA (u : RUnit) : Int :=
  0
theorem rStore_RRA_p1 (u : RUnit) : FnSpec Try.prog 26 1000 [RUnit.enc u, .string ⟨#[82, 82, 65]⟩] [] (.int .i64 0) [] := by
  exact fn_of_x hG hM Try.func26 (by kernel_rfl) (by kernel_rfl) 400 [.no, .no, .no, .no] (And.intro (Eq.refl false) (And.intro (Eq.refl false) (And.intro (Eq.refl false) (And.intro (Eq.refl false) trivial)))) (by kernel_rfl)
theorem rStore_RRA_ok (u : RUnit) : FnSpec Try.prog 26 1000 [RUnit.enc u, .string ⟨#[82, 82, 65]⟩] [] (.int .i64 (rStore_RRA u)) [] := by
  exact rStore_RRA_p1 u

/-- kotatsu/kotatsuref08.Store -/
def rStore_DCP (u : RUnit) : Int :=
  0
theorem rStore_DCP_p1 (u : RUnit) : FnSpec Try.prog 26 1000 [RUnit.enc u, .string ⟨#[68, 67, 80]⟩] [] (.int .i64 0) [] := by
  exact fn_of_x hG hM Try.func26 (by kernel_rfl) (by kernel_rfl) 400 [.no, .no, .no, .no] (And.intro (Eq.refl false) (And.intro (Eq.refl false) (And.intro (Eq.refl false) (And.intro (Eq.refl false) trivial)))) (by kernel_rfl)
theorem rStore_DCP_ok (u : RUnit) : FnSpec Try.prog 26 1000 [RUnit.enc u, .string ⟨#[68, 67, 80]⟩] [] (.int .i64 (rStore_DCP u)) [] := by
  exact rStore_DCP_p1 u

/-- kotatsu/kotatsuref08.Store -/
def rStore_ISC (u : RUnit) : Int :=
  0
theorem rStore_ISC_p1 (u : RUnit) : FnSpec Try.prog 26 1000 [RUnit.enc u, .string ⟨#[73, 83, 67]⟩] [] (.int .i64 0) [] := by
  exact fn_of_x hG hM Try.func26 (by kernel_rfl) (by kernel_rfl) 400 [.no, .no, .no, .no] (And.intro (Eq.refl false) (And.intro (Eq.refl false) (And.intro (Eq.refl false) (And.intro (Eq.refl false) trivial)))) (by kernel_rfl)
theorem rStore_ISC_ok (u : RUnit) : FnSpec Try.prog 26 1000 [RUnit.enc u, .string ⟨#[73, 83, 67]⟩] [] (.int .i64 (rStore_ISC u)) [] := by
  exact rStore_ISC_p1 u

/-- kotatsu/kotatsuref08.Store -/
def rStore_STA (u : RUnit) : Int :=
  (rGet u 65)
theorem rStore_STA_p1 (u : RUnit) : FnSpec Try.prog 26 1000 [RUnit.enc u, .string ⟨#[83, 84, 65]⟩] [] (.int .i64 (rGet u 65)) [] := by
  exact fn_of_x hG hM Try.func26 (by kernel_rfl) (by kernel_rfl) 400 [.yes, .yes, .call [] [] 1000 (.int .i64 (rGet u 65)) []] (And.intro (Eq.refl true) (And.intro (Eq.refl true) (And.intro (by decide : (0 : Int) ≤ 2 ∧ (2 : Int) < ((ByteArray.size ⟨#[83, 84, 65]⟩ : Nat) : Int)) (And.intro (rGet_ok u 65) trivial)))) (by kernel_rfl)
theorem rStore_STA_ok (u : RUnit) : FnSpec Try.prog 26 1000 [RUnit.enc u, .string ⟨#[83, 84, 65]⟩] [] (.int .i64 (rStore_STA u)) [] := by
  exact rStore_STA_p1 u

/-- kotatsu/kotatsuref08.Store -/
def rStore_STX (u : RUnit) : Int :=
  (rGet u 88)
theorem rStore_STX_p1 (u : RUnit) : FnSpec Try.prog 26 1000 [RUnit.enc u, .string ⟨#[83, 84, 88]⟩] [] (.int .i64 (rGet u 88)) [] := by
  exact fn_of_x hG hM Try.func26 (by kernel_rfl) (by kernel_rfl) 400 [.no, .yes, .yes, .call [] [] 1000 (.int .i64 (rGet u 88)) []] (And.intro (Eq.refl false) (And.intro (Eq.refl true) (And.intro (Eq.refl true) (And.intro (by decide : (0 : Int) ≤ 2 ∧ (2 : Int) < ((ByteArray.size ⟨#[83, 84, 88]⟩ : Nat) : Int)) (And.intro (rGet_ok u 88) trivial))))) (by kernel_rfl)
theorem rStore_STX_ok (u : RUnit) : FnSpec Try.prog 26 1000 [RUnit.enc u, .string ⟨#[83, 84, 88]⟩] [] (.int .i64 (rStore_STX u)) [] := by
  exact rStore_STX_p1 u

/-- kotatsu/kotatsuref08.Store -/
def rStore_STY (u : RUnit) : Int :=
  (rGet u 89)
theorem rStore_STY_p1 (u : RUnit) : FnSpec Try.prog 26 1000 [RUnit.enc u, .string ⟨#[83, 84, 89]⟩] [] (.int .i64 (rGet u 89)) [] := by
  exact fn_of_x hG hM Try.func26 (by kernel_rfl) (by kernel_rfl) 400 [.no, .no, .yes, .call [] [] 1000 (.int .i64 (rGet u 89)) []] (And.intro (Eq.refl false) (And.intro (Eq.refl false) (And.intro (Eq.refl true) (And.intro (by decide : (0 : Int) ≤ 2 ∧ (2 : Int) < ((ByteArray.size ⟨#[83, 84, 89]⟩ : Nat) : Int)) (And.intro (rGet_ok u 89) trivial))))) (by kernel_rfl)
theorem rStore_STY_ok (u : RUnit) : FnSpec Try.prog 26 1000 [RUnit.enc u, .string ⟨#[83, 84, 89]⟩] [] (.int .i64 (rStore_STY u)) [] := by
  exact rStore_STY_p1 u

/-- kotatsu/kotatsuref08.Store -/
def rStore_SAX (u : RUnit) : Int :=
  (bAnd .i64 u.A u.X)
theorem rStore_SAX_p1 (u : RUnit) : FnSpec Try.prog 26 1000 [RUnit.enc u, .string ⟨#[83, 65, 88]⟩] [] (.int .i64 (bAnd .i64 u.A u.X)) [] := by
  exact fn_of_x hG hM Try.func26 (by kernel_rfl) (by kernel_rfl) 400 [.no, .no, .no, .yes] (And.intro (Eq.refl false) (And.intro (Eq.refl false) (And.intro (Eq.refl false) (And.intro (Eq.refl true) trivial)))) (by kernel_rfl)
theorem rStore_SAX_ok (u : RUnit) : FnSpec Try.prog 26 1000 [RUnit.enc u, .string ⟨#[83, 65, 88]⟩] [] (.int .i64 (rStore_SAX u)) [] := by
  exact rStore_SAX_p1 u

/-- kotatsu/kotatsuref08.Store -/
def rStore_TAX (u : RUnit) : Int :=
  0
theorem rStore_TAX_p1 (u : RUnit) : FnSpec Try.prog 26 1000 [RUnit.enc u, .string ⟨#[84, 65, 88]⟩] [] (.int .i64 0) [] := by
  exact fn_of_x hG hM Try.func26 (by kernel_rfl) (by kernel_rfl) 400 [.no, .no, .no, .no] (And.intro (Eq.refl false) (And.intro (Eq.refl false) (And.intro (Eq.refl false) (And.intro (Eq.refl false) trivial)))) (by kernel_rfl)
theorem rStore_TAX_ok (u : RUnit) : FnSpec Try.prog 26 1000 [RUnit.enc u, .string ⟨#[84, 65, 88]⟩] [] (.int .i64 (rStore_TAX u)) [] := by
  exact rStore_TAX_p1 u

/-- kotatsu/kotatsuref08.Store -/
def rStore_TAY (u : RUnit) : Int :=
  0
theorem rStore_TAY_p1 (u : RUnit) : FnSpec Try.prog 26 1000 [RUnit.enc u, .string ⟨#[84, 65, 89]⟩] [] (.int .i64 0) [] := by
  exact fn_of_x hG hM Try.func26 (by kernel_rfl) (by kernel_rfl) 400 [.no, .no, .no, .no] (And.intro (Eq.refl false) (And.intro (Eq.refl false) (And.intro (Eq.refl false) (And.intro (Eq.refl false) trivial)))) (by kernel_rfl)
theorem rStore_TAY_ok (u : RUnit) : FnSpec Try.prog 26 1000 [RUnit.enc u, .string ⟨#[84, 65, 89]⟩] [] (.int .i64 (rStore_TAY u)) [] := by
  exact rStore_TAY_p1 u

/-- kotatsu/kotatsuref08.Store -/
def rStore_TXA (u : RUnit) : Int :=
  0
theorem rStore_TXA_p1 (u : RUnit) : FnSpec Try.prog 26 1000 [RUnit.enc u, .string ⟨#[84, 88, 65]⟩] [] (.int .i64 0) [] := by
  exact fn_of_x hG hM Try.func26 (by kernel_rfl) (by kernel_rfl) 400 [.no, .no, .no, .no] (And.intro (Eq.refl false) (And.intro (Eq.refl false) (And.intro (Eq.refl false) (And.intro (Eq.refl false) trivial)))) (by kernel_rfl)
theorem rStore_TXA_ok (u : RUnit) : FnSpec Try.prog 26 1000 [RUnit.enc u, .string ⟨#[84, 88, 65]⟩] [] (.int .i64 (rStore_TXA u)) [] := by
  exact rStore_TXA_p1 u

/-- kotatsu/kotatsuref08.Store -/
def rStore_TYA (u : RUnit) : Int :=
  0
theorem rStore_TYA_p1 (u : RUnit) : FnSpec Try.prog 26 1000 [RUnit.enc u, .string ⟨#[84, 89, 65]⟩] [] (.int .i64 0) [] := by
  exact fn_of_x hG hM Try.func26 (by kernel_rfl) (by kernel_rfl) 400 [.no, .no, .no, .no] (And.intro (Eq.refl false) (And.intro (Eq.refl false) (And.intro (Eq.refl false) (And.intro (Eq.refl false) trivial)))) (by kernel_rfl)
theorem rStore_TYA_ok (u : RUnit) : FnSpec Try.prog 26 1000 [RUnit.enc u, .string ⟨#[84, 89, 65]⟩] [] (.int .i64 (rStore_TYA u)) [] := by
  exact rStore_TYA_p1 u

/-- kotatsu/kotatsuref08.Store -/
def rStore_TSX (u : RUnit) : Int :=
  0
theorem rStore_TSX_p1 (u : RUnit) : FnSpec Try.prog 26 1000 [RUnit.enc u, .string ⟨#[84, 83, 88]⟩] [] (.int .i64 0) [] := by
  exact fn_of_x hG hM Try.func26 (by kernel_rfl) (by kernel_rfl) 400 [.no, .no, .no, .no] (And.intro (Eq.refl false) (And.intro (Eq.refl false) (And.intro (Eq.refl false) (And.intro (Eq.refl false) trivial)))) (by kernel_rfl)
theorem rStore_TSX_ok (u : RUnit) : FnSpec Try.prog 26 1000 [RUnit.enc u, .string ⟨#[84, 83, 88]⟩] [] (.int .i64 (rStore_TSX u)) [] := by
  exact rStore_TSX_p1 u

/-- kotatsu/kotatsuref08.Store -/
def rStore_TXS (u : RUnit) : Int :=
  0
theorem rStore_TXS_p1 (u : RUnit) : FnSpec Try.prog 26 1000 [RUnit.enc u, .string ⟨#[84, 88, 83]⟩] [] (.int .i64 0) [] := by
  exact fn_of_x hG hM Try.func26 (by kernel_rfl) (by kernel_rfl) 400 [.no, .no, .no, .no] (And.intro (Eq.refl false) (And.intro (Eq.refl false) (And.intro (Eq.refl false) (And.intro (Eq.refl false) trivial)))) (by kernel_rfl)
theorem rStore_TXS_ok (u : RUnit) : FnSpec Try.prog 26 1000 [RUnit.enc u, .string ⟨#[84, 88, 83]⟩] [] (.int .i64 (rStore_TXS u)) [] := by
  exact rStore_TXS_p1 u

/-- kotatsu/kotatsuref08.Store -/
def rStore_INX (u : RUnit) : Int :=
  0
theorem rStore_INX_p1 (u : RUnit) : FnSpec Try.prog 26 1000 [RUnit.enc u, .string ⟨#[73, 78, 88]⟩] [] (.int .i64 0) [] := by
  exact fn_of_x hG hM Try.func26 (by kernel_rfl) (by kernel_rfl) 400 [.no, .no, .no, .no] (And.intro (Eq.refl false) (And.intro (Eq.refl false) (And.intro (Eq.refl false) (And.intro (Eq.refl false) trivial)))) (by kernel_rfl)
theorem rStore_INX_ok (u : RUnit) : FnSpec Try.prog 26 1000 [RUnit.enc u, .string ⟨#[73, 78, 88]⟩] [] (.int .i64 (rStore_INX u)) [] := by
  exact rStore_INX_p1 u

/-- kotatsu/kotatsuref08.Store -/
def rStore_INY (u : RUnit) : Int :=
  0
theorem rStore_INY_p1 (u : RUnit) : FnSpec Try.prog 26 1000 [RUnit.enc u, .string ⟨#[73, 78, 89]⟩] [] (.int .i64 0) [] := by
  exact fn_of_x hG hM Try.func26 (by kernel_rfl) (by kernel_rfl) 400 [.no, .no, .no, .no] (And.intro (Eq.refl false) (And.intro (Eq.refl false) (And.intro (Eq.refl false) (And.intro (Eq.refl false) trivial)))) (by kernel_rfl)
theorem rStore_INY_ok (u : RUnit) : FnSpec Try.prog 26 1000 [RUnit.enc u, .string ⟨#[73, 78, 89]⟩] [] (.int .i64 (rStore_INY u)) [] := by
  exact rStore_INY_p1 u

/-- kotatsu/kotatsuref08.Store -/
def rStore_DEX (u : RUnit) : Int :=
  0
theorem rStore_DEX_p1 (u : RUnit) : FnSpec Try.prog 26 1000 [RUnit.enc u, .string ⟨#[68, 69, 88]⟩] [] (.int .i64 0) [] := by
  exact fn_of_x hG hM Try.func26 (by kernel_rfl) (by kernel_rfl) 400 [.no, .no, .no, .no] (And.intro (Eq.refl false) (And.intro (Eq.refl false) (And.intro (Eq.refl false) (And.intro (Eq.refl false) trivial)))) (by kernel_rfl)
theorem rStore_DEX_ok (u : RUnit) : FnSpec Try.prog 26 1000 [RUnit.enc u, .string ⟨#[68, 69, 88]⟩] [] (.int .i64 (rStore_DEX u)) [] := by
  exact rStore_DEX_p1 u

/-- kotatsu/kotatsuref08.Store -/
def rStore_DEY (u : RUnit) : Int :=
  0
theorem rStore_DEY_p1 (u : RUnit) : FnSpec Try.prog 26 1000 [RUnit.enc u, .string ⟨#[68, 69, 89]⟩] [] (.int .i64 0) [] := by
  exact fn_of_x hG hM Try.func26 (by kernel_rfl) (by kernel_rfl) 400 [.no, .no, .no, .no] (And.intro (Eq.refl false) (And.intro (Eq.refl false) (And.intro (Eq.refl false) (And.intro (Eq.refl false) trivial)))) (by kernel_rfl)
theorem rStore_DEY_ok (u : RUnit) : FnSpec Try.prog 26 1000 [RUnit.enc u, .string ⟨#[68, 69, 89]⟩] [] (.int .i64 (rStore_DEY u)) [] := by
  exact rStore_DEY_p1 u

/-- kotatsu/kotatsuref08.Store -/
def rStore_CLC (u : RUnit) : Int :=
  0
theorem rStore_CLC_p1 (u : RUnit) : FnSpec Try.prog 26 1000 [RUnit.enc u, .string ⟨#[67, 76, 67]⟩] [] (.int .i64 0) [] := by
  exact fn_of_x hG hM Try.func26 (by kernel_rfl) (by kernel_rfl) 400 [.no, .no, .no, .no] (And.intro (Eq.refl false) (And.intro (Eq.refl false) (And.intro (Eq.refl false) (And.intro (Eq.refl false) trivial)))) (by kernel_rfl)
theorem rStore_CLC_ok (u : RUnit) : FnSpec Try.prog 26 1000 [RUnit.enc u, .string ⟨#[67, 76, 67]⟩] [] (.int .i64 (rStore_CLC u)) [] := by
  exact rStore_CLC_p1 u

/-- kotatsu/kotatsuref08.Store -/
def rStore_SEC (u : RUnit) : Int :=
  0
theorem rStore_SEC_p1 (u : RUnit) : FnSpec Try.prog 26 1000 [RUnit.enc u, .string ⟨#[83, 69, 67]⟩] [] (.int .i64 0) [] := by
  exact fn_of_x hG hM Try.func26 (by kernel_rfl) (by kernel_rfl) 400 [.no, .no, .no, .no] (And.intro (Eq.refl false) (And.intro (Eq.refl false) (And.intro (Eq.refl false) (And.intro (Eq.refl false) trivial)))) (by kernel_rfl)
theorem rStore_SEC_ok (u : RUnit) : FnSpec Try.prog 26 1000 [RUnit.enc u, .string ⟨#[83, 69, 67]⟩] [] (.int .i64 (rStore_SEC u)) [] := by
  exact rStore_SEC_p1 u

/-- kotatsu/kotatsuref08.Store -/
def rStore_CLI (u : RUnit) : Int :=
  0
theorem rStore_CLI_p1 (u : RUnit) : FnSpec Try.prog 26 1000 [RUnit.enc u, .string ⟨#[67, 76, 73]⟩] [] (.int .i64 0) [] := by
  exact fn_of_x hG hM Try.func26 (by kernel_rfl) (by kernel_rfl) 400 [.no, .no, .no, .no] (And.intro (Eq.refl false) (And.intro (Eq.refl false) (And.intro (Eq.refl false) (And.intro (Eq.refl false) trivial)))) (by kernel_rfl)
theorem rStore_CLI_ok (u : RUnit) : FnSpec Try.prog 26 1000 [RUnit.enc u, .string ⟨#[67, 76, 73]⟩] [] (.int .i64 (rStore_CLI u)) [] := by
  exact rStore_CLI_p1 u

/-- kotatsu/kotatsuref08.Store -/
def rStore_SEI (u : RUnit) : Int :=
  0
theorem rStore_SEI_p1 (u : RUnit) : FnSpec Try.prog 26 1000 [RUnit.enc u, .string ⟨#[83, 69, 73]⟩] [] (.int .i64 0) [] := by
  exact fn_of_x hG hM Try.func26 (by kernel_rfl) (by kernel_rfl) 400 [.no, .no, .no, .no] (And.intro (Eq.refl false) (And.intro (Eq.refl false) (And.intro (Eq.refl false) (And.intro (Eq.refl false) trivial)))) (by kernel_rfl)
theorem rStore_SEI_ok (u : RUnit) : FnSpec Try.prog 26 1000 [RUnit.enc u, .string ⟨#[83, 69, 73]⟩] [] (.int .i64 (rStore_SEI u)) [] := by
  exact rStore_SEI_p1 u

/-- kotatsu/kotatsuref08.Store -/
def rStore_CLV (u : RUnit) : Int :=
  0
theorem rStore_CLV_p1 (u : RUnit) : FnSpec Try.prog 26 1000 [RUnit.enc u, .string ⟨#[67, 76, 86]⟩] [] (.int .i64 0) [] := by
  exact fn_of_x hG hM Try.func26 (by kernel_rfl) (by kernel_rfl) 400 [.no, .no, .no, .no] (And.intro (Eq.refl false) (And.intro (Eq.refl false) (And.intro (Eq.refl false) (And.intro (Eq.refl false) trivial)))) (by kernel_rfl)
theorem rStore_CLV_ok (u : RUnit) : FnSpec Try.prog 26 1000 [RUnit.enc u, .string ⟨#[67, 76, 86]⟩] [] (.int .i64 (rStore_CLV u)) [] := by
  exact rStore_CLV_p1 u

/-- kotatsu/kotatsuref08.Store -/
def rStore_CLD (u : RUnit) : Int :=
  0
theorem rStore_CLD_p1 (u : RUnit) : FnSpec Try.prog 26 1000 [RUnit.enc u, .string ⟨#[67, 76, 68]⟩] [] (.int .i64 0) [] := by
  exact fn_of_x hG hM Try.func26 (by kernel_rfl) (by kernel_rfl) 400 [.no, .no, .no, .no] (And.intro (Eq.refl false) (And.intro (Eq.refl false) (And.intro (Eq.refl false) (And.intro (Eq.refl false) trivial)))) (by kernel_rfl)
theorem rStore_CLD_ok (u : RUnit) : FnSpec Try.prog 26 1000 [RUnit.enc u, .string ⟨#[67, 76, 68]⟩] [] (.int .i64 (rStore_CLD u)) [] := by
  exact rStore_CLD_p1 u

/-- kotatsu/kotatsuref08.Store -/
def rStore_SED (u : RUnit) : Int :=
  0
theorem rStore_SED_p1 (u : RUnit) : FnSpec Try.prog 26 1000 [RUnit.enc u, .string ⟨#[83, 69, 68]⟩] [] (.int .i64 0) [] := by
  exact fn_of_x hG hM Try.func26 (by kernel_rfl) (by kernel_rfl) 400 [.no, .no, .no, .no] (And.intro (Eq.refl false) (And.intro (Eq.refl false) (And.intro (Eq.refl false) (And.intro (Eq.refl false) trivial)))) (by kernel_rfl)
theorem rStore_SED_ok (u : RUnit) : FnSpec Try.prog 26 1000 [RUnit.enc u, .string ⟨#[83, 69, 68]⟩] [] (.int .i64 (rStore_SED u)) [] := by
  exact rStore_SED_p1 u

/-- kotatsu/kotatsuref08.Store -/
def rStore_BPL (u : RUnit) : Int :=
  0
theorem rStore_BPL_p1 (u : RUnit) : FnSpec Try.prog 26 1000 [RUnit.enc u, .string ⟨#[66, 80, 76]⟩] [] (.int .i64 0) [] := by
  exact fn_of_x hG hM Try.func26 (by kernel_rfl) (by kernel_rfl) 400 [.no, .no, .no, .no] (And.intro (Eq.refl false) (And.intro (Eq.refl false) (And.intro (Eq.refl false) (And.intro (Eq.refl false) trivial)))) (by kernel_rfl)
theorem rStore_BPL_ok (u : RUnit) : FnSpec Try.prog 26 1000 [RUnit.enc u, .string ⟨#[66, 80, 76]⟩] [] (.int .i64 (rStore_BPL u)) [] := by
  exact rStore_BPL_p1 u

/-- kotatsu/kotatsuref08.Store -/
def rStore_BMI (u : RUnit) : Int :=
  0
theorem rStore_BMI_p1 (u : RUnit) : FnSpec Try.prog 26 1000 [RUnit.enc u, .string ⟨#[66, 77, 73]⟩] [] (.int .i64 0) [] := by
  exact fn_of_x hG hM Try.func26 (by kernel_rfl) (by kernel_rfl) 400 [.no, .no, .no, .no] (And.intro (Eq.refl false) (And.intro (Eq.refl false) (And.intro (Eq.refl false) (And.intro (Eq.refl false) trivial)))) (by kernel_rfl)
theorem rStore_BMI_ok (u : RUnit) : FnSpec Try.prog 26 1000 [RUnit.enc u, .string ⟨#[66, 77, 73]⟩] [] (.int .i64 (rStore_BMI u)) [] := by
  exact rStore_BMI_p1 u

/-- kotatsu/kotatsuref08.Store -/
def rStore_BVC (u : RUnit) : Int :=
  0
theorem rStore_BVC_p1 (u : RUnit) : FnSpec Try.prog 26 1000 [RUnit.enc u, .string ⟨#[66, 86, 67]⟩] [] (.int .i64 0) [] := by
  exact fn_of_x hG hM Try.func26 (by kernel_rfl) (by kernel_rfl) 400 [.no, .no, .no, .no] (And.intro (Eq.refl false) (And.intro (Eq.refl false) (And.intro (Eq.refl false) (And.intro (Eq.refl false) trivial)))) (by kernel_rfl)
theorem rStore_BVC_ok (u : RUnit) : FnSpec Try.prog 26 1000 [RUnit.enc u, .string ⟨#[66, 86, 67]⟩] [] (.int .i64 (rStore_BVC u)) [] := by
  exact rStore_BVC_p1 u

/-- kotatsu/kotatsuref08.Store -/
def rStore_BVS (u : RUnit) : Int :=
  0
theorem rStore_BVS_p1 (u : RUnit) : FnSpec Try.prog 26 1000 [RUnit.enc u, .string ⟨#[66, 86, 83]⟩] [] (.int .i64 0) [] := by
  exact fn_of_x hG hM Try.func26 (by kernel_rfl) (by kernel_rfl) 400 [.no, .no, .no, .no] (And.intro (Eq.refl false) (And.intro (Eq.refl false) (And.intro (Eq.refl false) (And.intro (Eq.refl false) trivial)))) (by kernel_rfl)
theorem rStore_BVS_ok (u : RUnit) : FnSpec Try.prog 26 1000 [RUnit.enc u, .string ⟨#[66, 86, 83]⟩] [] (.int .i64 (rStore_BVS u)) [] := by
  exact rStore_BVS_p1 u

/-- kotatsu/kotatsuref08.Store -/
def rStore_BCC (u : RUnit) : Int :=
  0
theorem rStore_BCC_p1 (u : RUnit) : FnSpec Try.prog 26 1000 [RUnit.enc u, .string ⟨#[66, 67, 67]⟩] [] (.int .i64 0) [] := by
  exact fn_of_x hG hM Try.func26 (by kernel_rfl) (by kernel_rfl) 400 [.no, .no, .no, .no] (And.intro (Eq.refl false) (And.intro (Eq.refl false) (And.intro (Eq.refl false) (And.intro (Eq.refl false) trivial)))) (by kernel_rfl)
theorem rStore_BCC_ok (u : RUnit) : FnSpec Try.prog 26 1000 [RUnit.enc u, .string ⟨#[66, 67, 67]⟩] [] (.int .i64 (rStore_BCC u)) [] := by
  exact rStore_BCC_p1 u

/-- kotatsu/kotatsuref08.Store -/
def rStore_BCS (u : RUnit) : Int :=
  0
theorem rStore_BCS_p1 (u : RUnit) : FnSpec Try.prog 26 1000 [RUnit.enc u, .string ⟨#[66, 67, 83]⟩] [] (.int .i64 0) [] := by
  exact fn_of_x hG hM Try.func26 (by kernel_rfl) (by kernel_rfl) 400 [.no, .no, .no, .no] (And.intro (Eq.refl false) (And.intro (Eq.refl false) (And.intro (Eq.refl false) (And.intro (Eq.refl false) trivial)))) (by kernel_rfl)
theorem rStore_BCS_ok (u : RUnit) : FnSpec Try.prog 26 1000 [RUnit.enc u, .string ⟨#[66, 67, 83]⟩] [] (.int .i64 (rStore_BCS u)) [] := by
  exact rStore_BCS_p1 u

/-- kotatsu/kotatsuref08.Store -/
def rStore_BNE (u : RUnit) : Int :=
  0
theorem rStore_BNE_p1 (u : RUnit) : FnSpec Try.prog 26 1000 [RUnit.enc u, .string ⟨#[66, 78, 69]⟩] [] (.int .i64 0) [] := by
  exact fn_of_x hG hM Try.func26 (by kernel_rfl) (by kernel_rfl) 400 [.no, .no, .no, .no] (And.intro (Eq.refl false) (And.intro (Eq.refl false) (And.intro (Eq.refl false) (And.intro (Eq.refl false) trivial)))) (by kernel_rfl)
theorem rStore_BNE_ok (u : RUnit) : FnSpec Try.prog 26 1000 [RUnit.enc u, .string ⟨#[66, 78, 69]⟩] [] (.int .i64 (rStore_BNE u)) [] := by
  exact rStore_BNE_p1 u

/-- kotatsu/kotatsuref08.Store -/
def rStore_BEQ (u : RUnit) : Int :=
  0
theorem rStore_BEQ_p1 (u : RUnit) : FnSpec Try.prog 26 1000 [RUnit.enc u, .string ⟨#[66, 69, 81]⟩] [] (.int .i64 0) [] := by
  exact fn_of_x hG hM Try.func26 (by kernel_rfl) (by kernel_rfl) 400 [.no, .no, .no, .no] (And.intro (Eq.refl false) (And.intro (Eq.refl false) (And.intro (Eq.refl false) (And.intro (Eq.refl false) trivial)))) (by kernel_rfl)
theorem rStore_BEQ_ok (u : RUnit) : FnSpec Try.prog 26 1000 [RUnit.enc u, .string ⟨#[66, 69, 81]⟩] [] (.int .i64 (rStore_BEQ u)) [] := by
  exact rStore_BEQ_p1 u

/-- kotatsu/kotatsuref08.Store -/
def rStore_JMP (u : RUnit) : Int :=
  0
theorem rStore_JMP_p1 (u : RUnit) : FnSpec Try.prog 26 1000 [RUnit.enc u, .string ⟨#[74, 77, 80]⟩] [] (.int .i64 0) [] := by
  exact fn_of_x hG hM Try.func26 (by kernel_rfl) (by kernel_rfl) 400 [.no, .no, .no, .no] (And.intro (Eq.refl false) (And.intro (Eq.refl false) (And.intro (Eq.refl false) (And.intro (Eq.refl false) trivial)))) (by kernel_rfl)
theorem rStore_JMP_ok (u : RUnit) : FnSpec Try.prog 26 1000 [RUnit.enc u, .string ⟨#[74, 77, 80]⟩] [] (.int .i64 (rStore_JMP u)) [] := by
  exact rStore_JMP_p1 u

/-- kotatsu/kotatsuref08.Store -/
def rStore_JSR (u : RUnit) : Int :=
  0
theorem rStore_JSR_p1 (u : RUnit) : FnSpec Try.prog 26 1000 [RUnit.enc u, .string ⟨#[74, 83, 82]⟩] [] (.int .i64 0) [] := by
  exact fn_of_x hG hM Try.func26 (by kernel_rfl) (by kernel_rfl) 400 [.no, .no, .no, .no] (And.intro (Eq.refl false) (And.intro (Eq.refl false) (And.intro (Eq.refl false) (And.intro (Eq.refl false) trivial)))) (by kernel_rfl)
theorem rStore_JSR_ok (u : RUnit) : FnSpec Try.prog 26 1000 [RUnit.enc u, .string ⟨#[74, 83, 82]⟩] [] (.int .i64 (rStore_JSR u)) [] := by
  exact rStore_JSR_p1 u

/-- kotatsu/kotatsuref08.Store -/
def rStore_RTS (u : RUnit) : Int :=
  0
theorem rStore_RTS_p1 (u : RUnit) : FnSpec Try.prog 26 1000 [RUnit.enc u, .string ⟨#[82, 84, 83]⟩] [] (.int .i64 0) [] := by
  exact fn_of_x hG hM Try.func26 (by kernel_rfl) (by kernel_rfl) 400 [.no, .no, .no, .no] (And.intro (Eq.refl false) (And.intro (Eq.refl false) (And.intro (Eq.refl false) (And.intro (Eq.refl false) trivial)))) (by kernel_rfl)
theorem rStore_RTS_ok (u : RUnit) : FnSpec Try.prog 26 1000 [RUnit.enc u, .string ⟨#[82, 84, 83]⟩] [] (.int .i64 (rStore_RTS u)) [] := by
  exact rStore_RTS_p1 u

/-- kotatsu/kotatsuref08.Store -/
def rStore_RTI (u : RUnit) : Int :=
  0
theorem rStore_RTI_p1 (u : RUnit) : FnSpec Try.prog 26 1000 [RUnit.enc u, .string ⟨#[82, 84, 73]⟩] [] (.int .i64 0) [] := by
  exact fn_of_x hG hM Try.func26 (by kernel_rfl) (by kernel_rfl) 400 [.no, .no, .no, .no] (And.intro (Eq.refl false) (And.intro (Eq.refl false) (And.intro (Eq.refl false) (And.intro (Eq.refl false) trivial)))) (by kernel_rfl)
theorem rStore_RTI_ok (u : RUnit) : FnSpec Try.prog 26 1000 [RUnit.enc u, .string ⟨#[82, 84, 73]⟩] [] (.int .i64 (rStore_RTI u)) [] := by
  exact rStore_RTI_p1 u

/-- kotatsu/kotatsuref08.Store -/
def rStore_BRK (u : RUnit) : Int :=
  0
theorem rStore_BRK_p1 (u : RUnit) : FnSpec Try.prog 26 1000 [RUnit.enc u, .string ⟨#[66, 82, 75]⟩] [] (.int .i64 0) [] := by
  exact fn_of_x hG hM Try.func26 (by kernel_rfl) (by kernel_rfl) 400 [.no, .no, .no, .no] (And.intro (Eq.refl false) (And.intro (Eq.refl false) (And.intro (Eq.refl false) (And.intro (Eq.refl false) trivial)))) (by kernel_rfl)
theorem rStore_BRK_ok (u : RUnit) : FnSpec Try.prog 26 1000 [RUnit.enc u, .string ⟨#[66, 82, 75]⟩] [] (.int .i64 (rStore_BRK u)) [] := by
  exact rStore_BRK_p1 u

/-- kotatsu/kotatsuref08.Store -/
def rStore_PHA (u : RUnit) : Int :=
  0
theorem rStore_PHA_p1 (u : RUnit) : FnSpec Try.prog 26 1000 [RUnit.enc u, .string ⟨#[80, 72, 65]⟩] [] (.int .i64 0) [] := by
  exact fn_of_x hG hM Try.func26 (by kernel_rfl) (by kernel_rfl) 400 [.no, .no, .no, .no] (And.intro (Eq.refl false) (And.intro (Eq.refl false) (And.intro (Eq.refl false) (And.intro (Eq.refl false) trivial)))) (by kernel_rfl)
theorem rStore_PHA_ok (u : RUnit) : FnSpec Try.prog 26 1000 [RUnit.enc u, .string ⟨#[80, 72, 65]⟩] [] (.int .i64 (rStore_PHA u)) [] := by
  exact rStore_PHA_p1 u

/-- kotatsu/kotatsuref08.Store -/
def rStore_PHP (u : RUnit) : Int :=
  0
theorem rStore_PHP_p1 (u : RUnit) : FnSpec Try.prog 26 1000 [RUnit.enc u, .string ⟨#[80, 72, 80]⟩] [] (.int .i64 0) [] := by
  exact fn_of_x hG hM Try.func26 (by kernel_rfl) (by kernel_rfl) 400 [.no, .no, .no, .no] (And.intro (Eq.refl false) (And.intro (Eq.refl false) (And.intro (Eq.refl false) (And.intro (Eq.refl false) trivial)))) (by kernel_rfl)
theorem rStore_PHP_ok (u : RUnit) : FnSpec Try.prog 26 1000 [RUnit.enc u, .string ⟨#[80, 72, 80]⟩] [] (.int .i64 (rStore_PHP u)) [] := by
  exact rStore_PHP_p1 u

/-- kotatsu/kotatsuref08.Store -/
def rStore_PLA (u : RUnit) : Int :=
  0
theorem rStore_PLA_p1 (u : RUnit) : FnSpec Try.prog 26 1000 [RUnit.enc u, .string ⟨#[80, 76, 65]⟩] [] (.int .i64 0) [] := by
  exact fn_of_x hG hM Try.func26 (by kernel_rfl) (by kernel_rfl) 400 [.no, .no, .no, .no] (And.intro (Eq.refl false) (And.intro (Eq.refl false) (And.intro (Eq.refl false) (And.intro (Eq.refl false) trivial)))) (by kernel_rfl)
theorem rStore_PLA_ok (u : RUnit) : FnSpec Try.prog 26 1000 [RUnit.enc u, .string ⟨#[80, 76, 65]⟩] [] (.int .i64 (rStore_PLA u)) [] := by
  exact rStore_PLA_p1 u

/-- kotatsu/kotatsuref08.Store -/
def rStore_PLP (u : RUnit) : Int :=
  0
theorem rStore_PLP_p1 (u : RUnit) : FnSpec Try.prog 26 1000 [RUnit.enc u, .string ⟨#[80, 76, 80]⟩] [] (.int .i64 0) [] := by
  exact fn_of_x hG hM Try.func26 (by kernel_rfl) (by kernel_rfl) 400 [.no, .no, .no, .no] (And.intro (Eq.refl false) (And.intro (Eq.refl false) (And.intro (Eq.refl false) (And.intro (Eq.refl false) trivial)))) (by kernel_rfl)
theorem rStore_PLP_ok (u : RUnit) : FnSpec Try.prog 26 1000 [RUnit.enc u, .string ⟨#[80, 76, 80]⟩] [] (.int .i64 (rStore_PLP u)) [] := by
  exact rStore_PLP_p1 u

/-- kotatsu/kotatsuref08.Store -/
def rStore_JAM (u : RUnit) : Int :=
  0
theorem rStore_JAM_p1 (u : RUnit) : FnSpec Try.prog 26 1000 [RUnit.enc u, .string ⟨#[74, 65, 77]⟩] [] (.int .i64 0) [] := by
  exact fn_of_x hG hM Try.func26 (by kernel_rfl) (by kernel_rfl) 400 [.no, .no, .no, .no] (And.intro (Eq.refl false) (And.intro (Eq.refl false) (And.intro (Eq.refl false) (And.intro (Eq.refl false) trivial)))) (by kernel_rfl)
theorem rStore_JAM_ok (u : RUnit) : FnSpec Try.prog 26 1000 [RUnit.enc u, .string ⟨#[74, 65, 77]⟩] [] (.int .i64 (rStore_JAM u)) [] := by
  exact rStore_JAM_p1 u

end Go.Proofs.Ytfjeifmenlnkkaa
