/-
  Layer 11: what the reference puts out, as a Lean function. No condition.
-/
import Derived.Test.YtngeghiaakkdbaaDoorTQ
namespace Go.Proofs.YtngeghiaakkdbaaDoor
open Go VX IntWalk
set_option maxRecDepth 100000
set_option linter.unusedSimpArgs false
set_option linter.unusedVariables false

def rOut (x : RTone) : Int :=
  if x.Reg 0 / 64 = 0 then rOut_0 x else if x.Reg 0 / 64 = 1 then rOut_1 x else if x.Reg 0 / 64 = 2 then rOut_2 x else rOut_3 x

theorem rOut_ok (x : RTone) (hg : Good x) : FnSpec Tryd.prog 36 1000 [RTone.enc x] [] (.int .i64 (rOut x)) [] := by
  obtain ⟨r0, r1⟩ := hg.reg 0
  have ed : (IntKind.i64.wrap (Int.tdiv (x.Reg 0) 64)) = x.Reg 0 / 64 := by
    rw [Int.tdiv_eq_ediv_of_nonneg r0, i64_in _ (by omega)]
  unfold rOut
  by_cases c0 : x.Reg 0 / 64 = 0
  · rw [if_pos c0]; exact rOut_0_ok x hg (by rw [ed, c0])
  · rw [if_neg c0]
    by_cases c1 : x.Reg 0 / 64 = 1
    · rw [if_pos c1]; exact rOut_1_ok x hg (by rw [ed, c1])
    · rw [if_neg c1]
      by_cases c2 : x.Reg 0 / 64 = 2
      · rw [if_pos c2]; exact rOut_2_ok x hg (by rw [ed, c2])
      · rw [if_neg c2]; exact rOut_3_ok x hg (by rw [ed]; omega)

end Go.Proofs.YtngeghiaakkdbaaDoor
