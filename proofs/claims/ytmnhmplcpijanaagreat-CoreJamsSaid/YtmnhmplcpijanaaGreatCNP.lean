/-
  CoreNil: what the Go function computes is true. No condition.
-/
import Derived.Test.YtmnhmplcpijanaaGreatCJ
namespace Go.Proofs.YtmnhmplcpijanaaGreat
open Go VX
set_option linter.unusedVariables false
set_option maxRecDepth 100000

theorem awake_true : awakeF = true := by kernel_rfl

/-- Seven cycles behind a reset. -/
def new7 (b : Int) (irq : Bool) : Core := clockF (clockF (clockF (clockF (clockF (clockF (clockF coreNew b irq false) b irq false) b irq false) b irq false) b irq false) b irq false) b irq false
theorem new7_was (b : Int) (irq : Bool) : (new7 b irq).was = ⟨⟨0, 0, 0, 253, 36⟩, bOr .u16 (bShl .u16 (IntKind.u16.wrap b) 8) (IntKind.u16.wrap b)⟩ := by
  cases irq <;> kernel_rfl

theorem nil_true (b : Int) (irq nmi : Bool) (w_b : rng 256 b) : FnSpec Tryz.prog 9 1000 [.int .u8 b, .bool irq, .bool nmi] [] (.bool true) [] := by
  have e : (((((c_Regs (new7 b irq)).U.A : Int) == 0) && ((((c_Regs (new7 b irq)).U.X : Int) == 0) && ((((c_Regs (new7 b irq)).U.Y : Int) == 0) && ((((c_Regs (new7 b irq)).U.S : Int) == 253) && ((((c_Regs (new7 b irq)).U.P : Int) == 36) && true))))) && ((((c_Regs (new7 b irq)).PC : Int) == (bOr .u16 (bShl .u16 (IntKind.u16.wrap b) 8) (IntKind.u16.wrap b))) && true)) = true := by
    unfold c_Regs
    rw [new7_was]; simp
  have h := lawNil_p1 b irq nmi w_b (by rw [awake_true]; rfl) (by cases irq <;> kernel_rfl) (by cases irq <;> kernel_rfl) (by cases irq <;> kernel_rfl) (by cases irq <;> kernel_rfl) (by cases irq <;> kernel_rfl) (by cases irq <;> kernel_rfl) (by cases irq <;> kernel_rfl) (by cases irq <;> kernel_rfl) (by cases irq <;> kernel_rfl) (by cases irq <;> kernel_rfl)
  unfold new7 at e
  rw [e] at h
  exact h
end Go.Proofs.YtmnhmplcpijanaaGreat
