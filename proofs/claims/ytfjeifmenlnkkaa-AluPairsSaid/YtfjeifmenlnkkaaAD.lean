/-
  The functions of layer 8, of the reference, by names; the laws. Written by gen_alu.py. No condition.
-/
import Derived.Test.YtfjeifmenlnkkaaAB
import Derived.Test.YtfjeifmenlnkkaaAC
namespace Go.Proofs.Ytfjeifmenlnkkaa
open Go VX
set_option linter.unusedVariables false
set_option maxRecDepth 100000

/-- kotatsu/kotatsuref08.Self -/
def rSelf_NOP (u : RUnit) : RUnit :=
  u
theorem rSelf_NOP_p1 (u : RUnit) : FnSpec Try.prog 32 1000 [RUnit.enc u, .string ⟨#[78, 79, 80]⟩] [] (RUnit.enc u) [] := by
  exact fn_of_x hG hM Try.func32 (by kernel_rfl) (by kernel_rfl) 400 [.no, .no, .no, .no, .no, .no, .no, .no, .no, .no, .no, .no, .no, .no, .no, .no, .no, .no, .no, .no, .no] (And.intro (Eq.refl false) (And.intro (Eq.refl false) (And.intro (Eq.refl false) (And.intro (Eq.refl false) (And.intro (Eq.refl false) (And.intro (Eq.refl false) (And.intro (Eq.refl false) (And.intro (Eq.refl false) (And.intro (Eq.refl false) (And.intro (Eq.refl false) (And.intro (Eq.refl false) (And.intro (Eq.refl false) (And.intro (Eq.refl false) (And.intro (Eq.refl false) (And.intro (Eq.refl false) (And.intro (Eq.refl false) (And.intro (Eq.refl false) (And.intro (Eq.refl false) (And.intro (Eq.refl false) (And.intro (Eq.refl false) (And.intro (Eq.refl false) trivial))))))))))))))))))))) (by kernel_rfl)
theorem rSelf_NOP_ok (u : RUnit) : FnSpec Try.prog 32 1000 [RUnit.enc u, .string ⟨#[78, 79, 80]⟩] [] (RUnit.enc (rSelf_NOP u)) [] := by
  exact rSelf_NOP_p1 u

/-- kotatsu/kotatsuref08.Self -/
def rSelf_ORA (u : RUnit) : RUnit :=
  u
theorem rSelf_ORA_p1 (u : RUnit) : FnSpec Try.prog 32 1000 [RUnit.enc u, .string ⟨#[79, 82, 65]⟩] [] (RUnit.enc u) [] := by
  exact fn_of_x hG hM Try.func32 (by kernel_rfl) (by kernel_rfl) 400 [.no, .no, .no, .no, .no, .no, .no, .no, .no, .no, .no, .no, .no, .no, .no, .no, .no, .no, .no, .no, .no] (And.intro (Eq.refl false) (And.intro (Eq.refl false) (And.intro (Eq.refl false) (And.intro (Eq.refl false) (And.intro (Eq.refl false) (And.intro (Eq.refl false) (And.intro (Eq.refl false) (And.intro (Eq.refl false) (And.intro (Eq.refl false) (And.intro (Eq.refl false) (And.intro (Eq.refl false) (And.intro (Eq.refl false) (And.intro (Eq.refl false) (And.intro (Eq.refl false) (And.intro (Eq.refl false) (And.intro (Eq.refl false) (And.intro (Eq.refl false) (And.intro (Eq.refl false) (And.intro (Eq.refl false) (And.intro (Eq.refl false) (And.intro (Eq.refl false) trivial))))))))))))))))))))) (by kernel_rfl)
theorem rSelf_ORA_ok (u : RUnit) : FnSpec Try.prog 32 1000 [RUnit.enc u, .string ⟨#[79, 82, 65]⟩] [] (RUnit.enc (rSelf_ORA u)) [] := by
  exact rSelf_ORA_p1 u

/-- kotatsu/kotatsuref08.Self -/
def rSelf_AND (u : RUnit) : RUnit :=
  u
theorem rSelf_AND_p1 (u : RUnit) : FnSpec Try.prog 32 1000 [RUnit.enc u, .string ⟨#[65, 78, 68]⟩] [] (RUnit.enc u) [] := by
  exact fn_of_x hG hM Try.func32 (by kernel_rfl) (by kernel_rfl) 400 [.no, .no, .no, .no, .no, .no, .no, .no, .no, .no, .no, .no, .no, .no, .no, .no, .no, .no, .no, .no, .no] (And.intro (Eq.refl false) (And.intro (Eq.refl false) (And.intro (Eq.refl false) (And.intro (Eq.refl false) (And.intro (Eq.refl false) (And.intro (Eq.refl false) (And.intro (Eq.refl false) (And.intro (Eq.refl false) (And.intro (Eq.refl false) (And.intro (Eq.refl false) (And.intro (Eq.refl false) (And.intro (Eq.refl false) (And.intro (Eq.refl false) (And.intro (Eq.refl false) (And.intro (Eq.refl false) (And.intro (Eq.refl false) (And.intro (Eq.refl false) (And.intro (Eq.refl false) (And.intro (Eq.refl false) (And.intro (Eq.refl false) (And.intro (Eq.refl false) trivial))))))))))))))))))))) (by kernel_rfl)
theorem rSelf_AND_ok (u : RUnit) : FnSpec Try.prog 32 1000 [RUnit.enc u, .string ⟨#[65, 78, 68]⟩] [] (RUnit.enc (rSelf_AND u)) [] := by
  exact rSelf_AND_p1 u

/-- kotatsu/kotatsuref08.Self -/
def rSelf_EOR (u : RUnit) : RUnit :=
  u
theorem rSelf_EOR_p1 (u : RUnit) : FnSpec Try.prog 32 1000 [RUnit.enc u, .string ⟨#[69, 79, 82]⟩] [] (RUnit.enc u) [] := by
  exact fn_of_x hG hM Try.func32 (by kernel_rfl) (by kernel_rfl) 400 [.no, .no, .no, .no, .no, .no, .no, .no, .no, .no, .no, .no, .no, .no, .no, .no, .no, .no, .no, .no, .no] (And.intro (Eq.refl false) (And.intro (Eq.refl false) (And.intro (Eq.refl false) (And.intro (Eq.refl false) (And.intro (Eq.refl false) (And.intro (Eq.refl false) (And.intro (Eq.refl false) (And.intro (Eq.refl false) (And.intro (Eq.refl false) (And.intro (Eq.refl false) (And.intro (Eq.refl false) (And.intro (Eq.refl false) (And.intro (Eq.refl false) (And.intro (Eq.refl false) (And.intro (Eq.refl false) (And.intro (Eq.refl false) (And.intro (Eq.refl false) (And.intro (Eq.refl false) (And.intro (Eq.refl false) (And.intro (Eq.refl false) (And.intro (Eq.refl false) trivial))))))))))))))))))))) (by kernel_rfl)
theorem rSelf_EOR_ok (u : RUnit) : FnSpec Try.prog 32 1000 [RUnit.enc u, .string ⟨#[69, 79, 82]⟩] [] (RUnit.enc (rSelf_EOR u)) [] := by
  exact rSelf_EOR_p1 u

/-- kotatsu/kotatsuref08.Self -/
def rSelf_ADC (u : RUnit) : RUnit :=
  u
theorem rSelf_ADC_p1 (u : RUnit) : FnSpec Try.prog 32 1000 [RUnit.enc u, .string ⟨#[65, 68, 67]⟩] [] (RUnit.enc u) [] := by
  exact fn_of_x hG hM Try.func32 (by kernel_rfl) (by kernel_rfl) 400 [.no, .no, .no, .no, .no, .no, .no, .no, .no, .no, .no, .no, .no, .no, .no, .no, .no, .no, .no, .no, .no] (And.intro (Eq.refl false) (And.intro (Eq.refl false) (And.intro (Eq.refl false) (And.intro (Eq.refl false) (And.intro (Eq.refl false) (And.intro (Eq.refl false) (And.intro (Eq.refl false) (And.intro (Eq.refl false) (And.intro (Eq.refl false) (And.intro (Eq.refl false) (And.intro (Eq.refl false) (And.intro (Eq.refl false) (And.intro (Eq.refl false) (And.intro (Eq.refl false) (And.intro (Eq.refl false) (And.intro (Eq.refl false) (And.intro (Eq.refl false) (And.intro (Eq.refl false) (And.intro (Eq.refl false) (And.intro (Eq.refl false) (And.intro (Eq.refl false) trivial))))))))))))))))))))) (by kernel_rfl)
theorem rSelf_ADC_ok (u : RUnit) : FnSpec Try.prog 32 1000 [RUnit.enc u, .string ⟨#[65, 68, 67]⟩] [] (RUnit.enc (rSelf_ADC u)) [] := by
  exact rSelf_ADC_p1 u

/-- kotatsu/kotatsuref08.Self -/
def rSelf_SBC (u : RUnit) : RUnit :=
  u
theorem rSelf_SBC_p1 (u : RUnit) : FnSpec Try.prog 32 1000 [RUnit.enc u, .string ⟨#[83, 66, 67]⟩] [] (RUnit.enc u) [] := by
  exact fn_of_x hG hM Try.func32 (by kernel_rfl) (by kernel_rfl) 400 [.no, .no, .no, .no, .no, .no, .no, .no, .no, .no, .no, .no, .no, .no, .no, .no, .no, .no, .no, .no, .no] (And.intro (Eq.refl false) (And.intro (Eq.refl false) (And.intro (Eq.refl false) (And.intro (Eq.refl false) (And.intro (Eq.refl false) (And.intro (Eq.refl false) (And.intro (Eq.refl false) (And.intro (Eq.refl false) (And.intro (Eq.refl false) (And.intro (Eq.refl false) (And.intro (Eq.refl false) (And.intro (Eq.refl false) (And.intro (Eq.refl false) (And.intro (Eq.refl false) (And.intro (Eq.refl false) (And.intro (Eq.refl false) (And.intro (Eq.refl false) (And.intro (Eq.refl false) (And.intro (Eq.refl false) (And.intro (Eq.refl false) (And.intro (Eq.refl false) trivial))))))))))))))))))))) (by kernel_rfl)
theorem rSelf_SBC_ok (u : RUnit) : FnSpec Try.prog 32 1000 [RUnit.enc u, .string ⟨#[83, 66, 67]⟩] [] (RUnit.enc (rSelf_SBC u)) [] := by
  exact rSelf_SBC_p1 u

/-- kotatsu/kotatsuref08.Self -/
def rSelf_CMP (u : RUnit) : RUnit :=
  u
theorem rSelf_CMP_p1 (u : RUnit) : FnSpec Try.prog 32 1000 [RUnit.enc u, .string ⟨#[67, 77, 80]⟩] [] (RUnit.enc u) [] := by
  exact fn_of_x hG hM Try.func32 (by kernel_rfl) (by kernel_rfl) 400 [.no, .no, .no, .no, .no, .no, .no, .no, .no, .no, .no, .no, .no, .no, .no, .no, .no, .no, .no, .no, .no] (And.intro (Eq.refl false) (And.intro (Eq.refl false) (And.intro (Eq.refl false) (And.intro (Eq.refl false) (And.intro (Eq.refl false) (And.intro (Eq.refl false) (And.intro (Eq.refl false) (And.intro (Eq.refl false) (And.intro (Eq.refl false) (And.intro (Eq.refl false) (And.intro (Eq.refl false) (And.intro (Eq.refl false) (And.intro (Eq.refl false) (And.intro (Eq.refl false) (And.intro (Eq.refl false) (And.intro (Eq.refl false) (And.intro (Eq.refl false) (And.intro (Eq.refl false) (And.intro (Eq.refl false) (And.intro (Eq.refl false) (And.intro (Eq.refl false) trivial))))))))))))))))))))) (by kernel_rfl)
theorem rSelf_CMP_ok (u : RUnit) : FnSpec Try.prog 32 1000 [RUnit.enc u, .string ⟨#[67, 77, 80]⟩] [] (RUnit.enc (rSelf_CMP u)) [] := by
  exact rSelf_CMP_p1 u

/-- kotatsu/kotatsuref08.Self -/
def rSelf_CPX (u : RUnit) : RUnit :=
  u
theorem rSelf_CPX_p1 (u : RUnit) : FnSpec Try.prog 32 1000 [RUnit.enc u, .string ⟨#[67, 80, 88]⟩] [] (RUnit.enc u) [] := by
  exact fn_of_x hG hM Try.func32 (by kernel_rfl) (by kernel_rfl) 400 [.no, .no, .no, .no, .no, .no, .no, .no, .no, .no, .no, .no, .no, .no, .no, .no, .no, .no, .no, .no, .no] (And.intro (Eq.refl false) (And.intro (Eq.refl false) (And.intro (Eq.refl false) (And.intro (Eq.refl false) (And.intro (Eq.refl false) (And.intro (Eq.refl false) (And.intro (Eq.refl false) (And.intro (Eq.refl false) (And.intro (Eq.refl false) (And.intro (Eq.refl false) (And.intro (Eq.refl false) (And.intro (Eq.refl false) (And.intro (Eq.refl false) (And.intro (Eq.refl false) (And.intro (Eq.refl false) (And.intro (Eq.refl false) (And.intro (Eq.refl false) (And.intro (Eq.refl false) (And.intro (Eq.refl false) (And.intro (Eq.refl false) (And.intro (Eq.refl false) trivial))))))))))))))))))))) (by kernel_rfl)
theorem rSelf_CPX_ok (u : RUnit) : FnSpec Try.prog 32 1000 [RUnit.enc u, .string ⟨#[67, 80, 88]⟩] [] (RUnit.enc (rSelf_CPX u)) [] := by
  exact rSelf_CPX_p1 u

/-- kotatsu/kotatsuref08.Self -/
def rSelf_CPY (u : RUnit) : RUnit :=
  u
theorem rSelf_CPY_p1 (u : RUnit) : FnSpec Try.prog 32 1000 [RUnit.enc u, .string ⟨#[67, 80, 89]⟩] [] (RUnit.enc u) [] := by
  exact fn_of_x hG hM Try.func32 (by kernel_rfl) (by kernel_rfl) 400 [.no, .no, .no, .no, .no, .no, .no, .no, .no, .no, .no, .no, .no, .no, .no, .no, .no, .no, .no, .no, .no] (And.intro (Eq.refl false) (And.intro (Eq.refl false) (And.intro (Eq.refl false) (And.intro (Eq.refl false) (And.intro (Eq.refl false) (And.intro (Eq.refl false) (And.intro (Eq.refl false) (And.intro (Eq.refl false) (And.intro (Eq.refl false) (And.intro (Eq.refl false) (And.intro (Eq.refl false) (And.intro (Eq.refl false) (And.intro (Eq.refl false) (And.intro (Eq.refl false) (And.intro (Eq.refl false) (And.intro (Eq.refl false) (And.intro (Eq.refl false) (And.intro (Eq.refl false) (And.intro (Eq.refl false) (And.intro (Eq.refl false) (And.intro (Eq.refl false) trivial))))))))))))))))))))) (by kernel_rfl)
theorem rSelf_CPY_ok (u : RUnit) : FnSpec Try.prog 32 1000 [RUnit.enc u, .string ⟨#[67, 80, 89]⟩] [] (RUnit.enc (rSelf_CPY u)) [] := by
  exact rSelf_CPY_p1 u

/-- kotatsu/kotatsuref08.Self -/
def rSelf_LDA (u : RUnit) : RUnit :=
  u
theorem rSelf_LDA_p1 (u : RUnit) : FnSpec Try.prog 32 1000 [RUnit.enc u, .string ⟨#[76, 68, 65]⟩] [] (RUnit.enc u) [] := by
  exact fn_of_x hG hM Try.func32 (by kernel_rfl) (by kernel_rfl) 400 [.no, .no, .no, .no, .no, .no, .no, .no, .no, .no, .no, .no, .no, .no, .no, .no, .no, .no, .no, .no, .no] (And.intro (Eq.refl false) (And.intro (Eq.refl false) (And.intro (Eq.refl false) (And.intro (Eq.refl false) (And.intro (Eq.refl false) (And.intro (Eq.refl false) (And.intro (Eq.refl false) (And.intro (Eq.refl false) (And.intro (Eq.refl false) (And.intro (Eq.refl false) (And.intro (Eq.refl false) (And.intro (Eq.refl false) (And.intro (Eq.refl false) (And.intro (Eq.refl false) (And.intro (Eq.refl false) (And.intro (Eq.refl false) (And.intro (Eq.refl false) (And.intro (Eq.refl false) (And.intro (Eq.refl false) (And.intro (Eq.refl false) (And.intro (Eq.refl false) trivial))))))))))))))))))))) (by kernel_rfl)
theorem rSelf_LDA_ok (u : RUnit) : FnSpec Try.prog 32 1000 [RUnit.enc u, .string ⟨#[76, 68, 65]⟩] [] (RUnit.enc (rSelf_LDA u)) [] := by
  exact rSelf_LDA_p1 u

/-- kotatsu/kotatsuref08.Self -/
def rSelf_LDX (u : RUnit) : RUnit :=
  u
theorem rSelf_LDX_p1 (u : RUnit) : FnSpec Try.prog 32 1000 [RUnit.enc u, .string ⟨#[76, 68, 88]⟩] [] (RUnit.enc u) [] := by
  exact fn_of_x hG hM Try.func32 (by kernel_rfl) (by kernel_rfl) 400 [.no, .no, .no, .no, .no, .no, .no, .no, .no, .no, .no, .no, .no, .no, .no, .no, .no, .no, .no, .no, .no] (And.intro (Eq.refl false) (And.intro (Eq.refl false) (And.intro (Eq.refl false) (And.intro (Eq.refl false) (And.intro (Eq.refl false) (And.intro (Eq.refl false) (And.intro (Eq.refl false) (And.intro (Eq.refl false) (And.intro (Eq.refl false) (And.intro (Eq.refl false) (And.intro (Eq.refl false) (And.intro (Eq.refl false) (And.intro (Eq.refl false) (And.intro (Eq.refl false) (And.intro (Eq.refl false) (And.intro (Eq.refl false) (And.intro (Eq.refl false) (And.intro (Eq.refl false) (And.intro (Eq.refl false) (And.intro (Eq.refl false) (And.intro (Eq.refl false) trivial))))))))))))))))))))) (by kernel_rfl)
theorem rSelf_LDX_ok (u : RUnit) : FnSpec Try.prog 32 1000 [RUnit.enc u, .string ⟨#[76, 68, 88]⟩] [] (RUnit.enc (rSelf_LDX u)) [] := by
  exact rSelf_LDX_p1 u

/-- kotatsu/kotatsuref08.Self -/
def rSelf_LDY (u : RUnit) : RUnit :=
  u
theorem rSelf_LDY_p1 (u : RUnit) : FnSpec Try.prog 32 1000 [RUnit.enc u, .string ⟨#[76, 68, 89]⟩] [] (RUnit.enc u) [] := by
  exact fn_of_x hG hM Try.func32 (by kernel_rfl) (by kernel_rfl) 400 [.no, .no, .no, .no, .no, .no, .no, .no, .no, .no, .no, .no, .no, .no, .no, .no, .no, .no, .no, .no, .no] (And.intro (Eq.refl false) (And.intro (Eq.refl false) (And.intro (Eq.refl false) (And.intro (Eq.refl false) (And.intro (Eq.refl false) (And.intro (Eq.refl false) (And.intro (Eq.refl false) (And.intro (Eq.refl false) (And.intro (Eq.refl false) (And.intro (Eq.refl false) (And.intro (Eq.refl false) (And.intro (Eq.refl false) (And.intro (Eq.refl false) (And.intro (Eq.refl false) (And.intro (Eq.refl false) (And.intro (Eq.refl false) (And.intro (Eq.refl false) (And.intro (Eq.refl false) (And.intro (Eq.refl false) (And.intro (Eq.refl false) (And.intro (Eq.refl false) trivial))))))))))))))))))))) (by kernel_rfl)
theorem rSelf_LDY_ok (u : RUnit) : FnSpec Try.prog 32 1000 [RUnit.enc u, .string ⟨#[76, 68, 89]⟩] [] (RUnit.enc (rSelf_LDY u)) [] := by
  exact rSelf_LDY_p1 u

/-- kotatsu/kotatsuref08.Self -/
def rSelf_BIT (u : RUnit) : RUnit :=
  u
theorem rSelf_BIT_p1 (u : RUnit) : FnSpec Try.prog 32 1000 [RUnit.enc u, .string ⟨#[66, 73, 84]⟩] [] (RUnit.enc u) [] := by
  exact fn_of_x hG hM Try.func32 (by kernel_rfl) (by kernel_rfl) 400 [.no, .no, .no, .no, .no, .no, .no, .no, .no, .no, .no, .no, .no, .no, .no, .no, .no, .no, .no, .no, .no] (And.intro (Eq.refl false) (And.intro (Eq.refl false) (And.intro (Eq.refl false) (And.intro (Eq.refl false) (And.intro (Eq.refl false) (And.intro (Eq.refl false) (And.intro (Eq.refl false) (And.intro (Eq.refl false) (And.intro (Eq.refl false) (And.intro (Eq.refl false) (And.intro (Eq.refl false) (And.intro (Eq.refl false) (And.intro (Eq.refl false) (And.intro (Eq.refl false) (And.intro (Eq.refl false) (And.intro (Eq.refl false) (And.intro (Eq.refl false) (And.intro (Eq.refl false) (And.intro (Eq.refl false) (And.intro (Eq.refl false) (And.intro (Eq.refl false) trivial))))))))))))))))))))) (by kernel_rfl)
theorem rSelf_BIT_ok (u : RUnit) : FnSpec Try.prog 32 1000 [RUnit.enc u, .string ⟨#[66, 73, 84]⟩] [] (RUnit.enc (rSelf_BIT u)) [] := by
  exact rSelf_BIT_p1 u

/-- kotatsu/kotatsuref08.Self -/
def rSelf_LAX (u : RUnit) : RUnit :=
  u
theorem rSelf_LAX_p1 (u : RUnit) : FnSpec Try.prog 32 1000 [RUnit.enc u, .string ⟨#[76, 65, 88]⟩] [] (RUnit.enc u) [] := by
  exact fn_of_x hG hM Try.func32 (by kernel_rfl) (by kernel_rfl) 400 [.no, .no, .no, .no, .no, .no, .no, .no, .no, .no, .no, .no, .no, .no, .no, .no, .no, .no, .no, .no, .no] (And.intro (Eq.refl false) (And.intro (Eq.refl false) (And.intro (Eq.refl false) (And.intro (Eq.refl false) (And.intro (Eq.refl false) (And.intro (Eq.refl false) (And.intro (Eq.refl false) (And.intro (Eq.refl false) (And.intro (Eq.refl false) (And.intro (Eq.refl false) (And.intro (Eq.refl false) (And.intro (Eq.refl false) (And.intro (Eq.refl false) (And.intro (Eq.refl false) (And.intro (Eq.refl false) (And.intro (Eq.refl false) (And.intro (Eq.refl false) (And.intro (Eq.refl false) (And.intro (Eq.refl false) (And.intro (Eq.refl false) (And.intro (Eq.refl false) trivial))))))))))))))))))))) (by kernel_rfl)
theorem rSelf_LAX_ok (u : RUnit) : FnSpec Try.prog 32 1000 [RUnit.enc u, .string ⟨#[76, 65, 88]⟩] [] (RUnit.enc (rSelf_LAX u)) [] := by
  exact rSelf_LAX_p1 u

/-- kotatsu/kotatsuref08.Self -/
def rSelf_ANC (u : RUnit) : RUnit :=
  u
theorem rSelf_ANC_p1 (u : RUnit) : FnSpec Try.prog 32 1000 [RUnit.enc u, .string ⟨#[65, 78, 67]⟩] [] (RUnit.enc u) [] := by
  exact fn_of_x hG hM Try.func32 (by kernel_rfl) (by kernel_rfl) 400 [.no, .no, .no, .no, .no, .no, .no, .no, .no, .no, .no, .no, .no, .no, .no, .no, .no, .no, .no, .no, .no] (And.intro (Eq.refl false) (And.intro (Eq.refl false) (And.intro (Eq.refl false) (And.intro (Eq.refl false) (And.intro (Eq.refl false) (And.intro (Eq.refl false) (And.intro (Eq.refl false) (And.intro (Eq.refl false) (And.intro (Eq.refl false) (And.intro (Eq.refl false) (And.intro (Eq.refl false) (And.intro (Eq.refl false) (And.intro (Eq.refl false) (And.intro (Eq.refl false) (And.intro (Eq.refl false) (And.intro (Eq.refl false) (And.intro (Eq.refl false) (And.intro (Eq.refl false) (And.intro (Eq.refl false) (And.intro (Eq.refl false) (And.intro (Eq.refl false) trivial))))))))))))))))))))) (by kernel_rfl)
theorem rSelf_ANC_ok (u : RUnit) : FnSpec Try.prog 32 1000 [RUnit.enc u, .string ⟨#[65, 78, 67]⟩] [] (RUnit.enc (rSelf_ANC u)) [] := by
  exact rSelf_ANC_p1 u

/-- kotatsu/kotatsuref08.Self -/
def rSelf_ALR (u : RUnit) : RUnit :=
  u
theorem rSelf_ALR_p1 (u : RUnit) : FnSpec Try.prog 32 1000 [RUnit.enc u, .string ⟨#[65, 76, 82]⟩] [] (RUnit.enc u) [] := by
  exact fn_of_x hG hM Try.func32 (by kernel_rfl) (by kernel_rfl) 400 [.no, .no, .no, .no, .no, .no, .no, .no, .no, .no, .no, .no, .no, .no, .no, .no, .no, .no, .no, .no, .no] (And.intro (Eq.refl false) (And.intro (Eq.refl false) (And.intro (Eq.refl false) (And.intro (Eq.refl false) (And.intro (Eq.refl false) (And.intro (Eq.refl false) (And.intro (Eq.refl false) (And.intro (Eq.refl false) (And.intro (Eq.refl false) (And.intro (Eq.refl false) (And.intro (Eq.refl false) (And.intro (Eq.refl false) (And.intro (Eq.refl false) (And.intro (Eq.refl false) (And.intro (Eq.refl false) (And.intro (Eq.refl false) (And.intro (Eq.refl false) (And.intro (Eq.refl false) (And.intro (Eq.refl false) (And.intro (Eq.refl false) (And.intro (Eq.refl false) trivial))))))))))))))))))))) (by kernel_rfl)
theorem rSelf_ALR_ok (u : RUnit) : FnSpec Try.prog 32 1000 [RUnit.enc u, .string ⟨#[65, 76, 82]⟩] [] (RUnit.enc (rSelf_ALR u)) [] := by
  exact rSelf_ALR_p1 u

/-- kotatsu/kotatsuref08.Self -/
def rSelf_ARR (u : RUnit) : RUnit :=
  u
theorem rSelf_ARR_p1 (u : RUnit) : FnSpec Try.prog 32 1000 [RUnit.enc u, .string ⟨#[65, 82, 82]⟩] [] (RUnit.enc u) [] := by
  exact fn_of_x hG hM Try.func32 (by kernel_rfl) (by kernel_rfl) 400 [.no, .no, .no, .no, .no, .no, .no, .no, .no, .no, .no, .no, .no, .no, .no, .no, .no, .no, .no, .no, .no] (And.intro (Eq.refl false) (And.intro (Eq.refl false) (And.intro (Eq.refl false) (And.intro (Eq.refl false) (And.intro (Eq.refl false) (And.intro (Eq.refl false) (And.intro (Eq.refl false) (And.intro (Eq.refl false) (And.intro (Eq.refl false) (And.intro (Eq.refl false) (And.intro (Eq.refl false) (And.intro (Eq.refl false) (And.intro (Eq.refl false) (And.intro (Eq.refl false) (And.intro (Eq.refl false) (And.intro (Eq.refl false) (And.intro (Eq.refl false) (And.intro (Eq.refl false) (And.intro (Eq.refl false) (And.intro (Eq.refl false) (And.intro (Eq.refl false) trivial))))))))))))))))))))) (by kernel_rfl)
theorem rSelf_ARR_ok (u : RUnit) : FnSpec Try.prog 32 1000 [RUnit.enc u, .string ⟨#[65, 82, 82]⟩] [] (RUnit.enc (rSelf_ARR u)) [] := by
  exact rSelf_ARR_p1 u

/-- kotatsu/kotatsuref08.Self -/
def rSelf_AXS (u : RUnit) : RUnit :=
  u
theorem rSelf_AXS_p1 (u : RUnit) : FnSpec Try.prog 32 1000 [RUnit.enc u, .string ⟨#[65, 88, 83]⟩] [] (RUnit.enc u) [] := by
  exact fn_of_x hG hM Try.func32 (by kernel_rfl) (by kernel_rfl) 400 [.no, .no, .no, .no, .no, .no, .no, .no, .no, .no, .no, .no, .no, .no, .no, .no, .no, .no, .no, .no, .no] (And.intro (Eq.refl false) (And.intro (Eq.refl false) (And.intro (Eq.refl false) (And.intro (Eq.refl false) (And.intro (Eq.refl false) (And.intro (Eq.refl false) (And.intro (Eq.refl false) (And.intro (Eq.refl false) (And.intro (Eq.refl false) (And.intro (Eq.refl false) (And.intro (Eq.refl false) (And.intro (Eq.refl false) (And.intro (Eq.refl false) (And.intro (Eq.refl false) (And.intro (Eq.refl false) (And.intro (Eq.refl false) (And.intro (Eq.refl false) (And.intro (Eq.refl false) (And.intro (Eq.refl false) (And.intro (Eq.refl false) (And.intro (Eq.refl false) trivial))))))))))))))))))))) (by kernel_rfl)
theorem rSelf_AXS_ok (u : RUnit) : FnSpec Try.prog 32 1000 [RUnit.enc u, .string ⟨#[65, 88, 83]⟩] [] (RUnit.enc (rSelf_AXS u)) [] := by
  exact rSelf_AXS_p1 u

/-- kotatsu/kotatsuref08.Self -/
def rSelf_LAS (u : RUnit) : RUnit :=
  u
theorem rSelf_LAS_p1 (u : RUnit) : FnSpec Try.prog 32 1000 [RUnit.enc u, .string ⟨#[76, 65, 83]⟩] [] (RUnit.enc u) [] := by
  exact fn_of_x hG hM Try.func32 (by kernel_rfl) (by kernel_rfl) 400 [.no, .no, .no, .no, .no, .no, .no, .no, .no, .no, .no, .no, .no, .no, .no, .no, .no, .no, .no, .no, .no] (And.intro (Eq.refl false) (And.intro (Eq.refl false) (And.intro (Eq.refl false) (And.intro (Eq.refl false) (And.intro (Eq.refl false) (And.intro (Eq.refl false) (And.intro (Eq.refl false) (And.intro (Eq.refl false) (And.intro (Eq.refl false) (And.intro (Eq.refl false) (And.intro (Eq.refl false) (And.intro (Eq.refl false) (And.intro (Eq.refl false) (And.intro (Eq.refl false) (And.intro (Eq.refl false) (And.intro (Eq.refl false) (And.intro (Eq.refl false) (And.intro (Eq.refl false) (And.intro (Eq.refl false) (And.intro (Eq.refl false) (And.intro (Eq.refl false) trivial))))))))))))))))))))) (by kernel_rfl)
theorem rSelf_LAS_ok (u : RUnit) : FnSpec Try.prog 32 1000 [RUnit.enc u, .string ⟨#[76, 65, 83]⟩] [] (RUnit.enc (rSelf_LAS u)) [] := by
  exact rSelf_LAS_p1 u

/-- kotatsu/kotatsuref08.Self -/
def rSelf_ASL (u : RUnit) : RUnit :=
  ({ A := (rChange_ASL u u.A).2, X := ((rChange_ASL u u.A).1).X, Y := ((rChange_ASL u u.A).1).Y, S := ((rChange_ASL u u.A).1).S, P := ((rChange_ASL u u.A).1).P } : RUnit)
theorem rSelf_ASL_p1 (u : RUnit) : FnSpec Try.prog 32 1000 [RUnit.enc u, .string ⟨#[65, 83, 76]⟩] [] (RUnit.enc ({ A := (rChange_ASL u u.A).2, X := ((rChange_ASL u u.A).1).X, Y := ((rChange_ASL u u.A).1).Y, S := ((rChange_ASL u u.A).1).S, P := ((rChange_ASL u u.A).1).P } : RUnit)) [] := by
  exact fn_of_x hG hM Try.func32 (by kernel_rfl) (by kernel_rfl) 400 [.yes, .yes, .call [] [] 1000 (.tuple ⟨[RUnit.enc ((rChange_ASL u u.A).1), .int .i64 ((rChange_ASL u u.A).2)]⟩) []] (And.intro (Eq.refl true) (And.intro (Eq.refl true) (And.intro (rChange_ASL_ok u u.A) trivial))) (by kernel_rfl)
theorem rSelf_ASL_ok (u : RUnit) : FnSpec Try.prog 32 1000 [RUnit.enc u, .string ⟨#[65, 83, 76]⟩] [] (RUnit.enc (rSelf_ASL u)) [] := by
  exact rSelf_ASL_p1 u

/-- kotatsu/kotatsuref08.Self -/
def rSelf_LSR (u : RUnit) : RUnit :=
  ({ A := (rChange_LSR u u.A).2, X := ((rChange_LSR u u.A).1).X, Y := ((rChange_LSR u u.A).1).Y, S := ((rChange_LSR u u.A).1).S, P := ((rChange_LSR u u.A).1).P } : RUnit)
theorem rSelf_LSR_p1 (u : RUnit) : FnSpec Try.prog 32 1000 [RUnit.enc u, .string ⟨#[76, 83, 82]⟩] [] (RUnit.enc ({ A := (rChange_LSR u u.A).2, X := ((rChange_LSR u u.A).1).X, Y := ((rChange_LSR u u.A).1).Y, S := ((rChange_LSR u u.A).1).S, P := ((rChange_LSR u u.A).1).P } : RUnit)) [] := by
  exact fn_of_x hG hM Try.func32 (by kernel_rfl) (by kernel_rfl) 400 [.no, .yes, .yes, .call [] [] 1000 (.tuple ⟨[RUnit.enc ((rChange_LSR u u.A).1), .int .i64 ((rChange_LSR u u.A).2)]⟩) []] (And.intro (Eq.refl false) (And.intro (Eq.refl true) (And.intro (Eq.refl true) (And.intro (rChange_LSR_ok u u.A) trivial)))) (by kernel_rfl)
theorem rSelf_LSR_ok (u : RUnit) : FnSpec Try.prog 32 1000 [RUnit.enc u, .string ⟨#[76, 83, 82]⟩] [] (RUnit.enc (rSelf_LSR u)) [] := by
  exact rSelf_LSR_p1 u

/-- kotatsu/kotatsuref08.Self -/
def rSelf_ROL (u : RUnit) : RUnit :=
  ({ A := (rChange_ROL u u.A).2, X := ((rChange_ROL u u.A).1).X, Y := ((rChange_ROL u u.A).1).Y, S := ((rChange_ROL u u.A).1).S, P := ((rChange_ROL u u.A).1).P } : RUnit)
theorem rSelf_ROL_p1 (u : RUnit) : FnSpec Try.prog 32 1000 [RUnit.enc u, .string ⟨#[82, 79, 76]⟩] [] (RUnit.enc ({ A := (rChange_ROL u u.A).2, X := ((rChange_ROL u u.A).1).X, Y := ((rChange_ROL u u.A).1).Y, S := ((rChange_ROL u u.A).1).S, P := ((rChange_ROL u u.A).1).P } : RUnit)) [] := by
  exact fn_of_x hG hM Try.func32 (by kernel_rfl) (by kernel_rfl) 400 [.no, .no, .yes, .yes, .call [] [] 1000 (.tuple ⟨[RUnit.enc ((rChange_ROL u u.A).1), .int .i64 ((rChange_ROL u u.A).2)]⟩) []] (And.intro (Eq.refl false) (And.intro (Eq.refl false) (And.intro (Eq.refl true) (And.intro (Eq.refl true) (And.intro (rChange_ROL_ok u u.A) trivial))))) (by kernel_rfl)
theorem rSelf_ROL_ok (u : RUnit) : FnSpec Try.prog 32 1000 [RUnit.enc u, .string ⟨#[82, 79, 76]⟩] [] (RUnit.enc (rSelf_ROL u)) [] := by
  exact rSelf_ROL_p1 u

/-- kotatsu/kotatsuref08.Self -/
def rSelf_ROR (u : RUnit) : RUnit :=
  ({ A := (rChange_ROR u u.A).2, X := ((rChange_ROR u u.A).1).X, Y := ((rChange_ROR u u.A).1).Y, S := ((rChange_ROR u u.A).1).S, P := ((rChange_ROR u u.A).1).P } : RUnit)
theorem rSelf_ROR_p1 (u : RUnit) : FnSpec Try.prog 32 1000 [RUnit.enc u, .string ⟨#[82, 79, 82]⟩] [] (RUnit.enc ({ A := (rChange_ROR u u.A).2, X := ((rChange_ROR u u.A).1).X, Y := ((rChange_ROR u u.A).1).Y, S := ((rChange_ROR u u.A).1).S, P := ((rChange_ROR u u.A).1).P } : RUnit)) [] := by
  exact fn_of_x hG hM Try.func32 (by kernel_rfl) (by kernel_rfl) 400 [.no, .no, .no, .yes, .call [] [] 1000 (.tuple ⟨[RUnit.enc ((rChange_ROR u u.A).1), .int .i64 ((rChange_ROR u u.A).2)]⟩) []] (And.intro (Eq.refl false) (And.intro (Eq.refl false) (And.intro (Eq.refl false) (And.intro (Eq.refl true) (And.intro (rChange_ROR_ok u u.A) trivial))))) (by kernel_rfl)
theorem rSelf_ROR_ok (u : RUnit) : FnSpec Try.prog 32 1000 [RUnit.enc u, .string ⟨#[82, 79, 82]⟩] [] (RUnit.enc (rSelf_ROR u)) [] := by
  exact rSelf_ROR_p1 u

/-- kotatsu/kotatsuref08.Self -/
def rSelf_INC (u : RUnit) : RUnit :=
  u
theorem rSelf_INC_p1 (u : RUnit) : FnSpec Try.prog 32 1000 [RUnit.enc u, .string ⟨#[73, 78, 67]⟩] [] (RUnit.enc u) [] := by
  exact fn_of_x hG hM Try.func32 (by kernel_rfl) (by kernel_rfl) 400 [.no, .no, .no, .no, .no, .no, .no, .no, .no, .no, .no, .no, .no, .no, .no, .no, .no, .no, .no, .no, .no] (And.intro (Eq.refl false) (And.intro (Eq.refl false) (And.intro (Eq.refl false) (And.intro (Eq.refl false) (And.intro (Eq.refl false) (And.intro (Eq.refl false) (And.intro (Eq.refl false) (And.intro (Eq.refl false) (And.intro (Eq.refl false) (And.intro (Eq.refl false) (And.intro (Eq.refl false) (And.intro (Eq.refl false) (And.intro (Eq.refl false) (And.intro (Eq.refl false) (And.intro (Eq.refl false) (And.intro (Eq.refl false) (And.intro (Eq.refl false) (And.intro (Eq.refl false) (And.intro (Eq.refl false) (And.intro (Eq.refl false) (And.intro (Eq.refl false) trivial))))))))))))))))))))) (by kernel_rfl)
theorem rSelf_INC_ok (u : RUnit) : FnSpec Try.prog 32 1000 [RUnit.enc u, .string ⟨#[73, 78, 67]⟩] [] (RUnit.enc (rSelf_INC u)) [] := by
  exact rSelf_INC_p1 u

/-- kotatsu/kotatsuref08.Self -/
def rSelf_DEC (u : RUnit) : RUnit :=
  u
theorem rSelf_DEC_p1 (u : RUnit) : FnSpec Try.prog 32 1000 [RUnit.enc u, .string ⟨#[68, 69, 67]⟩] [] (RUnit.enc u) [] := by
  exact fn_of_x hG hM Try.func32 (by kernel_rfl) (by kernel_rfl) 400 [.no, .no, .no, .no, .no, .no, .no, .no, .no, .no, .no, .no, .no, .no, .no, .no, .no, .no, .no, .no, .no] (And.intro (Eq.refl false) (And.intro (Eq.refl false) (And.intro (Eq.refl false) (And.intro (Eq.refl false) (And.intro (Eq.refl false) (And.intro (Eq.refl false) (And.intro (Eq.refl false) (And.intro (Eq.refl false) (And.intro (Eq.refl false) (And.intro (Eq.refl false) (And.intro (Eq.refl false) (And.intro (Eq.refl false) (And.intro (Eq.refl false) (And.intro (Eq.refl false) (And.intro (Eq.refl false) (And.intro (Eq.refl false) (And.intro (Eq.refl false) (And.intro (Eq.refl false) (And.intro (Eq.refl false) (And.intro (Eq.refl false) (And.intro (Eq.refl false) trivial))))))))))))))))))))) (by kernel_rfl)
theorem rSelf_DEC_ok (u : RUnit) : FnSpec Try.prog 32 1000 [RUnit.enc u, .string ⟨#[68, 69, 67]⟩] [] (RUnit.enc (rSelf_DEC u)) [] := by
  exact rSelf_DEC_p1 u

/-- kotatsu/kotatsuref08.Self -/
def rSelf_SLO (u : RUnit) : RUnit :=
  u
theorem rSelf_SLO_p1 (u : RUnit) : FnSpec Try.prog 32 1000 [RUnit.enc u, .string ⟨#[83, 76, 79]⟩] [] (RUnit.enc u) [] := by
  exact fn_of_x hG hM Try.func32 (by kernel_rfl) (by kernel_rfl) 400 [.no, .no, .no, .no, .no, .no, .no, .no, .no, .no, .no, .no, .no, .no, .no, .no, .no, .no, .no, .no, .no] (And.intro (Eq.refl false) (And.intro (Eq.refl false) (And.intro (Eq.refl false) (And.intro (Eq.refl false) (And.intro (Eq.refl false) (And.intro (Eq.refl false) (And.intro (Eq.refl false) (And.intro (Eq.refl false) (And.intro (Eq.refl false) (And.intro (Eq.refl false) (And.intro (Eq.refl false) (And.intro (Eq.refl false) (And.intro (Eq.refl false) (And.intro (Eq.refl false) (And.intro (Eq.refl false) (And.intro (Eq.refl false) (And.intro (Eq.refl false) (And.intro (Eq.refl false) (And.intro (Eq.refl false) (And.intro (Eq.refl false) (And.intro (Eq.refl false) trivial))))))))))))))))))))) (by kernel_rfl)
theorem rSelf_SLO_ok (u : RUnit) : FnSpec Try.prog 32 1000 [RUnit.enc u, .string ⟨#[83, 76, 79]⟩] [] (RUnit.enc (rSelf_SLO u)) [] := by
  exact rSelf_SLO_p1 u

/-- kotatsu/kotatsuref08.Self -/
def rSelf_RLA (u : RUnit) : RUnit :=
  u
theorem rSelf_RLA_p1 (u : RUnit) : FnSpec Try.prog 32 1000 [RUnit.enc u, .string ⟨#[82, 76, 65]⟩] [] (RUnit.enc u) [] := by
  exact fn_of_x hG hM Try.func32 (by kernel_rfl) (by kernel_rfl) 400 [.no, .no, .no, .no, .no, .no, .no, .no, .no, .no, .no, .no, .no, .no, .no, .no, .no, .no, .no, .no, .no] (And.intro (Eq.refl false) (And.intro (Eq.refl false) (And.intro (Eq.refl false) (And.intro (Eq.refl false) (And.intro (Eq.refl false) (And.intro (Eq.refl false) (And.intro (Eq.refl false) (And.intro (Eq.refl false) (And.intro (Eq.refl false) (And.intro (Eq.refl false) (And.intro (Eq.refl false) (And.intro (Eq.refl false) (And.intro (Eq.refl false) (And.intro (Eq.refl false) (And.intro (Eq.refl false) (And.intro (Eq.refl false) (And.intro (Eq.refl false) (And.intro (Eq.refl false) (And.intro (Eq.refl false) (And.intro (Eq.refl false) (And.intro (Eq.refl false) trivial))))))))))))))))))))) (by kernel_rfl)
theorem rSelf_RLA_ok (u : RUnit) : FnSpec Try.prog 32 1000 [RUnit.enc u, .string ⟨#[82, 76, 65]⟩] [] (RUnit.enc (rSelf_RLA u)) [] := by
  exact rSelf_RLA_p1 u

/-- kotatsu/kotatsuref08.Self -/
def rSelf_SRE (u : RUnit) : RUnit :=
  u
theorem rSelf_SRE_p1 (u : RUnit) : FnSpec Try.prog 32 1000 [RUnit.enc u, .string ⟨#[83, 82, 69]⟩] [] (RUnit.enc u) [] := by
  exact fn_of_x hG hM Try.func32 (by kernel_rfl) (by kernel_rfl) 400 [.no, .no, .no, .no, .no, .no, .no, .no, .no, .no, .no, .no, .no, .no, .no, .no, .no, .no, .no, .no, .no] (And.intro (Eq.refl false) (And.intro (Eq.refl false) (And.intro (Eq.refl false) (And.intro (Eq.refl false) (And.intro (Eq.refl false) (And.intro (Eq.refl false) (And.intro (Eq.refl false) (And.intro (Eq.refl false) (And.intro (Eq.refl false) (And.intro (Eq.refl false) (And.intro (Eq.refl false) (And.intro (Eq.refl false) (And.intro (Eq.refl false) (And.intro (Eq.refl false) (And.intro (Eq.refl false) (And.intro (Eq.refl false) (And.intro (Eq.refl false) (And.intro (Eq.refl false) (And.intro (Eq.refl false) (And.intro (Eq.refl false) (And.intro (Eq.refl false) trivial))))))))))))))))))))) (by kernel_rfl)
theorem rSelf_SRE_ok (u : RUnit) : FnSpec Try.prog 32 1000 [RUnit.enc u, .string ⟨#[83, 82, 69]⟩] [] (RUnit.enc (rSelf_SRE u)) [] := by
  exact rSelf_SRE_p1 u

/-- kotatsu/kotatsuref08.Self -/
def rSelf_RRA (u : RUnit) : RUnit :=
  u
theorem rSelf_RRA_p1 (u : RUnit) : FnSpec Try.prog 32 1000 [RUnit.enc u, .string ⟨#[82, 82, 65]⟩] [] (RUnit.enc u) [] := by
  exact fn_of_x hG hM Try.func32 (by kernel_rfl) (by kernel_rfl) 400 [.no, .no, .no, .no, .no, .no, .no, .no, .no, .no, .no, .no, .no, .no, .no, .no, .no, .no, .no, .no, .no] (And.intro (Eq.refl false) (And.intro (Eq.refl false) (And.intro (Eq.refl false) (And.intro (Eq.refl false) (And.intro (Eq.refl false) (And.intro (Eq.refl false) (And.intro (Eq.refl false) (And.intro (Eq.refl false) (And.intro (Eq.refl false) (And.intro (Eq.refl false) (And.intro (Eq.refl false) (And.intro (Eq.refl false) (And.intro (Eq.refl false) (And.intro (Eq.refl false) (And.intro (Eq.refl false) (And.intro (Eq.refl false) (And.intro (Eq.refl false) (And.intro (Eq.refl false) (And.intro (Eq.refl false) (And.intro (Eq.refl false) (And.intro (Eq.refl false) trivial))))))))))))))))))))) (by kernel_rfl)
theorem rSelf_RRA_ok (u : RUnit) : FnSpec Try.prog 32 1000 [RUnit.enc u, .string ⟨#[82, 82, 65]⟩] [] (RUnit.enc (rSelf_RRA u)) [] := by
  exact rSelf_RRA_p1 u

/-- kotatsu/kotatsuref08.Self -/
def rSelf_DCP (u : RUnit) : RUnit :=
  u
theorem rSelf_DCP_p1 (u : RUnit) : FnSpec Try.prog 32 1000 [RUnit.enc u, .string ⟨#[68, 67, 80]⟩] [] (RUnit.enc u) [] := by
  exact fn_of_x hG hM Try.func32 (by kernel_rfl) (by kernel_rfl) 400 [.no, .no, .no, .no, .no, .no, .no, .no, .no, .no, .no, .no, .no, .no, .no, .no, .no, .no, .no, .no, .no] (And.intro (Eq.refl false) (And.intro (Eq.refl false) (And.intro (Eq.refl false) (And.intro (Eq.refl false) (And.intro (Eq.refl false) (And.intro (Eq.refl false) (And.intro (Eq.refl false) (And.intro (Eq.refl false) (And.intro (Eq.refl false) (And.intro (Eq.refl false) (And.intro (Eq.refl false) (And.intro (Eq.refl false) (And.intro (Eq.refl false) (And.intro (Eq.refl false) (And.intro (Eq.refl false) (And.intro (Eq.refl false) (And.intro (Eq.refl false) (And.intro (Eq.refl false) (And.intro (Eq.refl false) (And.intro (Eq.refl false) (And.intro (Eq.refl false) trivial))))))))))))))))))))) (by kernel_rfl)
theorem rSelf_DCP_ok (u : RUnit) : FnSpec Try.prog 32 1000 [RUnit.enc u, .string ⟨#[68, 67, 80]⟩] [] (RUnit.enc (rSelf_DCP u)) [] := by
  exact rSelf_DCP_p1 u

/-- kotatsu/kotatsuref08.Self -/
def rSelf_ISC (u : RUnit) : RUnit :=
  u
theorem rSelf_ISC_p1 (u : RUnit) : FnSpec Try.prog 32 1000 [RUnit.enc u, .string ⟨#[73, 83, 67]⟩] [] (RUnit.enc u) [] := by
  exact fn_of_x hG hM Try.func32 (by kernel_rfl) (by kernel_rfl) 400 [.no, .no, .no, .no, .no, .no, .no, .no, .no, .no, .no, .no, .no, .no, .no, .no, .no, .no, .no, .no, .no] (And.intro (Eq.refl false) (And.intro (Eq.refl false) (And.intro (Eq.refl false) (And.intro (Eq.refl false) (And.intro (Eq.refl false) (And.intro (Eq.refl false) (And.intro (Eq.refl false) (And.intro (Eq.refl false) (And.intro (Eq.refl false) (And.intro (Eq.refl false) (And.intro (Eq.refl false) (And.intro (Eq.refl false) (And.intro (Eq.refl false) (And.intro (Eq.refl false) (And.intro (Eq.refl false) (And.intro (Eq.refl false) (And.intro (Eq.refl false) (And.intro (Eq.refl false) (And.intro (Eq.refl false) (And.intro (Eq.refl false) (And.intro (Eq.refl false) trivial))))))))))))))))))))) (by kernel_rfl)
theorem rSelf_ISC_ok (u : RUnit) : FnSpec Try.prog 32 1000 [RUnit.enc u, .string ⟨#[73, 83, 67]⟩] [] (RUnit.enc (rSelf_ISC u)) [] := by
  exact rSelf_ISC_p1 u

/-- kotatsu/kotatsuref08.Self -/
def rSelf_STA (u : RUnit) : RUnit :=
  u
theorem rSelf_STA_p1 (u : RUnit) : FnSpec Try.prog 32 1000 [RUnit.enc u, .string ⟨#[83, 84, 65]⟩] [] (RUnit.enc u) [] := by
  exact fn_of_x hG hM Try.func32 (by kernel_rfl) (by kernel_rfl) 400 [.no, .no, .no, .no, .no, .no, .no, .no, .no, .no, .no, .no, .no, .no, .no, .no, .no, .no, .no, .no, .no] (And.intro (Eq.refl false) (And.intro (Eq.refl false) (And.intro (Eq.refl false) (And.intro (Eq.refl false) (And.intro (Eq.refl false) (And.intro (Eq.refl false) (And.intro (Eq.refl false) (And.intro (Eq.refl false) (And.intro (Eq.refl false) (And.intro (Eq.refl false) (And.intro (Eq.refl false) (And.intro (Eq.refl false) (And.intro (Eq.refl false) (And.intro (Eq.refl false) (And.intro (Eq.refl false) (And.intro (Eq.refl false) (And.intro (Eq.refl false) (And.intro (Eq.refl false) (And.intro (Eq.refl false) (And.intro (Eq.refl false) (And.intro (Eq.refl false) trivial))))))))))))))))))))) (by kernel_rfl)
theorem rSelf_STA_ok (u : RUnit) : FnSpec Try.prog 32 1000 [RUnit.enc u, .string ⟨#[83, 84, 65]⟩] [] (RUnit.enc (rSelf_STA u)) [] := by
  exact rSelf_STA_p1 u

/-- kotatsu/kotatsuref08.Self -/
def rSelf_STX (u : RUnit) : RUnit :=
  u
theorem rSelf_STX_p1 (u : RUnit) : FnSpec Try.prog 32 1000 [RUnit.enc u, .string ⟨#[83, 84, 88]⟩] [] (RUnit.enc u) [] := by
  exact fn_of_x hG hM Try.func32 (by kernel_rfl) (by kernel_rfl) 400 [.no, .no, .no, .no, .no, .no, .no, .no, .no, .no, .no, .no, .no, .no, .no, .no, .no, .no, .no, .no, .no] (And.intro (Eq.refl false) (And.intro (Eq.refl false) (And.intro (Eq.refl false) (And.intro (Eq.refl false) (And.intro (Eq.refl false) (And.intro (Eq.refl false) (And.intro (Eq.refl false) (And.intro (Eq.refl false) (And.intro (Eq.refl false) (And.intro (Eq.refl false) (And.intro (Eq.refl false) (And.intro (Eq.refl false) (And.intro (Eq.refl false) (And.intro (Eq.refl false) (And.intro (Eq.refl false) (And.intro (Eq.refl false) (And.intro (Eq.refl false) (And.intro (Eq.refl false) (And.intro (Eq.refl false) (And.intro (Eq.refl false) (And.intro (Eq.refl false) trivial))))))))))))))))))))) (by kernel_rfl)
theorem rSelf_STX_ok (u : RUnit) : FnSpec Try.prog 32 1000 [RUnit.enc u, .string ⟨#[83, 84, 88]⟩] [] (RUnit.enc (rSelf_STX u)) [] := by
  exact rSelf_STX_p1 u

/-- kotatsu/kotatsuref08.Self -/
def rSelf_STY (u : RUnit) : RUnit :=
  u
theorem rSelf_STY_p1 (u : RUnit) : FnSpec Try.prog 32 1000 [RUnit.enc u, .string ⟨#[83, 84, 89]⟩] [] (RUnit.enc u) [] := by
  exact fn_of_x hG hM Try.func32 (by kernel_rfl) (by kernel_rfl) 400 [.no, .no, .no, .no, .no, .no, .no, .no, .no, .no, .no, .no, .no, .no, .no, .no, .no, .no, .no, .no, .no] (And.intro (Eq.refl false) (And.intro (Eq.refl false) (And.intro (Eq.refl false) (And.intro (Eq.refl false) (And.intro (Eq.refl false) (And.intro (Eq.refl false) (And.intro (Eq.refl false) (And.intro (Eq.refl false) (And.intro (Eq.refl false) (And.intro (Eq.refl false) (And.intro (Eq.refl false) (And.intro (Eq.refl false) (And.intro (Eq.refl false) (And.intro (Eq.refl false) (And.intro (Eq.refl false) (And.intro (Eq.refl false) (And.intro (Eq.refl false) (And.intro (Eq.refl false) (And.intro (Eq.refl false) (And.intro (Eq.refl false) (And.intro (Eq.refl false) trivial))))))))))))))))))))) (by kernel_rfl)
theorem rSelf_STY_ok (u : RUnit) : FnSpec Try.prog 32 1000 [RUnit.enc u, .string ⟨#[83, 84, 89]⟩] [] (RUnit.enc (rSelf_STY u)) [] := by
  exact rSelf_STY_p1 u

/-- kotatsu/kotatsuref08.Self -/
def rSelf_SAX (u : RUnit) : RUnit :=
  u
theorem rSelf_SAX_p1 (u : RUnit) : FnSpec Try.prog 32 1000 [RUnit.enc u, .string ⟨#[83, 65, 88]⟩] [] (RUnit.enc u) [] := by
  exact fn_of_x hG hM Try.func32 (by kernel_rfl) (by kernel_rfl) 400 [.no, .no, .no, .no, .no, .no, .no, .no, .no, .no, .no, .no, .no, .no, .no, .no, .no, .no, .no, .no, .no] (And.intro (Eq.refl false) (And.intro (Eq.refl false) (And.intro (Eq.refl false) (And.intro (Eq.refl false) (And.intro (Eq.refl false) (And.intro (Eq.refl false) (And.intro (Eq.refl false) (And.intro (Eq.refl false) (And.intro (Eq.refl false) (And.intro (Eq.refl false) (And.intro (Eq.refl false) (And.intro (Eq.refl false) (And.intro (Eq.refl false) (And.intro (Eq.refl false) (And.intro (Eq.refl false) (And.intro (Eq.refl false) (And.intro (Eq.refl false) (And.intro (Eq.refl false) (And.intro (Eq.refl false) (And.intro (Eq.refl false) (And.intro (Eq.refl false) trivial))))))))))))))))))))) (by kernel_rfl)
theorem rSelf_SAX_ok (u : RUnit) : FnSpec Try.prog 32 1000 [RUnit.enc u, .string ⟨#[83, 65, 88]⟩] [] (RUnit.enc (rSelf_SAX u)) [] := by
  exact rSelf_SAX_p1 u

/-- kotatsu/kotatsuref08.Self -/
def rSelf_TAX (u : RUnit) : RUnit :=
  (rSign (rPut u 88 (rGet u 65)) (rGet u 65))
theorem rSelf_TAX_p1 (u : RUnit) : FnSpec Try.prog 32 1000 [RUnit.enc u, .string ⟨#[84, 65, 88]⟩] [] (RUnit.enc (rSign (rPut u 88 (rGet u 65)) (rGet u 65))) [] := by
  exact fn_of_x hG hM Try.func32 (by kernel_rfl) (by kernel_rfl) 400 [.no, .no, .no, .no, .no, .yes, .yes, .call [] [] 1000 (.int .i64 (rGet u 65)) [], .call [] [] 1000 (RUnit.enc (rPut u 88 (rGet u 65))) [], .call [] [] 1000 (RUnit.enc (rSign (rPut u 88 (rGet u 65)) (rGet u 65))) []] (And.intro (Eq.refl false) (And.intro (Eq.refl false) (And.intro (Eq.refl false) (And.intro (Eq.refl false) (And.intro (Eq.refl false) (And.intro (Eq.refl true) (And.intro (Eq.refl true) (And.intro (by decide : (0 : Int) ≤ 1 ∧ (1 : Int) < ((ByteArray.size ⟨#[84, 65, 88]⟩ : Nat) : Int)) (And.intro (rGet_ok u 65) (And.intro (by decide : (0 : Int) ≤ 2 ∧ (2 : Int) < ((ByteArray.size ⟨#[84, 65, 88]⟩ : Nat) : Int)) (And.intro (rPut_ok u 88 (rGet u 65)) (And.intro (rSign_ok (rPut u 88 (rGet u 65)) (rGet u 65)) trivial)))))))))))) (by kernel_rfl)
theorem rSelf_TAX_ok (u : RUnit) : FnSpec Try.prog 32 1000 [RUnit.enc u, .string ⟨#[84, 65, 88]⟩] [] (RUnit.enc (rSelf_TAX u)) [] := by
  exact rSelf_TAX_p1 u

/-- kotatsu/kotatsuref08.Self -/
def rSelf_TAY (u : RUnit) : RUnit :=
  (rSign (rPut u 89 (rGet u 65)) (rGet u 65))
theorem rSelf_TAY_p1 (u : RUnit) : FnSpec Try.prog 32 1000 [RUnit.enc u, .string ⟨#[84, 65, 89]⟩] [] (RUnit.enc (rSign (rPut u 89 (rGet u 65)) (rGet u 65))) [] := by
  exact fn_of_x hG hM Try.func32 (by kernel_rfl) (by kernel_rfl) 400 [.no, .no, .no, .no, .no, .no, .yes, .yes, .call [] [] 1000 (.int .i64 (rGet u 65)) [], .call [] [] 1000 (RUnit.enc (rPut u 89 (rGet u 65))) [], .call [] [] 1000 (RUnit.enc (rSign (rPut u 89 (rGet u 65)) (rGet u 65))) []] (And.intro (Eq.refl false) (And.intro (Eq.refl false) (And.intro (Eq.refl false) (And.intro (Eq.refl false) (And.intro (Eq.refl false) (And.intro (Eq.refl false) (And.intro (Eq.refl true) (And.intro (Eq.refl true) (And.intro (by decide : (0 : Int) ≤ 1 ∧ (1 : Int) < ((ByteArray.size ⟨#[84, 65, 89]⟩ : Nat) : Int)) (And.intro (rGet_ok u 65) (And.intro (by decide : (0 : Int) ≤ 2 ∧ (2 : Int) < ((ByteArray.size ⟨#[84, 65, 89]⟩ : Nat) : Int)) (And.intro (rPut_ok u 89 (rGet u 65)) (And.intro (rSign_ok (rPut u 89 (rGet u 65)) (rGet u 65)) trivial))))))))))))) (by kernel_rfl)
theorem rSelf_TAY_ok (u : RUnit) : FnSpec Try.prog 32 1000 [RUnit.enc u, .string ⟨#[84, 65, 89]⟩] [] (RUnit.enc (rSelf_TAY u)) [] := by
  exact rSelf_TAY_p1 u

/-- kotatsu/kotatsuref08.Self -/
def rSelf_TXA (u : RUnit) : RUnit :=
  (rSign (rPut u 65 (rGet u 88)) (rGet u 88))
theorem rSelf_TXA_p1 (u : RUnit) : FnSpec Try.prog 32 1000 [RUnit.enc u, .string ⟨#[84, 88, 65]⟩] [] (RUnit.enc (rSign (rPut u 65 (rGet u 88)) (rGet u 88))) [] := by
  exact fn_of_x hG hM Try.func32 (by kernel_rfl) (by kernel_rfl) 400 [.no, .no, .no, .no, .no, .no, .no, .yes, .yes, .call [] [] 1000 (.int .i64 (rGet u 88)) [], .call [] [] 1000 (RUnit.enc (rPut u 65 (rGet u 88))) [], .call [] [] 1000 (RUnit.enc (rSign (rPut u 65 (rGet u 88)) (rGet u 88))) []] (And.intro (Eq.refl false) (And.intro (Eq.refl false) (And.intro (Eq.refl false) (And.intro (Eq.refl false) (And.intro (Eq.refl false) (And.intro (Eq.refl false) (And.intro (Eq.refl false) (And.intro (Eq.refl true) (And.intro (Eq.refl true) (And.intro (by decide : (0 : Int) ≤ 1 ∧ (1 : Int) < ((ByteArray.size ⟨#[84, 88, 65]⟩ : Nat) : Int)) (And.intro (rGet_ok u 88) (And.intro (by decide : (0 : Int) ≤ 2 ∧ (2 : Int) < ((ByteArray.size ⟨#[84, 88, 65]⟩ : Nat) : Int)) (And.intro (rPut_ok u 65 (rGet u 88)) (And.intro (rSign_ok (rPut u 65 (rGet u 88)) (rGet u 88)) trivial)))))))))))))) (by kernel_rfl)
theorem rSelf_TXA_ok (u : RUnit) : FnSpec Try.prog 32 1000 [RUnit.enc u, .string ⟨#[84, 88, 65]⟩] [] (RUnit.enc (rSelf_TXA u)) [] := by
  exact rSelf_TXA_p1 u

/-- kotatsu/kotatsuref08.Self -/
def rSelf_TYA (u : RUnit) : RUnit :=
  (rSign (rPut u 65 (rGet u 89)) (rGet u 89))
theorem rSelf_TYA_p1 (u : RUnit) : FnSpec Try.prog 32 1000 [RUnit.enc u, .string ⟨#[84, 89, 65]⟩] [] (RUnit.enc (rSign (rPut u 65 (rGet u 89)) (rGet u 89))) [] := by
  exact fn_of_x hG hM Try.func32 (by kernel_rfl) (by kernel_rfl) 400 [.no, .no, .no, .no, .no, .no, .no, .no, .yes, .yes, .call [] [] 1000 (.int .i64 (rGet u 89)) [], .call [] [] 1000 (RUnit.enc (rPut u 65 (rGet u 89))) [], .call [] [] 1000 (RUnit.enc (rSign (rPut u 65 (rGet u 89)) (rGet u 89))) []] (And.intro (Eq.refl false) (And.intro (Eq.refl false) (And.intro (Eq.refl false) (And.intro (Eq.refl false) (And.intro (Eq.refl false) (And.intro (Eq.refl false) (And.intro (Eq.refl false) (And.intro (Eq.refl false) (And.intro (Eq.refl true) (And.intro (Eq.refl true) (And.intro (by decide : (0 : Int) ≤ 1 ∧ (1 : Int) < ((ByteArray.size ⟨#[84, 89, 65]⟩ : Nat) : Int)) (And.intro (rGet_ok u 89) (And.intro (by decide : (0 : Int) ≤ 2 ∧ (2 : Int) < ((ByteArray.size ⟨#[84, 89, 65]⟩ : Nat) : Int)) (And.intro (rPut_ok u 65 (rGet u 89)) (And.intro (rSign_ok (rPut u 65 (rGet u 89)) (rGet u 89)) trivial))))))))))))))) (by kernel_rfl)
theorem rSelf_TYA_ok (u : RUnit) : FnSpec Try.prog 32 1000 [RUnit.enc u, .string ⟨#[84, 89, 65]⟩] [] (RUnit.enc (rSelf_TYA u)) [] := by
  exact rSelf_TYA_p1 u

/-- kotatsu/kotatsuref08.Self -/
def rSelf_TSX (u : RUnit) : RUnit :=
  (rSign (rPut u 88 (rGet u 83)) (rGet u 83))
theorem rSelf_TSX_p1 (u : RUnit) : FnSpec Try.prog 32 1000 [RUnit.enc u, .string ⟨#[84, 83, 88]⟩] [] (RUnit.enc (rSign (rPut u 88 (rGet u 83)) (rGet u 83))) [] := by
  exact fn_of_x hG hM Try.func32 (by kernel_rfl) (by kernel_rfl) 400 [.no, .no, .no, .no, .no, .no, .no, .no, .no, .yes, .call [] [] 1000 (.int .i64 (rGet u 83)) [], .call [] [] 1000 (RUnit.enc (rPut u 88 (rGet u 83))) [], .call [] [] 1000 (RUnit.enc (rSign (rPut u 88 (rGet u 83)) (rGet u 83))) []] (And.intro (Eq.refl false) (And.intro (Eq.refl false) (And.intro (Eq.refl false) (And.intro (Eq.refl false) (And.intro (Eq.refl false) (And.intro (Eq.refl false) (And.intro (Eq.refl false) (And.intro (Eq.refl false) (And.intro (Eq.refl false) (And.intro (Eq.refl true) (And.intro (by decide : (0 : Int) ≤ 1 ∧ (1 : Int) < ((ByteArray.size ⟨#[84, 83, 88]⟩ : Nat) : Int)) (And.intro (rGet_ok u 83) (And.intro (by decide : (0 : Int) ≤ 2 ∧ (2 : Int) < ((ByteArray.size ⟨#[84, 83, 88]⟩ : Nat) : Int)) (And.intro (rPut_ok u 88 (rGet u 83)) (And.intro (rSign_ok (rPut u 88 (rGet u 83)) (rGet u 83)) trivial))))))))))))))) (by kernel_rfl)
theorem rSelf_TSX_ok (u : RUnit) : FnSpec Try.prog 32 1000 [RUnit.enc u, .string ⟨#[84, 83, 88]⟩] [] (RUnit.enc (rSelf_TSX u)) [] := by
  exact rSelf_TSX_p1 u

/-- kotatsu/kotatsuref08.Self -/
def rSelf_TXS (u : RUnit) : RUnit :=
  ({ A := u.A, X := u.X, Y := u.Y, S := u.X, P := u.P } : RUnit)
theorem rSelf_TXS_p1 (u : RUnit) : FnSpec Try.prog 32 1000 [RUnit.enc u, .string ⟨#[84, 88, 83]⟩] [] (RUnit.enc ({ A := u.A, X := u.X, Y := u.Y, S := u.X, P := u.P } : RUnit)) [] := by
  exact fn_of_x hG hM Try.func32 (by kernel_rfl) (by kernel_rfl) 400 [.no, .no, .no, .no, .yes] (And.intro (Eq.refl false) (And.intro (Eq.refl false) (And.intro (Eq.refl false) (And.intro (Eq.refl false) (And.intro (Eq.refl true) trivial))))) (by kernel_rfl)
theorem rSelf_TXS_ok (u : RUnit) : FnSpec Try.prog 32 1000 [RUnit.enc u, .string ⟨#[84, 88, 83]⟩] [] (RUnit.enc (rSelf_TXS u)) [] := by
  exact rSelf_TXS_p1 u

/-- kotatsu/kotatsuref08.Self -/
def rSelf_INX (u : RUnit) : RUnit :=
  (rSign (rPut u 88 (Int.tmod (IntKind.i64.wrap ((rGet u 88) + 1)) 256)) (Int.tmod (IntKind.i64.wrap ((rGet u 88) + 1)) 256))
theorem rSelf_INX_p1 (u : RUnit) : FnSpec Try.prog 32 1000 [RUnit.enc u, .string ⟨#[73, 78, 88]⟩] [] (RUnit.enc (rSign (rPut u 88 (Int.tmod (IntKind.i64.wrap ((rGet u 88) + 1)) 256)) (Int.tmod (IntKind.i64.wrap ((rGet u 88) + 1)) 256))) [] := by
  exact fn_of_x hG hM Try.func32 (by kernel_rfl) (by kernel_rfl) 400 [.no, .no, .no, .no, .no, .no, .no, .no, .no, .no, .yes, .yes, .call [] [] 1000 (.int .i64 (rGet u 88)) [], .call [] [] 1000 (RUnit.enc (rPut u 88 (Int.tmod (IntKind.i64.wrap ((rGet u 88) + 1)) 256))) [], .call [] [] 1000 (RUnit.enc (rSign (rPut u 88 (Int.tmod (IntKind.i64.wrap ((rGet u 88) + 1)) 256)) (Int.tmod (IntKind.i64.wrap ((rGet u 88) + 1)) 256))) []] (And.intro (Eq.refl false) (And.intro (Eq.refl false) (And.intro (Eq.refl false) (And.intro (Eq.refl false) (And.intro (Eq.refl false) (And.intro (Eq.refl false) (And.intro (Eq.refl false) (And.intro (Eq.refl false) (And.intro (Eq.refl false) (And.intro (Eq.refl false) (And.intro (Eq.refl true) (And.intro (Eq.refl true) (And.intro (by decide : (0 : Int) ≤ 2 ∧ (2 : Int) < ((ByteArray.size ⟨#[73, 78, 88]⟩ : Nat) : Int)) (And.intro (rGet_ok u 88) (And.intro (by decide : ((256 : Int) ≠ 0)) (And.intro (by decide : (0 : Int) ≤ 2 ∧ (2 : Int) < ((ByteArray.size ⟨#[73, 78, 88]⟩ : Nat) : Int)) (And.intro (rPut_ok u 88 (Int.tmod (IntKind.i64.wrap ((rGet u 88) + 1)) 256)) (And.intro (rSign_ok (rPut u 88 (Int.tmod (IntKind.i64.wrap ((rGet u 88) + 1)) 256)) (Int.tmod (IntKind.i64.wrap ((rGet u 88) + 1)) 256)) trivial)))))))))))))))))) (by kernel_rfl)
theorem rSelf_INX_ok (u : RUnit) : FnSpec Try.prog 32 1000 [RUnit.enc u, .string ⟨#[73, 78, 88]⟩] [] (RUnit.enc (rSelf_INX u)) [] := by
  exact rSelf_INX_p1 u

/-- kotatsu/kotatsuref08.Self -/
def rSelf_INY (u : RUnit) : RUnit :=
  (rSign (rPut u 89 (Int.tmod (IntKind.i64.wrap ((rGet u 89) + 1)) 256)) (Int.tmod (IntKind.i64.wrap ((rGet u 89) + 1)) 256))
theorem rSelf_INY_p1 (u : RUnit) : FnSpec Try.prog 32 1000 [RUnit.enc u, .string ⟨#[73, 78, 89]⟩] [] (RUnit.enc (rSign (rPut u 89 (Int.tmod (IntKind.i64.wrap ((rGet u 89) + 1)) 256)) (Int.tmod (IntKind.i64.wrap ((rGet u 89) + 1)) 256))) [] := by
  exact fn_of_x hG hM Try.func32 (by kernel_rfl) (by kernel_rfl) 400 [.no, .no, .no, .no, .no, .no, .no, .no, .no, .no, .no, .yes, .call [] [] 1000 (.int .i64 (rGet u 89)) [], .call [] [] 1000 (RUnit.enc (rPut u 89 (Int.tmod (IntKind.i64.wrap ((rGet u 89) + 1)) 256))) [], .call [] [] 1000 (RUnit.enc (rSign (rPut u 89 (Int.tmod (IntKind.i64.wrap ((rGet u 89) + 1)) 256)) (Int.tmod (IntKind.i64.wrap ((rGet u 89) + 1)) 256))) []] (And.intro (Eq.refl false) (And.intro (Eq.refl false) (And.intro (Eq.refl false) (And.intro (Eq.refl false) (And.intro (Eq.refl false) (And.intro (Eq.refl false) (And.intro (Eq.refl false) (And.intro (Eq.refl false) (And.intro (Eq.refl false) (And.intro (Eq.refl false) (And.intro (Eq.refl false) (And.intro (Eq.refl true) (And.intro (by decide : (0 : Int) ≤ 2 ∧ (2 : Int) < ((ByteArray.size ⟨#[73, 78, 89]⟩ : Nat) : Int)) (And.intro (rGet_ok u 89) (And.intro (by decide : ((256 : Int) ≠ 0)) (And.intro (by decide : (0 : Int) ≤ 2 ∧ (2 : Int) < ((ByteArray.size ⟨#[73, 78, 89]⟩ : Nat) : Int)) (And.intro (rPut_ok u 89 (Int.tmod (IntKind.i64.wrap ((rGet u 89) + 1)) 256)) (And.intro (rSign_ok (rPut u 89 (Int.tmod (IntKind.i64.wrap ((rGet u 89) + 1)) 256)) (Int.tmod (IntKind.i64.wrap ((rGet u 89) + 1)) 256)) trivial)))))))))))))))))) (by kernel_rfl)
theorem rSelf_INY_ok (u : RUnit) : FnSpec Try.prog 32 1000 [RUnit.enc u, .string ⟨#[73, 78, 89]⟩] [] (RUnit.enc (rSelf_INY u)) [] := by
  exact rSelf_INY_p1 u

/-- kotatsu/kotatsuref08.Self -/
def rSelf_DEX (u : RUnit) : RUnit :=
  (rSign (rPut u 88 (Int.tmod (IntKind.i64.wrap ((rGet u 88) + 255)) 256)) (Int.tmod (IntKind.i64.wrap ((rGet u 88) + 255)) 256))
theorem rSelf_DEX_p1 (u : RUnit) : FnSpec Try.prog 32 1000 [RUnit.enc u, .string ⟨#[68, 69, 88]⟩] [] (RUnit.enc (rSign (rPut u 88 (Int.tmod (IntKind.i64.wrap ((rGet u 88) + 255)) 256)) (Int.tmod (IntKind.i64.wrap ((rGet u 88) + 255)) 256))) [] := by
  exact fn_of_x hG hM Try.func32 (by kernel_rfl) (by kernel_rfl) 400 [.no, .no, .no, .no, .no, .no, .no, .no, .no, .no, .no, .no, .yes, .yes, .call [] [] 1000 (.int .i64 (rGet u 88)) [], .call [] [] 1000 (RUnit.enc (rPut u 88 (Int.tmod (IntKind.i64.wrap ((rGet u 88) + 255)) 256))) [], .call [] [] 1000 (RUnit.enc (rSign (rPut u 88 (Int.tmod (IntKind.i64.wrap ((rGet u 88) + 255)) 256)) (Int.tmod (IntKind.i64.wrap ((rGet u 88) + 255)) 256))) []] (And.intro (Eq.refl false) (And.intro (Eq.refl false) (And.intro (Eq.refl false) (And.intro (Eq.refl false) (And.intro (Eq.refl false) (And.intro (Eq.refl false) (And.intro (Eq.refl false) (And.intro (Eq.refl false) (And.intro (Eq.refl false) (And.intro (Eq.refl false) (And.intro (Eq.refl false) (And.intro (Eq.refl false) (And.intro (Eq.refl true) (And.intro (Eq.refl true) (And.intro (by decide : (0 : Int) ≤ 2 ∧ (2 : Int) < ((ByteArray.size ⟨#[68, 69, 88]⟩ : Nat) : Int)) (And.intro (rGet_ok u 88) (And.intro (by decide : ((256 : Int) ≠ 0)) (And.intro (by decide : (0 : Int) ≤ 2 ∧ (2 : Int) < ((ByteArray.size ⟨#[68, 69, 88]⟩ : Nat) : Int)) (And.intro (rPut_ok u 88 (Int.tmod (IntKind.i64.wrap ((rGet u 88) + 255)) 256)) (And.intro (rSign_ok (rPut u 88 (Int.tmod (IntKind.i64.wrap ((rGet u 88) + 255)) 256)) (Int.tmod (IntKind.i64.wrap ((rGet u 88) + 255)) 256)) trivial)))))))))))))))))))) (by kernel_rfl)
theorem rSelf_DEX_ok (u : RUnit) : FnSpec Try.prog 32 1000 [RUnit.enc u, .string ⟨#[68, 69, 88]⟩] [] (RUnit.enc (rSelf_DEX u)) [] := by
  exact rSelf_DEX_p1 u

/-- kotatsu/kotatsuref08.Self -/
def rSelf_DEY (u : RUnit) : RUnit :=
  (rSign (rPut u 89 (Int.tmod (IntKind.i64.wrap ((rGet u 89) + 255)) 256)) (Int.tmod (IntKind.i64.wrap ((rGet u 89) + 255)) 256))
theorem rSelf_DEY_p1 (u : RUnit) : FnSpec Try.prog 32 1000 [RUnit.enc u, .string ⟨#[68, 69, 89]⟩] [] (RUnit.enc (rSign (rPut u 89 (Int.tmod (IntKind.i64.wrap ((rGet u 89) + 255)) 256)) (Int.tmod (IntKind.i64.wrap ((rGet u 89) + 255)) 256))) [] := by
  exact fn_of_x hG hM Try.func32 (by kernel_rfl) (by kernel_rfl) 400 [.no, .no, .no, .no, .no, .no, .no, .no, .no, .no, .no, .no, .no, .yes, .call [] [] 1000 (.int .i64 (rGet u 89)) [], .call [] [] 1000 (RUnit.enc (rPut u 89 (Int.tmod (IntKind.i64.wrap ((rGet u 89) + 255)) 256))) [], .call [] [] 1000 (RUnit.enc (rSign (rPut u 89 (Int.tmod (IntKind.i64.wrap ((rGet u 89) + 255)) 256)) (Int.tmod (IntKind.i64.wrap ((rGet u 89) + 255)) 256))) []] (And.intro (Eq.refl false) (And.intro (Eq.refl false) (And.intro (Eq.refl false) (And.intro (Eq.refl false) (And.intro (Eq.refl false) (And.intro (Eq.refl false) (And.intro (Eq.refl false) (And.intro (Eq.refl false) (And.intro (Eq.refl false) (And.intro (Eq.refl false) (And.intro (Eq.refl false) (And.intro (Eq.refl false) (And.intro (Eq.refl false) (And.intro (Eq.refl true) (And.intro (by decide : (0 : Int) ≤ 2 ∧ (2 : Int) < ((ByteArray.size ⟨#[68, 69, 89]⟩ : Nat) : Int)) (And.intro (rGet_ok u 89) (And.intro (by decide : ((256 : Int) ≠ 0)) (And.intro (by decide : (0 : Int) ≤ 2 ∧ (2 : Int) < ((ByteArray.size ⟨#[68, 69, 89]⟩ : Nat) : Int)) (And.intro (rPut_ok u 89 (Int.tmod (IntKind.i64.wrap ((rGet u 89) + 255)) 256)) (And.intro (rSign_ok (rPut u 89 (Int.tmod (IntKind.i64.wrap ((rGet u 89) + 255)) 256)) (Int.tmod (IntKind.i64.wrap ((rGet u 89) + 255)) 256)) trivial)))))))))))))))))))) (by kernel_rfl)
theorem rSelf_DEY_ok (u : RUnit) : FnSpec Try.prog 32 1000 [RUnit.enc u, .string ⟨#[68, 69, 89]⟩] [] (RUnit.enc (rSelf_DEY u)) [] := by
  exact rSelf_DEY_p1 u

/-- kotatsu/kotatsuref08.Self -/
def rSelf_CLC (u : RUnit) : RUnit :=
  (rSet u 1 0)
theorem rSelf_CLC_p1 (u : RUnit) : FnSpec Try.prog 32 1000 [RUnit.enc u, .string ⟨#[67, 76, 67]⟩] [] (RUnit.enc (rSet u 1 0)) [] := by
  have o1 : (1 : Int) ≠ 0 := by first | decide | omega
  exact fn_of_x hG hM Try.func32 (by kernel_rfl) (by kernel_rfl) 400 [.no, .no, .no, .no, .no, .no, .no, .no, .no, .no, .no, .no, .no, .no, .yes, .yes, .call [] [] 1000 (.int .i64 1) [], .call [] [] 1000 (RUnit.enc (rSet u 1 0)) []] (And.intro (Eq.refl false) (And.intro (Eq.refl false) (And.intro (Eq.refl false) (And.intro (Eq.refl false) (And.intro (Eq.refl false) (And.intro (Eq.refl false) (And.intro (Eq.refl false) (And.intro (Eq.refl false) (And.intro (Eq.refl false) (And.intro (Eq.refl false) (And.intro (Eq.refl false) (And.intro (Eq.refl false) (And.intro (Eq.refl false) (And.intro (Eq.refl false) (And.intro (Eq.refl true) (And.intro (Eq.refl true) (And.intro (by decide : (0 : Int) ≤ 2 ∧ (2 : Int) < ((ByteArray.size ⟨#[67, 76, 67]⟩ : Nat) : Int)) (And.intro (rFlag_ok 67) (And.intro (rSet_ok u 1 0 o1) trivial))))))))))))))))))) (by kernel_rfl)
theorem rSelf_CLC_ok (u : RUnit) : FnSpec Try.prog 32 1000 [RUnit.enc u, .string ⟨#[67, 76, 67]⟩] [] (RUnit.enc (rSelf_CLC u)) [] := by
  exact rSelf_CLC_p1 u

/-- kotatsu/kotatsuref08.Self -/
def rSelf_SEC (u : RUnit) : RUnit :=
  (rSet u 1 1)
theorem rSelf_SEC_p1 (u : RUnit) : FnSpec Try.prog 32 1000 [RUnit.enc u, .string ⟨#[83, 69, 67]⟩] [] (RUnit.enc (rSet u 1 1)) [] := by
  have o1 : (1 : Int) ≠ 0 := by first | decide | omega
  exact fn_of_x hG hM Try.func32 (by kernel_rfl) (by kernel_rfl) 400 [.no, .no, .no, .no, .no, .no, .no, .no, .no, .no, .no, .no, .no, .no, .no, .no, .no, .no, .yes, .yes, .call [] [] 1000 (.int .i64 1) [], .call [] [] 1000 (RUnit.enc (rSet u 1 1)) []] (And.intro (Eq.refl false) (And.intro (Eq.refl false) (And.intro (Eq.refl false) (And.intro (Eq.refl false) (And.intro (Eq.refl false) (And.intro (Eq.refl false) (And.intro (Eq.refl false) (And.intro (Eq.refl false) (And.intro (Eq.refl false) (And.intro (Eq.refl false) (And.intro (Eq.refl false) (And.intro (Eq.refl false) (And.intro (Eq.refl false) (And.intro (Eq.refl false) (And.intro (Eq.refl false) (And.intro (Eq.refl false) (And.intro (Eq.refl false) (And.intro (Eq.refl false) (And.intro (Eq.refl true) (And.intro (Eq.refl true) (And.intro (by decide : (0 : Int) ≤ 2 ∧ (2 : Int) < ((ByteArray.size ⟨#[83, 69, 67]⟩ : Nat) : Int)) (And.intro (rFlag_ok 67) (And.intro (rSet_ok u 1 1 o1) trivial))))))))))))))))))))))) (by kernel_rfl)
theorem rSelf_SEC_ok (u : RUnit) : FnSpec Try.prog 32 1000 [RUnit.enc u, .string ⟨#[83, 69, 67]⟩] [] (RUnit.enc (rSelf_SEC u)) [] := by
  exact rSelf_SEC_p1 u

/-- kotatsu/kotatsuref08.Self -/
def rSelf_CLI (u : RUnit) : RUnit :=
  (rSet u 4 0)
theorem rSelf_CLI_p1 (u : RUnit) : FnSpec Try.prog 32 1000 [RUnit.enc u, .string ⟨#[67, 76, 73]⟩] [] (RUnit.enc (rSet u 4 0)) [] := by
  have o1 : (4 : Int) ≠ 0 := by first | decide | omega
  exact fn_of_x hG hM Try.func32 (by kernel_rfl) (by kernel_rfl) 400 [.no, .no, .no, .no, .no, .no, .no, .no, .no, .no, .no, .no, .no, .no, .no, .yes, .yes, .call [] [] 1000 (.int .i64 4) [], .call [] [] 1000 (RUnit.enc (rSet u 4 0)) []] (And.intro (Eq.refl false) (And.intro (Eq.refl false) (And.intro (Eq.refl false) (And.intro (Eq.refl false) (And.intro (Eq.refl false) (And.intro (Eq.refl false) (And.intro (Eq.refl false) (And.intro (Eq.refl false) (And.intro (Eq.refl false) (And.intro (Eq.refl false) (And.intro (Eq.refl false) (And.intro (Eq.refl false) (And.intro (Eq.refl false) (And.intro (Eq.refl false) (And.intro (Eq.refl false) (And.intro (Eq.refl true) (And.intro (Eq.refl true) (And.intro (by decide : (0 : Int) ≤ 2 ∧ (2 : Int) < ((ByteArray.size ⟨#[67, 76, 73]⟩ : Nat) : Int)) (And.intro (rFlag_ok 73) (And.intro (rSet_ok u 4 0 o1) trivial)))))))))))))))))))) (by kernel_rfl)
theorem rSelf_CLI_ok (u : RUnit) : FnSpec Try.prog 32 1000 [RUnit.enc u, .string ⟨#[67, 76, 73]⟩] [] (RUnit.enc (rSelf_CLI u)) [] := by
  exact rSelf_CLI_p1 u

/-- kotatsu/kotatsuref08.Self -/
def rSelf_SEI (u : RUnit) : RUnit :=
  (rSet u 4 1)
theorem rSelf_SEI_p1 (u : RUnit) : FnSpec Try.prog 32 1000 [RUnit.enc u, .string ⟨#[83, 69, 73]⟩] [] (RUnit.enc (rSet u 4 1)) [] := by
  have o1 : (4 : Int) ≠ 0 := by first | decide | omega
  exact fn_of_x hG hM Try.func32 (by kernel_rfl) (by kernel_rfl) 400 [.no, .no, .no, .no, .no, .no, .no, .no, .no, .no, .no, .no, .no, .no, .no, .no, .no, .no, .no, .yes, .yes, .call [] [] 1000 (.int .i64 4) [], .call [] [] 1000 (RUnit.enc (rSet u 4 1)) []] (And.intro (Eq.refl false) (And.intro (Eq.refl false) (And.intro (Eq.refl false) (And.intro (Eq.refl false) (And.intro (Eq.refl false) (And.intro (Eq.refl false) (And.intro (Eq.refl false) (And.intro (Eq.refl false) (And.intro (Eq.refl false) (And.intro (Eq.refl false) (And.intro (Eq.refl false) (And.intro (Eq.refl false) (And.intro (Eq.refl false) (And.intro (Eq.refl false) (And.intro (Eq.refl false) (And.intro (Eq.refl false) (And.intro (Eq.refl false) (And.intro (Eq.refl false) (And.intro (Eq.refl false) (And.intro (Eq.refl true) (And.intro (Eq.refl true) (And.intro (by decide : (0 : Int) ≤ 2 ∧ (2 : Int) < ((ByteArray.size ⟨#[83, 69, 73]⟩ : Nat) : Int)) (And.intro (rFlag_ok 73) (And.intro (rSet_ok u 4 1 o1) trivial)))))))))))))))))))))))) (by kernel_rfl)
theorem rSelf_SEI_ok (u : RUnit) : FnSpec Try.prog 32 1000 [RUnit.enc u, .string ⟨#[83, 69, 73]⟩] [] (RUnit.enc (rSelf_SEI u)) [] := by
  exact rSelf_SEI_p1 u

/-- kotatsu/kotatsuref08.Self -/
def rSelf_CLV (u : RUnit) : RUnit :=
  (rSet u 64 0)
theorem rSelf_CLV_p1 (u : RUnit) : FnSpec Try.prog 32 1000 [RUnit.enc u, .string ⟨#[67, 76, 86]⟩] [] (RUnit.enc (rSet u 64 0)) [] := by
  have o1 : (64 : Int) ≠ 0 := by first | decide | omega
  exact fn_of_x hG hM Try.func32 (by kernel_rfl) (by kernel_rfl) 400 [.no, .no, .no, .no, .no, .no, .no, .no, .no, .no, .no, .no, .no, .no, .no, .no, .yes, .yes, .call [] [] 1000 (.int .i64 64) [], .call [] [] 1000 (RUnit.enc (rSet u 64 0)) []] (And.intro (Eq.refl false) (And.intro (Eq.refl false) (And.intro (Eq.refl false) (And.intro (Eq.refl false) (And.intro (Eq.refl false) (And.intro (Eq.refl false) (And.intro (Eq.refl false) (And.intro (Eq.refl false) (And.intro (Eq.refl false) (And.intro (Eq.refl false) (And.intro (Eq.refl false) (And.intro (Eq.refl false) (And.intro (Eq.refl false) (And.intro (Eq.refl false) (And.intro (Eq.refl false) (And.intro (Eq.refl false) (And.intro (Eq.refl true) (And.intro (Eq.refl true) (And.intro (by decide : (0 : Int) ≤ 2 ∧ (2 : Int) < ((ByteArray.size ⟨#[67, 76, 86]⟩ : Nat) : Int)) (And.intro (rFlag_ok 86) (And.intro (rSet_ok u 64 0 o1) trivial))))))))))))))))))))) (by kernel_rfl)
theorem rSelf_CLV_ok (u : RUnit) : FnSpec Try.prog 32 1000 [RUnit.enc u, .string ⟨#[67, 76, 86]⟩] [] (RUnit.enc (rSelf_CLV u)) [] := by
  exact rSelf_CLV_p1 u

/-- kotatsu/kotatsuref08.Self -/
def rSelf_CLD (u : RUnit) : RUnit :=
  (rSet u 8 0)
theorem rSelf_CLD_p1 (u : RUnit) : FnSpec Try.prog 32 1000 [RUnit.enc u, .string ⟨#[67, 76, 68]⟩] [] (RUnit.enc (rSet u 8 0)) [] := by
  have o1 : (8 : Int) ≠ 0 := by first | decide | omega
  exact fn_of_x hG hM Try.func32 (by kernel_rfl) (by kernel_rfl) 400 [.no, .no, .no, .no, .no, .no, .no, .no, .no, .no, .no, .no, .no, .no, .no, .no, .no, .yes, .call [] [] 1000 (.int .i64 8) [], .call [] [] 1000 (RUnit.enc (rSet u 8 0)) []] (And.intro (Eq.refl false) (And.intro (Eq.refl false) (And.intro (Eq.refl false) (And.intro (Eq.refl false) (And.intro (Eq.refl false) (And.intro (Eq.refl false) (And.intro (Eq.refl false) (And.intro (Eq.refl false) (And.intro (Eq.refl false) (And.intro (Eq.refl false) (And.intro (Eq.refl false) (And.intro (Eq.refl false) (And.intro (Eq.refl false) (And.intro (Eq.refl false) (And.intro (Eq.refl false) (And.intro (Eq.refl false) (And.intro (Eq.refl false) (And.intro (Eq.refl true) (And.intro (by decide : (0 : Int) ≤ 2 ∧ (2 : Int) < ((ByteArray.size ⟨#[67, 76, 68]⟩ : Nat) : Int)) (And.intro (rFlag_ok 68) (And.intro (rSet_ok u 8 0 o1) trivial))))))))))))))))))))) (by kernel_rfl)
theorem rSelf_CLD_ok (u : RUnit) : FnSpec Try.prog 32 1000 [RUnit.enc u, .string ⟨#[67, 76, 68]⟩] [] (RUnit.enc (rSelf_CLD u)) [] := by
  exact rSelf_CLD_p1 u

/-- kotatsu/kotatsuref08.Self -/
def rSelf_SED (u : RUnit) : RUnit :=
  (rSet u 8 1)
theorem rSelf_SED_p1 (u : RUnit) : FnSpec Try.prog 32 1000 [RUnit.enc u, .string ⟨#[83, 69, 68]⟩] [] (RUnit.enc (rSet u 8 1)) [] := by
  have o1 : (8 : Int) ≠ 0 := by first | decide | omega
  exact fn_of_x hG hM Try.func32 (by kernel_rfl) (by kernel_rfl) 400 [.no, .no, .no, .no, .no, .no, .no, .no, .no, .no, .no, .no, .no, .no, .no, .no, .no, .no, .no, .no, .yes, .call [] [] 1000 (.int .i64 8) [], .call [] [] 1000 (RUnit.enc (rSet u 8 1)) []] (And.intro (Eq.refl false) (And.intro (Eq.refl false) (And.intro (Eq.refl false) (And.intro (Eq.refl false) (And.intro (Eq.refl false) (And.intro (Eq.refl false) (And.intro (Eq.refl false) (And.intro (Eq.refl false) (And.intro (Eq.refl false) (And.intro (Eq.refl false) (And.intro (Eq.refl false) (And.intro (Eq.refl false) (And.intro (Eq.refl false) (And.intro (Eq.refl false) (And.intro (Eq.refl false) (And.intro (Eq.refl false) (And.intro (Eq.refl false) (And.intro (Eq.refl false) (And.intro (Eq.refl false) (And.intro (Eq.refl false) (And.intro (Eq.refl true) (And.intro (by decide : (0 : Int) ≤ 2 ∧ (2 : Int) < ((ByteArray.size ⟨#[83, 69, 68]⟩ : Nat) : Int)) (And.intro (rFlag_ok 68) (And.intro (rSet_ok u 8 1 o1) trivial)))))))))))))))))))))))) (by kernel_rfl)
theorem rSelf_SED_ok (u : RUnit) : FnSpec Try.prog 32 1000 [RUnit.enc u, .string ⟨#[83, 69, 68]⟩] [] (RUnit.enc (rSelf_SED u)) [] := by
  exact rSelf_SED_p1 u

/-- kotatsu/kotatsuref08.Self -/
def rSelf_BPL (u : RUnit) : RUnit :=
  u
theorem rSelf_BPL_p1 (u : RUnit) : FnSpec Try.prog 32 1000 [RUnit.enc u, .string ⟨#[66, 80, 76]⟩] [] (RUnit.enc u) [] := by
  exact fn_of_x hG hM Try.func32 (by kernel_rfl) (by kernel_rfl) 400 [.no, .no, .no, .no, .no, .no, .no, .no, .no, .no, .no, .no, .no, .no, .no, .no, .no, .no, .no, .no, .no] (And.intro (Eq.refl false) (And.intro (Eq.refl false) (And.intro (Eq.refl false) (And.intro (Eq.refl false) (And.intro (Eq.refl false) (And.intro (Eq.refl false) (And.intro (Eq.refl false) (And.intro (Eq.refl false) (And.intro (Eq.refl false) (And.intro (Eq.refl false) (And.intro (Eq.refl false) (And.intro (Eq.refl false) (And.intro (Eq.refl false) (And.intro (Eq.refl false) (And.intro (Eq.refl false) (And.intro (Eq.refl false) (And.intro (Eq.refl false) (And.intro (Eq.refl false) (And.intro (Eq.refl false) (And.intro (Eq.refl false) (And.intro (Eq.refl false) trivial))))))))))))))))))))) (by kernel_rfl)
theorem rSelf_BPL_ok (u : RUnit) : FnSpec Try.prog 32 1000 [RUnit.enc u, .string ⟨#[66, 80, 76]⟩] [] (RUnit.enc (rSelf_BPL u)) [] := by
  exact rSelf_BPL_p1 u

/-- kotatsu/kotatsuref08.Self -/
def rSelf_BMI (u : RUnit) : RUnit :=
  u
theorem rSelf_BMI_p1 (u : RUnit) : FnSpec Try.prog 32 1000 [RUnit.enc u, .string ⟨#[66, 77, 73]⟩] [] (RUnit.enc u) [] := by
  exact fn_of_x hG hM Try.func32 (by kernel_rfl) (by kernel_rfl) 400 [.no, .no, .no, .no, .no, .no, .no, .no, .no, .no, .no, .no, .no, .no, .no, .no, .no, .no, .no, .no, .no] (And.intro (Eq.refl false) (And.intro (Eq.refl false) (And.intro (Eq.refl false) (And.intro (Eq.refl false) (And.intro (Eq.refl false) (And.intro (Eq.refl false) (And.intro (Eq.refl false) (And.intro (Eq.refl false) (And.intro (Eq.refl false) (And.intro (Eq.refl false) (And.intro (Eq.refl false) (And.intro (Eq.refl false) (And.intro (Eq.refl false) (And.intro (Eq.refl false) (And.intro (Eq.refl false) (And.intro (Eq.refl false) (And.intro (Eq.refl false) (And.intro (Eq.refl false) (And.intro (Eq.refl false) (And.intro (Eq.refl false) (And.intro (Eq.refl false) trivial))))))))))))))))))))) (by kernel_rfl)
theorem rSelf_BMI_ok (u : RUnit) : FnSpec Try.prog 32 1000 [RUnit.enc u, .string ⟨#[66, 77, 73]⟩] [] (RUnit.enc (rSelf_BMI u)) [] := by
  exact rSelf_BMI_p1 u

/-- kotatsu/kotatsuref08.Self -/
def rSelf_BVC (u : RUnit) : RUnit :=
  u
theorem rSelf_BVC_p1 (u : RUnit) : FnSpec Try.prog 32 1000 [RUnit.enc u, .string ⟨#[66, 86, 67]⟩] [] (RUnit.enc u) [] := by
  exact fn_of_x hG hM Try.func32 (by kernel_rfl) (by kernel_rfl) 400 [.no, .no, .no, .no, .no, .no, .no, .no, .no, .no, .no, .no, .no, .no, .no, .no, .no, .no, .no, .no, .no] (And.intro (Eq.refl false) (And.intro (Eq.refl false) (And.intro (Eq.refl false) (And.intro (Eq.refl false) (And.intro (Eq.refl false) (And.intro (Eq.refl false) (And.intro (Eq.refl false) (And.intro (Eq.refl false) (And.intro (Eq.refl false) (And.intro (Eq.refl false) (And.intro (Eq.refl false) (And.intro (Eq.refl false) (And.intro (Eq.refl false) (And.intro (Eq.refl false) (And.intro (Eq.refl false) (And.intro (Eq.refl false) (And.intro (Eq.refl false) (And.intro (Eq.refl false) (And.intro (Eq.refl false) (And.intro (Eq.refl false) (And.intro (Eq.refl false) trivial))))))))))))))))))))) (by kernel_rfl)
theorem rSelf_BVC_ok (u : RUnit) : FnSpec Try.prog 32 1000 [RUnit.enc u, .string ⟨#[66, 86, 67]⟩] [] (RUnit.enc (rSelf_BVC u)) [] := by
  exact rSelf_BVC_p1 u

/-- kotatsu/kotatsuref08.Self -/
def rSelf_BVS (u : RUnit) : RUnit :=
  u
theorem rSelf_BVS_p1 (u : RUnit) : FnSpec Try.prog 32 1000 [RUnit.enc u, .string ⟨#[66, 86, 83]⟩] [] (RUnit.enc u) [] := by
  exact fn_of_x hG hM Try.func32 (by kernel_rfl) (by kernel_rfl) 400 [.no, .no, .no, .no, .no, .no, .no, .no, .no, .no, .no, .no, .no, .no, .no, .no, .no, .no, .no, .no, .no] (And.intro (Eq.refl false) (And.intro (Eq.refl false) (And.intro (Eq.refl false) (And.intro (Eq.refl false) (And.intro (Eq.refl false) (And.intro (Eq.refl false) (And.intro (Eq.refl false) (And.intro (Eq.refl false) (And.intro (Eq.refl false) (And.intro (Eq.refl false) (And.intro (Eq.refl false) (And.intro (Eq.refl false) (And.intro (Eq.refl false) (And.intro (Eq.refl false) (And.intro (Eq.refl false) (And.intro (Eq.refl false) (And.intro (Eq.refl false) (And.intro (Eq.refl false) (And.intro (Eq.refl false) (And.intro (Eq.refl false) (And.intro (Eq.refl false) trivial))))))))))))))))))))) (by kernel_rfl)
theorem rSelf_BVS_ok (u : RUnit) : FnSpec Try.prog 32 1000 [RUnit.enc u, .string ⟨#[66, 86, 83]⟩] [] (RUnit.enc (rSelf_BVS u)) [] := by
  exact rSelf_BVS_p1 u

/-- kotatsu/kotatsuref08.Self -/
def rSelf_BCC (u : RUnit) : RUnit :=
  u
theorem rSelf_BCC_p1 (u : RUnit) : FnSpec Try.prog 32 1000 [RUnit.enc u, .string ⟨#[66, 67, 67]⟩] [] (RUnit.enc u) [] := by
  exact fn_of_x hG hM Try.func32 (by kernel_rfl) (by kernel_rfl) 400 [.no, .no, .no, .no, .no, .no, .no, .no, .no, .no, .no, .no, .no, .no, .no, .no, .no, .no, .no, .no, .no] (And.intro (Eq.refl false) (And.intro (Eq.refl false) (And.intro (Eq.refl false) (And.intro (Eq.refl false) (And.intro (Eq.refl false) (And.intro (Eq.refl false) (And.intro (Eq.refl false) (And.intro (Eq.refl false) (And.intro (Eq.refl false) (And.intro (Eq.refl false) (And.intro (Eq.refl false) (And.intro (Eq.refl false) (And.intro (Eq.refl false) (And.intro (Eq.refl false) (And.intro (Eq.refl false) (And.intro (Eq.refl false) (And.intro (Eq.refl false) (And.intro (Eq.refl false) (And.intro (Eq.refl false) (And.intro (Eq.refl false) (And.intro (Eq.refl false) trivial))))))))))))))))))))) (by kernel_rfl)
theorem rSelf_BCC_ok (u : RUnit) : FnSpec Try.prog 32 1000 [RUnit.enc u, .string ⟨#[66, 67, 67]⟩] [] (RUnit.enc (rSelf_BCC u)) [] := by
  exact rSelf_BCC_p1 u

/-- kotatsu/kotatsuref08.Self -/
def rSelf_BCS (u : RUnit) : RUnit :=
  u
theorem rSelf_BCS_p1 (u : RUnit) : FnSpec Try.prog 32 1000 [RUnit.enc u, .string ⟨#[66, 67, 83]⟩] [] (RUnit.enc u) [] := by
  exact fn_of_x hG hM Try.func32 (by kernel_rfl) (by kernel_rfl) 400 [.no, .no, .no, .no, .no, .no, .no, .no, .no, .no, .no, .no, .no, .no, .no, .no, .no, .no, .no, .no, .no] (And.intro (Eq.refl false) (And.intro (Eq.refl false) (And.intro (Eq.refl false) (And.intro (Eq.refl false) (And.intro (Eq.refl false) (And.intro (Eq.refl false) (And.intro (Eq.refl false) (And.intro (Eq.refl false) (And.intro (Eq.refl false) (And.intro (Eq.refl false) (And.intro (Eq.refl false) (And.intro (Eq.refl false) (And.intro (Eq.refl false) (And.intro (Eq.refl false) (And.intro (Eq.refl false) (And.intro (Eq.refl false) (And.intro (Eq.refl false) (And.intro (Eq.refl false) (And.intro (Eq.refl false) (And.intro (Eq.refl false) (And.intro (Eq.refl false) trivial))))))))))))))))))))) (by kernel_rfl)
theorem rSelf_BCS_ok (u : RUnit) : FnSpec Try.prog 32 1000 [RUnit.enc u, .string ⟨#[66, 67, 83]⟩] [] (RUnit.enc (rSelf_BCS u)) [] := by
  exact rSelf_BCS_p1 u

/-- kotatsu/kotatsuref08.Self -/
def rSelf_BNE (u : RUnit) : RUnit :=
  u
theorem rSelf_BNE_p1 (u : RUnit) : FnSpec Try.prog 32 1000 [RUnit.enc u, .string ⟨#[66, 78, 69]⟩] [] (RUnit.enc u) [] := by
  exact fn_of_x hG hM Try.func32 (by kernel_rfl) (by kernel_rfl) 400 [.no, .no, .no, .no, .no, .no, .no, .no, .no, .no, .no, .no, .no, .no, .no, .no, .no, .no, .no, .no, .no] (And.intro (Eq.refl false) (And.intro (Eq.refl false) (And.intro (Eq.refl false) (And.intro (Eq.refl false) (And.intro (Eq.refl false) (And.intro (Eq.refl false) (And.intro (Eq.refl false) (And.intro (Eq.refl false) (And.intro (Eq.refl false) (And.intro (Eq.refl false) (And.intro (Eq.refl false) (And.intro (Eq.refl false) (And.intro (Eq.refl false) (And.intro (Eq.refl false) (And.intro (Eq.refl false) (And.intro (Eq.refl false) (And.intro (Eq.refl false) (And.intro (Eq.refl false) (And.intro (Eq.refl false) (And.intro (Eq.refl false) (And.intro (Eq.refl false) trivial))))))))))))))))))))) (by kernel_rfl)
theorem rSelf_BNE_ok (u : RUnit) : FnSpec Try.prog 32 1000 [RUnit.enc u, .string ⟨#[66, 78, 69]⟩] [] (RUnit.enc (rSelf_BNE u)) [] := by
  exact rSelf_BNE_p1 u

/-- kotatsu/kotatsuref08.Self -/
def rSelf_BEQ (u : RUnit) : RUnit :=
  u
theorem rSelf_BEQ_p1 (u : RUnit) : FnSpec Try.prog 32 1000 [RUnit.enc u, .string ⟨#[66, 69, 81]⟩] [] (RUnit.enc u) [] := by
  exact fn_of_x hG hM Try.func32 (by kernel_rfl) (by kernel_rfl) 400 [.no, .no, .no, .no, .no, .no, .no, .no, .no, .no, .no, .no, .no, .no, .no, .no, .no, .no, .no, .no, .no] (And.intro (Eq.refl false) (And.intro (Eq.refl false) (And.intro (Eq.refl false) (And.intro (Eq.refl false) (And.intro (Eq.refl false) (And.intro (Eq.refl false) (And.intro (Eq.refl false) (And.intro (Eq.refl false) (And.intro (Eq.refl false) (And.intro (Eq.refl false) (And.intro (Eq.refl false) (And.intro (Eq.refl false) (And.intro (Eq.refl false) (And.intro (Eq.refl false) (And.intro (Eq.refl false) (And.intro (Eq.refl false) (And.intro (Eq.refl false) (And.intro (Eq.refl false) (And.intro (Eq.refl false) (And.intro (Eq.refl false) (And.intro (Eq.refl false) trivial))))))))))))))))))))) (by kernel_rfl)
theorem rSelf_BEQ_ok (u : RUnit) : FnSpec Try.prog 32 1000 [RUnit.enc u, .string ⟨#[66, 69, 81]⟩] [] (RUnit.enc (rSelf_BEQ u)) [] := by
  exact rSelf_BEQ_p1 u

/-- kotatsu/kotatsuref08.Self -/
def rSelf_JMP (u : RUnit) : RUnit :=
  u
theorem rSelf_JMP_p1 (u : RUnit) : FnSpec Try.prog 32 1000 [RUnit.enc u, .string ⟨#[74, 77, 80]⟩] [] (RUnit.enc u) [] := by
  exact fn_of_x hG hM Try.func32 (by kernel_rfl) (by kernel_rfl) 400 [.no, .no, .no, .no, .no, .no, .no, .no, .no, .no, .no, .no, .no, .no, .no, .no, .no, .no, .no, .no, .no] (And.intro (Eq.refl false) (And.intro (Eq.refl false) (And.intro (Eq.refl false) (And.intro (Eq.refl false) (And.intro (Eq.refl false) (And.intro (Eq.refl false) (And.intro (Eq.refl false) (And.intro (Eq.refl false) (And.intro (Eq.refl false) (And.intro (Eq.refl false) (And.intro (Eq.refl false) (And.intro (Eq.refl false) (And.intro (Eq.refl false) (And.intro (Eq.refl false) (And.intro (Eq.refl false) (And.intro (Eq.refl false) (And.intro (Eq.refl false) (And.intro (Eq.refl false) (And.intro (Eq.refl false) (And.intro (Eq.refl false) (And.intro (Eq.refl false) trivial))))))))))))))))))))) (by kernel_rfl)
theorem rSelf_JMP_ok (u : RUnit) : FnSpec Try.prog 32 1000 [RUnit.enc u, .string ⟨#[74, 77, 80]⟩] [] (RUnit.enc (rSelf_JMP u)) [] := by
  exact rSelf_JMP_p1 u

/-- kotatsu/kotatsuref08.Self -/
def rSelf_JSR (u : RUnit) : RUnit :=
  u
theorem rSelf_JSR_p1 (u : RUnit) : FnSpec Try.prog 32 1000 [RUnit.enc u, .string ⟨#[74, 83, 82]⟩] [] (RUnit.enc u) [] := by
  exact fn_of_x hG hM Try.func32 (by kernel_rfl) (by kernel_rfl) 400 [.no, .no, .no, .no, .no, .no, .no, .no, .no, .no, .no, .no, .no, .no, .no, .no, .no, .no, .no, .no, .no] (And.intro (Eq.refl false) (And.intro (Eq.refl false) (And.intro (Eq.refl false) (And.intro (Eq.refl false) (And.intro (Eq.refl false) (And.intro (Eq.refl false) (And.intro (Eq.refl false) (And.intro (Eq.refl false) (And.intro (Eq.refl false) (And.intro (Eq.refl false) (And.intro (Eq.refl false) (And.intro (Eq.refl false) (And.intro (Eq.refl false) (And.intro (Eq.refl false) (And.intro (Eq.refl false) (And.intro (Eq.refl false) (And.intro (Eq.refl false) (And.intro (Eq.refl false) (And.intro (Eq.refl false) (And.intro (Eq.refl false) (And.intro (Eq.refl false) trivial))))))))))))))))))))) (by kernel_rfl)
theorem rSelf_JSR_ok (u : RUnit) : FnSpec Try.prog 32 1000 [RUnit.enc u, .string ⟨#[74, 83, 82]⟩] [] (RUnit.enc (rSelf_JSR u)) [] := by
  exact rSelf_JSR_p1 u

/-- kotatsu/kotatsuref08.Self -/
def rSelf_RTS (u : RUnit) : RUnit :=
  u
theorem rSelf_RTS_p1 (u : RUnit) : FnSpec Try.prog 32 1000 [RUnit.enc u, .string ⟨#[82, 84, 83]⟩] [] (RUnit.enc u) [] := by
  exact fn_of_x hG hM Try.func32 (by kernel_rfl) (by kernel_rfl) 400 [.no, .no, .no, .no, .no, .no, .no, .no, .no, .no, .no, .no, .no, .no, .no, .no, .no, .no, .no, .no, .no] (And.intro (Eq.refl false) (And.intro (Eq.refl false) (And.intro (Eq.refl false) (And.intro (Eq.refl false) (And.intro (Eq.refl false) (And.intro (Eq.refl false) (And.intro (Eq.refl false) (And.intro (Eq.refl false) (And.intro (Eq.refl false) (And.intro (Eq.refl false) (And.intro (Eq.refl false) (And.intro (Eq.refl false) (And.intro (Eq.refl false) (And.intro (Eq.refl false) (And.intro (Eq.refl false) (And.intro (Eq.refl false) (And.intro (Eq.refl false) (And.intro (Eq.refl false) (And.intro (Eq.refl false) (And.intro (Eq.refl false) (And.intro (Eq.refl false) trivial))))))))))))))))))))) (by kernel_rfl)
theorem rSelf_RTS_ok (u : RUnit) : FnSpec Try.prog 32 1000 [RUnit.enc u, .string ⟨#[82, 84, 83]⟩] [] (RUnit.enc (rSelf_RTS u)) [] := by
  exact rSelf_RTS_p1 u

/-- kotatsu/kotatsuref08.Self -/
def rSelf_RTI (u : RUnit) : RUnit :=
  u
theorem rSelf_RTI_p1 (u : RUnit) : FnSpec Try.prog 32 1000 [RUnit.enc u, .string ⟨#[82, 84, 73]⟩] [] (RUnit.enc u) [] := by
  exact fn_of_x hG hM Try.func32 (by kernel_rfl) (by kernel_rfl) 400 [.no, .no, .no, .no, .no, .no, .no, .no, .no, .no, .no, .no, .no, .no, .no, .no, .no, .no, .no, .no, .no] (And.intro (Eq.refl false) (And.intro (Eq.refl false) (And.intro (Eq.refl false) (And.intro (Eq.refl false) (And.intro (Eq.refl false) (And.intro (Eq.refl false) (And.intro (Eq.refl false) (And.intro (Eq.refl false) (And.intro (Eq.refl false) (And.intro (Eq.refl false) (And.intro (Eq.refl false) (And.intro (Eq.refl false) (And.intro (Eq.refl false) (And.intro (Eq.refl false) (And.intro (Eq.refl false) (And.intro (Eq.refl false) (And.intro (Eq.refl false) (And.intro (Eq.refl false) (And.intro (Eq.refl false) (And.intro (Eq.refl false) (And.intro (Eq.refl false) trivial))))))))))))))))))))) (by kernel_rfl)
theorem rSelf_RTI_ok (u : RUnit) : FnSpec Try.prog 32 1000 [RUnit.enc u, .string ⟨#[82, 84, 73]⟩] [] (RUnit.enc (rSelf_RTI u)) [] := by
  exact rSelf_RTI_p1 u

/-- kotatsu/kotatsuref08.Self -/
def rSelf_BRK (u : RUnit) : RUnit :=
  u
theorem rSelf_BRK_p1 (u : RUnit) : FnSpec Try.prog 32 1000 [RUnit.enc u, .string ⟨#[66, 82, 75]⟩] [] (RUnit.enc u) [] := by
  exact fn_of_x hG hM Try.func32 (by kernel_rfl) (by kernel_rfl) 400 [.no, .no, .no, .no, .no, .no, .no, .no, .no, .no, .no, .no, .no, .no, .no, .no, .no, .no, .no, .no, .no] (And.intro (Eq.refl false) (And.intro (Eq.refl false) (And.intro (Eq.refl false) (And.intro (Eq.refl false) (And.intro (Eq.refl false) (And.intro (Eq.refl false) (And.intro (Eq.refl false) (And.intro (Eq.refl false) (And.intro (Eq.refl false) (And.intro (Eq.refl false) (And.intro (Eq.refl false) (And.intro (Eq.refl false) (And.intro (Eq.refl false) (And.intro (Eq.refl false) (And.intro (Eq.refl false) (And.intro (Eq.refl false) (And.intro (Eq.refl false) (And.intro (Eq.refl false) (And.intro (Eq.refl false) (And.intro (Eq.refl false) (And.intro (Eq.refl false) trivial))))))))))))))))))))) (by kernel_rfl)
theorem rSelf_BRK_ok (u : RUnit) : FnSpec Try.prog 32 1000 [RUnit.enc u, .string ⟨#[66, 82, 75]⟩] [] (RUnit.enc (rSelf_BRK u)) [] := by
  exact rSelf_BRK_p1 u

/-- kotatsu/kotatsuref08.Self -/
def rSelf_PHA (u : RUnit) : RUnit :=
  u
theorem rSelf_PHA_p1 (u : RUnit) : FnSpec Try.prog 32 1000 [RUnit.enc u, .string ⟨#[80, 72, 65]⟩] [] (RUnit.enc u) [] := by
  exact fn_of_x hG hM Try.func32 (by kernel_rfl) (by kernel_rfl) 400 [.no, .no, .no, .no, .no, .no, .no, .no, .no, .no, .no, .no, .no, .no, .no, .no, .no, .no, .no, .no, .no] (And.intro (Eq.refl false) (And.intro (Eq.refl false) (And.intro (Eq.refl false) (And.intro (Eq.refl false) (And.intro (Eq.refl false) (And.intro (Eq.refl false) (And.intro (Eq.refl false) (And.intro (Eq.refl false) (And.intro (Eq.refl false) (And.intro (Eq.refl false) (And.intro (Eq.refl false) (And.intro (Eq.refl false) (And.intro (Eq.refl false) (And.intro (Eq.refl false) (And.intro (Eq.refl false) (And.intro (Eq.refl false) (And.intro (Eq.refl false) (And.intro (Eq.refl false) (And.intro (Eq.refl false) (And.intro (Eq.refl false) (And.intro (Eq.refl false) trivial))))))))))))))))))))) (by kernel_rfl)
theorem rSelf_PHA_ok (u : RUnit) : FnSpec Try.prog 32 1000 [RUnit.enc u, .string ⟨#[80, 72, 65]⟩] [] (RUnit.enc (rSelf_PHA u)) [] := by
  exact rSelf_PHA_p1 u

/-- kotatsu/kotatsuref08.Self -/
def rSelf_PHP (u : RUnit) : RUnit :=
  u
theorem rSelf_PHP_p1 (u : RUnit) : FnSpec Try.prog 32 1000 [RUnit.enc u, .string ⟨#[80, 72, 80]⟩] [] (RUnit.enc u) [] := by
  exact fn_of_x hG hM Try.func32 (by kernel_rfl) (by kernel_rfl) 400 [.no, .no, .no, .no, .no, .no, .no, .no, .no, .no, .no, .no, .no, .no, .no, .no, .no, .no, .no, .no, .no] (And.intro (Eq.refl false) (And.intro (Eq.refl false) (And.intro (Eq.refl false) (And.intro (Eq.refl false) (And.intro (Eq.refl false) (And.intro (Eq.refl false) (And.intro (Eq.refl false) (And.intro (Eq.refl false) (And.intro (Eq.refl false) (And.intro (Eq.refl false) (And.intro (Eq.refl false) (And.intro (Eq.refl false) (And.intro (Eq.refl false) (And.intro (Eq.refl false) (And.intro (Eq.refl false) (And.intro (Eq.refl false) (And.intro (Eq.refl false) (And.intro (Eq.refl false) (And.intro (Eq.refl false) (And.intro (Eq.refl false) (And.intro (Eq.refl false) trivial))))))))))))))))))))) (by kernel_rfl)
theorem rSelf_PHP_ok (u : RUnit) : FnSpec Try.prog 32 1000 [RUnit.enc u, .string ⟨#[80, 72, 80]⟩] [] (RUnit.enc (rSelf_PHP u)) [] := by
  exact rSelf_PHP_p1 u

/-- kotatsu/kotatsuref08.Self -/
def rSelf_PLA (u : RUnit) : RUnit :=
  u
theorem rSelf_PLA_p1 (u : RUnit) : FnSpec Try.prog 32 1000 [RUnit.enc u, .string ⟨#[80, 76, 65]⟩] [] (RUnit.enc u) [] := by
  exact fn_of_x hG hM Try.func32 (by kernel_rfl) (by kernel_rfl) 400 [.no, .no, .no, .no, .no, .no, .no, .no, .no, .no, .no, .no, .no, .no, .no, .no, .no, .no, .no, .no, .no] (And.intro (Eq.refl false) (And.intro (Eq.refl false) (And.intro (Eq.refl false) (And.intro (Eq.refl false) (And.intro (Eq.refl false) (And.intro (Eq.refl false) (And.intro (Eq.refl false) (And.intro (Eq.refl false) (And.intro (Eq.refl false) (And.intro (Eq.refl false) (And.intro (Eq.refl false) (And.intro (Eq.refl false) (And.intro (Eq.refl false) (And.intro (Eq.refl false) (And.intro (Eq.refl false) (And.intro (Eq.refl false) (And.intro (Eq.refl false) (And.intro (Eq.refl false) (And.intro (Eq.refl false) (And.intro (Eq.refl false) (And.intro (Eq.refl false) trivial))))))))))))))))))))) (by kernel_rfl)
theorem rSelf_PLA_ok (u : RUnit) : FnSpec Try.prog 32 1000 [RUnit.enc u, .string ⟨#[80, 76, 65]⟩] [] (RUnit.enc (rSelf_PLA u)) [] := by
  exact rSelf_PLA_p1 u

/-- kotatsu/kotatsuref08.Self -/
def rSelf_PLP (u : RUnit) : RUnit :=
  u
theorem rSelf_PLP_p1 (u : RUnit) : FnSpec Try.prog 32 1000 [RUnit.enc u, .string ⟨#[80, 76, 80]⟩] [] (RUnit.enc u) [] := by
  exact fn_of_x hG hM Try.func32 (by kernel_rfl) (by kernel_rfl) 400 [.no, .no, .no, .no, .no, .no, .no, .no, .no, .no, .no, .no, .no, .no, .no, .no, .no, .no, .no, .no, .no] (And.intro (Eq.refl false) (And.intro (Eq.refl false) (And.intro (Eq.refl false) (And.intro (Eq.refl false) (And.intro (Eq.refl false) (And.intro (Eq.refl false) (And.intro (Eq.refl false) (And.intro (Eq.refl false) (And.intro (Eq.refl false) (And.intro (Eq.refl false) (And.intro (Eq.refl false) (And.intro (Eq.refl false) (And.intro (Eq.refl false) (And.intro (Eq.refl false) (And.intro (Eq.refl false) (And.intro (Eq.refl false) (And.intro (Eq.refl false) (And.intro (Eq.refl false) (And.intro (Eq.refl false) (And.intro (Eq.refl false) (And.intro (Eq.refl false) trivial))))))))))))))))))))) (by kernel_rfl)
theorem rSelf_PLP_ok (u : RUnit) : FnSpec Try.prog 32 1000 [RUnit.enc u, .string ⟨#[80, 76, 80]⟩] [] (RUnit.enc (rSelf_PLP u)) [] := by
  exact rSelf_PLP_p1 u

/-- kotatsu/kotatsuref08.Self -/
def rSelf_JAM (u : RUnit) : RUnit :=
  u
theorem rSelf_JAM_p1 (u : RUnit) : FnSpec Try.prog 32 1000 [RUnit.enc u, .string ⟨#[74, 65, 77]⟩] [] (RUnit.enc u) [] := by
  exact fn_of_x hG hM Try.func32 (by kernel_rfl) (by kernel_rfl) 400 [.no, .no, .no, .no, .no, .no, .no, .no, .no, .no, .no, .no, .no, .no, .no, .no, .no, .no, .no, .no, .no] (And.intro (Eq.refl false) (And.intro (Eq.refl false) (And.intro (Eq.refl false) (And.intro (Eq.refl false) (And.intro (Eq.refl false) (And.intro (Eq.refl false) (And.intro (Eq.refl false) (And.intro (Eq.refl false) (And.intro (Eq.refl false) (And.intro (Eq.refl false) (And.intro (Eq.refl false) (And.intro (Eq.refl false) (And.intro (Eq.refl false) (And.intro (Eq.refl false) (And.intro (Eq.refl false) (And.intro (Eq.refl false) (And.intro (Eq.refl false) (And.intro (Eq.refl false) (And.intro (Eq.refl false) (And.intro (Eq.refl false) (And.intro (Eq.refl false) trivial))))))))))))))))))))) (by kernel_rfl)
theorem rSelf_JAM_ok (u : RUnit) : FnSpec Try.prog 32 1000 [RUnit.enc u, .string ⟨#[74, 65, 77]⟩] [] (RUnit.enc (rSelf_JAM u)) [] := by
  exact rSelf_JAM_p1 u

/-- kotatsu/kotatsuref08.Self -/
def rSelf_none (u : RUnit) : RUnit :=
  u
theorem rSelf_none_p1 (u : RUnit) : FnSpec Try.prog 32 1000 [RUnit.enc u, .string ⟨#[]⟩] [] (RUnit.enc u) [] := by
  exact fn_of_x hG hM Try.func32 (by kernel_rfl) (by kernel_rfl) 400 [.no, .no, .no, .no, .no, .no, .no, .no, .no, .no, .no, .no, .no, .no, .no, .no, .no, .no, .no, .no, .no] (And.intro (Eq.refl false) (And.intro (Eq.refl false) (And.intro (Eq.refl false) (And.intro (Eq.refl false) (And.intro (Eq.refl false) (And.intro (Eq.refl false) (And.intro (Eq.refl false) (And.intro (Eq.refl false) (And.intro (Eq.refl false) (And.intro (Eq.refl false) (And.intro (Eq.refl false) (And.intro (Eq.refl false) (And.intro (Eq.refl false) (And.intro (Eq.refl false) (And.intro (Eq.refl false) (And.intro (Eq.refl false) (And.intro (Eq.refl false) (And.intro (Eq.refl false) (And.intro (Eq.refl false) (And.intro (Eq.refl false) (And.intro (Eq.refl false) trivial))))))))))))))))))))) (by kernel_rfl)
theorem rSelf_none_ok (u : RUnit) : FnSpec Try.prog 32 1000 [RUnit.enc u, .string ⟨#[]⟩] [] (RUnit.enc (rSelf_none u)) [] := by
  exact rSelf_none_p1 u

/-- kotatsu/kotatsuref08.Name -/
def rName_hi (op : Int) : ByteArray :=
  ⟨#[]⟩
theorem rName_hi_p1 (op : Int) (h : 70 ≤ op ∧ op < 256) : FnSpec Try.prog 18 1000 [.int .i64 op] [] (.string ⟨#[]⟩) [] := by
  exact fn_of_x hG hM Try.func18 (by kernel_rfl) (by kernel_rfl) 400 [.call [] [(1000, 1000)] 1000 (.slice (some ⟨1000, 0, none⟩) 70 70) rNames_post, .no, .no, .no, .no, .no, .yes] (And.intro rNames_p1 (And.intro (decide_eq_false (by omega) : (decide ((op : Int) < 0)) = false) (And.intro (decide_eq_false (by omega) : (decide ((op : Int) < 0)) = false) (And.intro (decide_eq_false (by omega) : (decide ((op : Int) < 0)) = false) (And.intro (decide_eq_false (by omega) : (decide ((op : Int) < 0)) = false) (And.intro (decide_eq_false (by omega) : (decide ((op : Int) < 0)) = false) (And.intro (decide_eq_true (by omega) : (decide ((op : Int) ≥ 70)) = true) trivial))))))) (by kernel_rfl)
theorem rName_hi_ok (op : Int) (h : 70 ≤ op ∧ op < 256) : FnSpec Try.prog 18 1000 [.int .i64 op] [] (.string (rName_hi op)) [] := by
  exact rName_hi_p1 op h

/-- kotatsu/kotatsuref08.Store -/
def rStore_none (u : RUnit) : Int :=
  0
theorem rStore_none_p1 (u : RUnit) : FnSpec Try.prog 26 1000 [RUnit.enc u, .string ⟨#[]⟩] [] (.int .i64 0) [] := by
  exact fn_of_x hG hM Try.func26 (by kernel_rfl) (by kernel_rfl) 400 [.no, .no, .no, .no] (And.intro (Eq.refl false) (And.intro (Eq.refl false) (And.intro (Eq.refl false) (And.intro (Eq.refl false) trivial)))) (by kernel_rfl)
theorem rStore_none_ok (u : RUnit) : FnSpec Try.prog 26 1000 [RUnit.enc u, .string ⟨#[]⟩] [] (.int .i64 (rStore_none u)) [] := by
  exact rStore_none_p1 u

/-- kotatsu/kotatsuref08.Takes -/
def rTakes_none (u : RUnit) : Bool :=
  false
theorem rTakes_none_p1 (u : RUnit) : FnSpec Try.prog 28 1000 [RUnit.enc u, .string ⟨#[]⟩] [] (.bool false) [] := by
  exact fn_of_x hG hM Try.func28 (by kernel_rfl) (by kernel_rfl) 400 [.no, .no, .no, .no, .no, .no, .no, .no] (And.intro (Eq.refl false) (And.intro (Eq.refl false) (And.intro (Eq.refl false) (And.intro (Eq.refl false) (And.intro (Eq.refl false) (And.intro (Eq.refl false) (And.intro (Eq.refl false) (And.intro (Eq.refl false) trivial)))))))) (by kernel_rfl)
theorem rTakes_none_ok (u : RUnit) : FnSpec Try.prog 28 1000 [RUnit.enc u, .string ⟨#[]⟩] [] (.bool (rTakes_none u)) [] := by
  exact rTakes_none_p1 u

/-- kotatsu/kotatsuref08.Takes -/
def rTakes_NOP (u : RUnit) : Bool :=
  false
theorem rTakes_NOP_p1 (u : RUnit) : FnSpec Try.prog 28 1000 [RUnit.enc u, .string ⟨#[78, 79, 80]⟩] [] (.bool false) [] := by
  exact fn_of_x hG hM Try.func28 (by kernel_rfl) (by kernel_rfl) 400 [.no, .no, .no, .no, .no, .no, .no, .no] (And.intro (Eq.refl false) (And.intro (Eq.refl false) (And.intro (Eq.refl false) (And.intro (Eq.refl false) (And.intro (Eq.refl false) (And.intro (Eq.refl false) (And.intro (Eq.refl false) (And.intro (Eq.refl false) trivial)))))))) (by kernel_rfl)
theorem rTakes_NOP_ok (u : RUnit) : FnSpec Try.prog 28 1000 [RUnit.enc u, .string ⟨#[78, 79, 80]⟩] [] (.bool (rTakes_NOP u)) [] := by
  exact rTakes_NOP_p1 u

/-- kotatsu/kotatsuref08.Takes -/
def rTakes_ORA (u : RUnit) : Bool :=
  false
theorem rTakes_ORA_p1 (u : RUnit) : FnSpec Try.prog 28 1000 [RUnit.enc u, .string ⟨#[79, 82, 65]⟩] [] (.bool false) [] := by
  exact fn_of_x hG hM Try.func28 (by kernel_rfl) (by kernel_rfl) 400 [.no, .no, .no, .no, .no, .no, .no, .no] (And.intro (Eq.refl false) (And.intro (Eq.refl false) (And.intro (Eq.refl false) (And.intro (Eq.refl false) (And.intro (Eq.refl false) (And.intro (Eq.refl false) (And.intro (Eq.refl false) (And.intro (Eq.refl false) trivial)))))))) (by kernel_rfl)
theorem rTakes_ORA_ok (u : RUnit) : FnSpec Try.prog 28 1000 [RUnit.enc u, .string ⟨#[79, 82, 65]⟩] [] (.bool (rTakes_ORA u)) [] := by
  exact rTakes_ORA_p1 u

/-- kotatsu/kotatsuref08.Takes -/
def rTakes_AND (u : RUnit) : Bool :=
  false
theorem rTakes_AND_p1 (u : RUnit) : FnSpec Try.prog 28 1000 [RUnit.enc u, .string ⟨#[65, 78, 68]⟩] [] (.bool false) [] := by
  exact fn_of_x hG hM Try.func28 (by kernel_rfl) (by kernel_rfl) 400 [.no, .no, .no, .no, .no, .no, .no, .no] (And.intro (Eq.refl false) (And.intro (Eq.refl false) (And.intro (Eq.refl false) (And.intro (Eq.refl false) (And.intro (Eq.refl false) (And.intro (Eq.refl false) (And.intro (Eq.refl false) (And.intro (Eq.refl false) trivial)))))))) (by kernel_rfl)
theorem rTakes_AND_ok (u : RUnit) : FnSpec Try.prog 28 1000 [RUnit.enc u, .string ⟨#[65, 78, 68]⟩] [] (.bool (rTakes_AND u)) [] := by
  exact rTakes_AND_p1 u

/-- kotatsu/kotatsuref08.Takes -/
def rTakes_EOR (u : RUnit) : Bool :=
  false
theorem rTakes_EOR_p1 (u : RUnit) : FnSpec Try.prog 28 1000 [RUnit.enc u, .string ⟨#[69, 79, 82]⟩] [] (.bool false) [] := by
  exact fn_of_x hG hM Try.func28 (by kernel_rfl) (by kernel_rfl) 400 [.no, .no, .no, .no, .no, .no, .no, .no] (And.intro (Eq.refl false) (And.intro (Eq.refl false) (And.intro (Eq.refl false) (And.intro (Eq.refl false) (And.intro (Eq.refl false) (And.intro (Eq.refl false) (And.intro (Eq.refl false) (And.intro (Eq.refl false) trivial)))))))) (by kernel_rfl)
theorem rTakes_EOR_ok (u : RUnit) : FnSpec Try.prog 28 1000 [RUnit.enc u, .string ⟨#[69, 79, 82]⟩] [] (.bool (rTakes_EOR u)) [] := by
  exact rTakes_EOR_p1 u

/-- kotatsu/kotatsuref08.Takes -/
def rTakes_ADC (u : RUnit) : Bool :=
  false
theorem rTakes_ADC_p1 (u : RUnit) : FnSpec Try.prog 28 1000 [RUnit.enc u, .string ⟨#[65, 68, 67]⟩] [] (.bool false) [] := by
  exact fn_of_x hG hM Try.func28 (by kernel_rfl) (by kernel_rfl) 400 [.no, .no, .no, .no, .no, .no, .no, .no] (And.intro (Eq.refl false) (And.intro (Eq.refl false) (And.intro (Eq.refl false) (And.intro (Eq.refl false) (And.intro (Eq.refl false) (And.intro (Eq.refl false) (And.intro (Eq.refl false) (And.intro (Eq.refl false) trivial)))))))) (by kernel_rfl)
theorem rTakes_ADC_ok (u : RUnit) : FnSpec Try.prog 28 1000 [RUnit.enc u, .string ⟨#[65, 68, 67]⟩] [] (.bool (rTakes_ADC u)) [] := by
  exact rTakes_ADC_p1 u

/-- kotatsu/kotatsuref08.Takes -/
def rTakes_SBC (u : RUnit) : Bool :=
  false
theorem rTakes_SBC_p1 (u : RUnit) : FnSpec Try.prog 28 1000 [RUnit.enc u, .string ⟨#[83, 66, 67]⟩] [] (.bool false) [] := by
  exact fn_of_x hG hM Try.func28 (by kernel_rfl) (by kernel_rfl) 400 [.no, .no, .no, .no, .no, .no, .no, .no] (And.intro (Eq.refl false) (And.intro (Eq.refl false) (And.intro (Eq.refl false) (And.intro (Eq.refl false) (And.intro (Eq.refl false) (And.intro (Eq.refl false) (And.intro (Eq.refl false) (And.intro (Eq.refl false) trivial)))))))) (by kernel_rfl)
theorem rTakes_SBC_ok (u : RUnit) : FnSpec Try.prog 28 1000 [RUnit.enc u, .string ⟨#[83, 66, 67]⟩] [] (.bool (rTakes_SBC u)) [] := by
  exact rTakes_SBC_p1 u

/-- kotatsu/kotatsuref08.Takes -/
def rTakes_CMP (u : RUnit) : Bool :=
  false
theorem rTakes_CMP_p1 (u : RUnit) : FnSpec Try.prog 28 1000 [RUnit.enc u, .string ⟨#[67, 77, 80]⟩] [] (.bool false) [] := by
  exact fn_of_x hG hM Try.func28 (by kernel_rfl) (by kernel_rfl) 400 [.no, .no, .no, .no, .no, .no, .no, .no] (And.intro (Eq.refl false) (And.intro (Eq.refl false) (And.intro (Eq.refl false) (And.intro (Eq.refl false) (And.intro (Eq.refl false) (And.intro (Eq.refl false) (And.intro (Eq.refl false) (And.intro (Eq.refl false) trivial)))))))) (by kernel_rfl)
theorem rTakes_CMP_ok (u : RUnit) : FnSpec Try.prog 28 1000 [RUnit.enc u, .string ⟨#[67, 77, 80]⟩] [] (.bool (rTakes_CMP u)) [] := by
  exact rTakes_CMP_p1 u

/-- kotatsu/kotatsuref08.Takes -/
def rTakes_CPX (u : RUnit) : Bool :=
  false
theorem rTakes_CPX_p1 (u : RUnit) : FnSpec Try.prog 28 1000 [RUnit.enc u, .string ⟨#[67, 80, 88]⟩] [] (.bool false) [] := by
  exact fn_of_x hG hM Try.func28 (by kernel_rfl) (by kernel_rfl) 400 [.no, .no, .no, .no, .no, .no, .no, .no] (And.intro (Eq.refl false) (And.intro (Eq.refl false) (And.intro (Eq.refl false) (And.intro (Eq.refl false) (And.intro (Eq.refl false) (And.intro (Eq.refl false) (And.intro (Eq.refl false) (And.intro (Eq.refl false) trivial)))))))) (by kernel_rfl)
theorem rTakes_CPX_ok (u : RUnit) : FnSpec Try.prog 28 1000 [RUnit.enc u, .string ⟨#[67, 80, 88]⟩] [] (.bool (rTakes_CPX u)) [] := by
  exact rTakes_CPX_p1 u

/-- kotatsu/kotatsuref08.Takes -/
def rTakes_CPY (u : RUnit) : Bool :=
  false
theorem rTakes_CPY_p1 (u : RUnit) : FnSpec Try.prog 28 1000 [RUnit.enc u, .string ⟨#[67, 80, 89]⟩] [] (.bool false) [] := by
  exact fn_of_x hG hM Try.func28 (by kernel_rfl) (by kernel_rfl) 400 [.no, .no, .no, .no, .no, .no, .no, .no] (And.intro (Eq.refl false) (And.intro (Eq.refl false) (And.intro (Eq.refl false) (And.intro (Eq.refl false) (And.intro (Eq.refl false) (And.intro (Eq.refl false) (And.intro (Eq.refl false) (And.intro (Eq.refl false) trivial)))))))) (by kernel_rfl)
theorem rTakes_CPY_ok (u : RUnit) : FnSpec Try.prog 28 1000 [RUnit.enc u, .string ⟨#[67, 80, 89]⟩] [] (.bool (rTakes_CPY u)) [] := by
  exact rTakes_CPY_p1 u

/-- kotatsu/kotatsuref08.Takes -/
def rTakes_LDA (u : RUnit) : Bool :=
  false
theorem rTakes_LDA_p1 (u : RUnit) : FnSpec Try.prog 28 1000 [RUnit.enc u, .string ⟨#[76, 68, 65]⟩] [] (.bool false) [] := by
  exact fn_of_x hG hM Try.func28 (by kernel_rfl) (by kernel_rfl) 400 [.no, .no, .no, .no, .no, .no, .no, .no] (And.intro (Eq.refl false) (And.intro (Eq.refl false) (And.intro (Eq.refl false) (And.intro (Eq.refl false) (And.intro (Eq.refl false) (And.intro (Eq.refl false) (And.intro (Eq.refl false) (And.intro (Eq.refl false) trivial)))))))) (by kernel_rfl)
theorem rTakes_LDA_ok (u : RUnit) : FnSpec Try.prog 28 1000 [RUnit.enc u, .string ⟨#[76, 68, 65]⟩] [] (.bool (rTakes_LDA u)) [] := by
  exact rTakes_LDA_p1 u

/-- kotatsu/kotatsuref08.Takes -/
def rTakes_LDX (u : RUnit) : Bool :=
  false
theorem rTakes_LDX_p1 (u : RUnit) : FnSpec Try.prog 28 1000 [RUnit.enc u, .string ⟨#[76, 68, 88]⟩] [] (.bool false) [] := by
  exact fn_of_x hG hM Try.func28 (by kernel_rfl) (by kernel_rfl) 400 [.no, .no, .no, .no, .no, .no, .no, .no] (And.intro (Eq.refl false) (And.intro (Eq.refl false) (And.intro (Eq.refl false) (And.intro (Eq.refl false) (And.intro (Eq.refl false) (And.intro (Eq.refl false) (And.intro (Eq.refl false) (And.intro (Eq.refl false) trivial)))))))) (by kernel_rfl)
theorem rTakes_LDX_ok (u : RUnit) : FnSpec Try.prog 28 1000 [RUnit.enc u, .string ⟨#[76, 68, 88]⟩] [] (.bool (rTakes_LDX u)) [] := by
  exact rTakes_LDX_p1 u

/-- kotatsu/kotatsuref08.Takes -/
def rTakes_LDY (u : RUnit) : Bool :=
  false
theorem rTakes_LDY_p1 (u : RUnit) : FnSpec Try.prog 28 1000 [RUnit.enc u, .string ⟨#[76, 68, 89]⟩] [] (.bool false) [] := by
  exact fn_of_x hG hM Try.func28 (by kernel_rfl) (by kernel_rfl) 400 [.no, .no, .no, .no, .no, .no, .no, .no] (And.intro (Eq.refl false) (And.intro (Eq.refl false) (And.intro (Eq.refl false) (And.intro (Eq.refl false) (And.intro (Eq.refl false) (And.intro (Eq.refl false) (And.intro (Eq.refl false) (And.intro (Eq.refl false) trivial)))))))) (by kernel_rfl)
theorem rTakes_LDY_ok (u : RUnit) : FnSpec Try.prog 28 1000 [RUnit.enc u, .string ⟨#[76, 68, 89]⟩] [] (.bool (rTakes_LDY u)) [] := by
  exact rTakes_LDY_p1 u

/-- kotatsu/kotatsuref08.Takes -/
def rTakes_BIT (u : RUnit) : Bool :=
  false
theorem rTakes_BIT_p1 (u : RUnit) : FnSpec Try.prog 28 1000 [RUnit.enc u, .string ⟨#[66, 73, 84]⟩] [] (.bool false) [] := by
  exact fn_of_x hG hM Try.func28 (by kernel_rfl) (by kernel_rfl) 400 [.no, .no, .no, .no, .no, .no, .no, .no] (And.intro (Eq.refl false) (And.intro (Eq.refl false) (And.intro (Eq.refl false) (And.intro (Eq.refl false) (And.intro (Eq.refl false) (And.intro (Eq.refl false) (And.intro (Eq.refl false) (And.intro (Eq.refl false) trivial)))))))) (by kernel_rfl)
theorem rTakes_BIT_ok (u : RUnit) : FnSpec Try.prog 28 1000 [RUnit.enc u, .string ⟨#[66, 73, 84]⟩] [] (.bool (rTakes_BIT u)) [] := by
  exact rTakes_BIT_p1 u

/-- kotatsu/kotatsuref08.Takes -/
def rTakes_LAX (u : RUnit) : Bool :=
  false
theorem rTakes_LAX_p1 (u : RUnit) : FnSpec Try.prog 28 1000 [RUnit.enc u, .string ⟨#[76, 65, 88]⟩] [] (.bool false) [] := by
  exact fn_of_x hG hM Try.func28 (by kernel_rfl) (by kernel_rfl) 400 [.no, .no, .no, .no, .no, .no, .no, .no] (And.intro (Eq.refl false) (And.intro (Eq.refl false) (And.intro (Eq.refl false) (And.intro (Eq.refl false) (And.intro (Eq.refl false) (And.intro (Eq.refl false) (And.intro (Eq.refl false) (And.intro (Eq.refl false) trivial)))))))) (by kernel_rfl)
theorem rTakes_LAX_ok (u : RUnit) : FnSpec Try.prog 28 1000 [RUnit.enc u, .string ⟨#[76, 65, 88]⟩] [] (.bool (rTakes_LAX u)) [] := by
  exact rTakes_LAX_p1 u

/-- kotatsu/kotatsuref08.Takes -/
def rTakes_ANC (u : RUnit) : Bool :=
  false
theorem rTakes_ANC_p1 (u : RUnit) : FnSpec Try.prog 28 1000 [RUnit.enc u, .string ⟨#[65, 78, 67]⟩] [] (.bool false) [] := by
  exact fn_of_x hG hM Try.func28 (by kernel_rfl) (by kernel_rfl) 400 [.no, .no, .no, .no, .no, .no, .no, .no] (And.intro (Eq.refl false) (And.intro (Eq.refl false) (And.intro (Eq.refl false) (And.intro (Eq.refl false) (And.intro (Eq.refl false) (And.intro (Eq.refl false) (And.intro (Eq.refl false) (And.intro (Eq.refl false) trivial)))))))) (by kernel_rfl)
theorem rTakes_ANC_ok (u : RUnit) : FnSpec Try.prog 28 1000 [RUnit.enc u, .string ⟨#[65, 78, 67]⟩] [] (.bool (rTakes_ANC u)) [] := by
  exact rTakes_ANC_p1 u

/-- kotatsu/kotatsuref08.Takes -/
def rTakes_ALR (u : RUnit) : Bool :=
  false
theorem rTakes_ALR_p1 (u : RUnit) : FnSpec Try.prog 28 1000 [RUnit.enc u, .string ⟨#[65, 76, 82]⟩] [] (.bool false) [] := by
  exact fn_of_x hG hM Try.func28 (by kernel_rfl) (by kernel_rfl) 400 [.no, .no, .no, .no, .no, .no, .no, .no] (And.intro (Eq.refl false) (And.intro (Eq.refl false) (And.intro (Eq.refl false) (And.intro (Eq.refl false) (And.intro (Eq.refl false) (And.intro (Eq.refl false) (And.intro (Eq.refl false) (And.intro (Eq.refl false) trivial)))))))) (by kernel_rfl)
theorem rTakes_ALR_ok (u : RUnit) : FnSpec Try.prog 28 1000 [RUnit.enc u, .string ⟨#[65, 76, 82]⟩] [] (.bool (rTakes_ALR u)) [] := by
  exact rTakes_ALR_p1 u

/-- kotatsu/kotatsuref08.Takes -/
def rTakes_ARR (u : RUnit) : Bool :=
  false
theorem rTakes_ARR_p1 (u : RUnit) : FnSpec Try.prog 28 1000 [RUnit.enc u, .string ⟨#[65, 82, 82]⟩] [] (.bool false) [] := by
  exact fn_of_x hG hM Try.func28 (by kernel_rfl) (by kernel_rfl) 400 [.no, .no, .no, .no, .no, .no, .no, .no] (And.intro (Eq.refl false) (And.intro (Eq.refl false) (And.intro (Eq.refl false) (And.intro (Eq.refl false) (And.intro (Eq.refl false) (And.intro (Eq.refl false) (And.intro (Eq.refl false) (And.intro (Eq.refl false) trivial)))))))) (by kernel_rfl)
theorem rTakes_ARR_ok (u : RUnit) : FnSpec Try.prog 28 1000 [RUnit.enc u, .string ⟨#[65, 82, 82]⟩] [] (.bool (rTakes_ARR u)) [] := by
  exact rTakes_ARR_p1 u

/-- kotatsu/kotatsuref08.Takes -/
def rTakes_AXS (u : RUnit) : Bool :=
  false
theorem rTakes_AXS_p1 (u : RUnit) : FnSpec Try.prog 28 1000 [RUnit.enc u, .string ⟨#[65, 88, 83]⟩] [] (.bool false) [] := by
  exact fn_of_x hG hM Try.func28 (by kernel_rfl) (by kernel_rfl) 400 [.no, .no, .no, .no, .no, .no, .no, .no] (And.intro (Eq.refl false) (And.intro (Eq.refl false) (And.intro (Eq.refl false) (And.intro (Eq.refl false) (And.intro (Eq.refl false) (And.intro (Eq.refl false) (And.intro (Eq.refl false) (And.intro (Eq.refl false) trivial)))))))) (by kernel_rfl)
theorem rTakes_AXS_ok (u : RUnit) : FnSpec Try.prog 28 1000 [RUnit.enc u, .string ⟨#[65, 88, 83]⟩] [] (.bool (rTakes_AXS u)) [] := by
  exact rTakes_AXS_p1 u

/-- kotatsu/kotatsuref08.Takes -/
def rTakes_LAS (u : RUnit) : Bool :=
  false
theorem rTakes_LAS_p1 (u : RUnit) : FnSpec Try.prog 28 1000 [RUnit.enc u, .string ⟨#[76, 65, 83]⟩] [] (.bool false) [] := by
  exact fn_of_x hG hM Try.func28 (by kernel_rfl) (by kernel_rfl) 400 [.no, .no, .no, .no, .no, .no, .no, .no] (And.intro (Eq.refl false) (And.intro (Eq.refl false) (And.intro (Eq.refl false) (And.intro (Eq.refl false) (And.intro (Eq.refl false) (And.intro (Eq.refl false) (And.intro (Eq.refl false) (And.intro (Eq.refl false) trivial)))))))) (by kernel_rfl)
theorem rTakes_LAS_ok (u : RUnit) : FnSpec Try.prog 28 1000 [RUnit.enc u, .string ⟨#[76, 65, 83]⟩] [] (.bool (rTakes_LAS u)) [] := by
  exact rTakes_LAS_p1 u

/-- kotatsu/kotatsuref08.Takes -/
def rTakes_ASL (u : RUnit) : Bool :=
  false
theorem rTakes_ASL_p1 (u : RUnit) : FnSpec Try.prog 28 1000 [RUnit.enc u, .string ⟨#[65, 83, 76]⟩] [] (.bool false) [] := by
  exact fn_of_x hG hM Try.func28 (by kernel_rfl) (by kernel_rfl) 400 [.no, .no, .no, .no, .no, .no, .no, .no] (And.intro (Eq.refl false) (And.intro (Eq.refl false) (And.intro (Eq.refl false) (And.intro (Eq.refl false) (And.intro (Eq.refl false) (And.intro (Eq.refl false) (And.intro (Eq.refl false) (And.intro (Eq.refl false) trivial)))))))) (by kernel_rfl)
theorem rTakes_ASL_ok (u : RUnit) : FnSpec Try.prog 28 1000 [RUnit.enc u, .string ⟨#[65, 83, 76]⟩] [] (.bool (rTakes_ASL u)) [] := by
  exact rTakes_ASL_p1 u

/-- kotatsu/kotatsuref08.Takes -/
def rTakes_LSR (u : RUnit) : Bool :=
  false
theorem rTakes_LSR_p1 (u : RUnit) : FnSpec Try.prog 28 1000 [RUnit.enc u, .string ⟨#[76, 83, 82]⟩] [] (.bool false) [] := by
  exact fn_of_x hG hM Try.func28 (by kernel_rfl) (by kernel_rfl) 400 [.no, .no, .no, .no, .no, .no, .no, .no] (And.intro (Eq.refl false) (And.intro (Eq.refl false) (And.intro (Eq.refl false) (And.intro (Eq.refl false) (And.intro (Eq.refl false) (And.intro (Eq.refl false) (And.intro (Eq.refl false) (And.intro (Eq.refl false) trivial)))))))) (by kernel_rfl)
theorem rTakes_LSR_ok (u : RUnit) : FnSpec Try.prog 28 1000 [RUnit.enc u, .string ⟨#[76, 83, 82]⟩] [] (.bool (rTakes_LSR u)) [] := by
  exact rTakes_LSR_p1 u

/-- kotatsu/kotatsuref08.Takes -/
def rTakes_ROL (u : RUnit) : Bool :=
  false
theorem rTakes_ROL_p1 (u : RUnit) : FnSpec Try.prog 28 1000 [RUnit.enc u, .string ⟨#[82, 79, 76]⟩] [] (.bool false) [] := by
  exact fn_of_x hG hM Try.func28 (by kernel_rfl) (by kernel_rfl) 400 [.no, .no, .no, .no, .no, .no, .no, .no] (And.intro (Eq.refl false) (And.intro (Eq.refl false) (And.intro (Eq.refl false) (And.intro (Eq.refl false) (And.intro (Eq.refl false) (And.intro (Eq.refl false) (And.intro (Eq.refl false) (And.intro (Eq.refl false) trivial)))))))) (by kernel_rfl)
theorem rTakes_ROL_ok (u : RUnit) : FnSpec Try.prog 28 1000 [RUnit.enc u, .string ⟨#[82, 79, 76]⟩] [] (.bool (rTakes_ROL u)) [] := by
  exact rTakes_ROL_p1 u

/-- kotatsu/kotatsuref08.Takes -/
def rTakes_ROR (u : RUnit) : Bool :=
  false
theorem rTakes_ROR_p1 (u : RUnit) : FnSpec Try.prog 28 1000 [RUnit.enc u, .string ⟨#[82, 79, 82]⟩] [] (.bool false) [] := by
  exact fn_of_x hG hM Try.func28 (by kernel_rfl) (by kernel_rfl) 400 [.no, .no, .no, .no, .no, .no, .no, .no] (And.intro (Eq.refl false) (And.intro (Eq.refl false) (And.intro (Eq.refl false) (And.intro (Eq.refl false) (And.intro (Eq.refl false) (And.intro (Eq.refl false) (And.intro (Eq.refl false) (And.intro (Eq.refl false) trivial)))))))) (by kernel_rfl)
theorem rTakes_ROR_ok (u : RUnit) : FnSpec Try.prog 28 1000 [RUnit.enc u, .string ⟨#[82, 79, 82]⟩] [] (.bool (rTakes_ROR u)) [] := by
  exact rTakes_ROR_p1 u

/-- kotatsu/kotatsuref08.Takes -/
def rTakes_INC (u : RUnit) : Bool :=
  false
theorem rTakes_INC_p1 (u : RUnit) : FnSpec Try.prog 28 1000 [RUnit.enc u, .string ⟨#[73, 78, 67]⟩] [] (.bool false) [] := by
  exact fn_of_x hG hM Try.func28 (by kernel_rfl) (by kernel_rfl) 400 [.no, .no, .no, .no, .no, .no, .no, .no] (And.intro (Eq.refl false) (And.intro (Eq.refl false) (And.intro (Eq.refl false) (And.intro (Eq.refl false) (And.intro (Eq.refl false) (And.intro (Eq.refl false) (And.intro (Eq.refl false) (And.intro (Eq.refl false) trivial)))))))) (by kernel_rfl)
theorem rTakes_INC_ok (u : RUnit) : FnSpec Try.prog 28 1000 [RUnit.enc u, .string ⟨#[73, 78, 67]⟩] [] (.bool (rTakes_INC u)) [] := by
  exact rTakes_INC_p1 u

/-- kotatsu/kotatsuref08.Takes -/
def rTakes_DEC (u : RUnit) : Bool :=
  false
theorem rTakes_DEC_p1 (u : RUnit) : FnSpec Try.prog 28 1000 [RUnit.enc u, .string ⟨#[68, 69, 67]⟩] [] (.bool false) [] := by
  exact fn_of_x hG hM Try.func28 (by kernel_rfl) (by kernel_rfl) 400 [.no, .no, .no, .no, .no, .no, .no, .no] (And.intro (Eq.refl false) (And.intro (Eq.refl false) (And.intro (Eq.refl false) (And.intro (Eq.refl false) (And.intro (Eq.refl false) (And.intro (Eq.refl false) (And.intro (Eq.refl false) (And.intro (Eq.refl false) trivial)))))))) (by kernel_rfl)
theorem rTakes_DEC_ok (u : RUnit) : FnSpec Try.prog 28 1000 [RUnit.enc u, .string ⟨#[68, 69, 67]⟩] [] (.bool (rTakes_DEC u)) [] := by
  exact rTakes_DEC_p1 u

/-- kotatsu/kotatsuref08.Takes -/
def rTakes_SLO (u : RUnit) : Bool :=
  false
theorem rTakes_SLO_p1 (u : RUnit) : FnSpec Try.prog 28 1000 [RUnit.enc u, .string ⟨#[83, 76, 79]⟩] [] (.bool false) [] := by
  exact fn_of_x hG hM Try.func28 (by kernel_rfl) (by kernel_rfl) 400 [.no, .no, .no, .no, .no, .no, .no, .no] (And.intro (Eq.refl false) (And.intro (Eq.refl false) (And.intro (Eq.refl false) (And.intro (Eq.refl false) (And.intro (Eq.refl false) (And.intro (Eq.refl false) (And.intro (Eq.refl false) (And.intro (Eq.refl false) trivial)))))))) (by kernel_rfl)
theorem rTakes_SLO_ok (u : RUnit) : FnSpec Try.prog 28 1000 [RUnit.enc u, .string ⟨#[83, 76, 79]⟩] [] (.bool (rTakes_SLO u)) [] := by
  exact rTakes_SLO_p1 u

/-- kotatsu/kotatsuref08.Takes -/
def rTakes_RLA (u : RUnit) : Bool :=
  false
theorem rTakes_RLA_p1 (u : RUnit) : FnSpec Try.prog 28 1000 [RUnit.enc u, .string ⟨#[82, 76, 65]⟩] [] (.bool false) [] := by
  exact fn_of_x hG hM Try.func28 (by kernel_rfl) (by kernel_rfl) 400 [.no, .no, .no, .no, .no, .no, .no, .no] (And.intro (Eq.refl false) (And.intro (Eq.refl false) (And.intro (Eq.refl false) (And.intro (Eq.refl false) (And.intro (Eq.refl false) (And.intro (Eq.refl false) (And.intro (Eq.refl false) (And.intro (Eq.refl false) trivial)))))))) (by kernel_rfl)
theorem rTakes_RLA_ok (u : RUnit) : FnSpec Try.prog 28 1000 [RUnit.enc u, .string ⟨#[82, 76, 65]⟩] [] (.bool (rTakes_RLA u)) [] := by
  exact rTakes_RLA_p1 u

/-- kotatsu/kotatsuref08.Takes -/
def rTakes_SRE (u : RUnit) : Bool :=
  false
theorem rTakes_SRE_p1 (u : RUnit) : FnSpec Try.prog 28 1000 [RUnit.enc u, .string ⟨#[83, 82, 69]⟩] [] (.bool false) [] := by
  exact fn_of_x hG hM Try.func28 (by kernel_rfl) (by kernel_rfl) 400 [.no, .no, .no, .no, .no, .no, .no, .no] (And.intro (Eq.refl false) (And.intro (Eq.refl false) (And.intro (Eq.refl false) (And.intro (Eq.refl false) (And.intro (Eq.refl false) (And.intro (Eq.refl false) (And.intro (Eq.refl false) (And.intro (Eq.refl false) trivial)))))))) (by kernel_rfl)
theorem rTakes_SRE_ok (u : RUnit) : FnSpec Try.prog 28 1000 [RUnit.enc u, .string ⟨#[83, 82, 69]⟩] [] (.bool (rTakes_SRE u)) [] := by
  exact rTakes_SRE_p1 u

/-- kotatsu/kotatsuref08.Takes -/
def rTakes_RRA (u : RUnit) : Bool :=
  false
theorem rTakes_RRA_p1 (u : RUnit) : FnSpec Try.prog 28 1000 [RUnit.enc u, .string ⟨#[82, 82, 65]⟩] [] (.bool false) [] := by
  exact fn_of_x hG hM Try.func28 (by kernel_rfl) (by kernel_rfl) 400 [.no, .no, .no, .no, .no, .no, .no, .no] (And.intro (Eq.refl false) (And.intro (Eq.refl false) (And.intro (Eq.refl false) (And.intro (Eq.refl false) (And.intro (Eq.refl false) (And.intro (Eq.refl false) (And.intro (Eq.refl false) (And.intro (Eq.refl false) trivial)))))))) (by kernel_rfl)
theorem rTakes_RRA_ok (u : RUnit) : FnSpec Try.prog 28 1000 [RUnit.enc u, .string ⟨#[82, 82, 65]⟩] [] (.bool (rTakes_RRA u)) [] := by
  exact rTakes_RRA_p1 u

/-- kotatsu/kotatsuref08.Takes -/
def rTakes_DCP (u : RUnit) : Bool :=
  false
theorem rTakes_DCP_p1 (u : RUnit) : FnSpec Try.prog 28 1000 [RUnit.enc u, .string ⟨#[68, 67, 80]⟩] [] (.bool false) [] := by
  exact fn_of_x hG hM Try.func28 (by kernel_rfl) (by kernel_rfl) 400 [.no, .no, .no, .no, .no, .no, .no, .no] (And.intro (Eq.refl false) (And.intro (Eq.refl false) (And.intro (Eq.refl false) (And.intro (Eq.refl false) (And.intro (Eq.refl false) (And.intro (Eq.refl false) (And.intro (Eq.refl false) (And.intro (Eq.refl false) trivial)))))))) (by kernel_rfl)
theorem rTakes_DCP_ok (u : RUnit) : FnSpec Try.prog 28 1000 [RUnit.enc u, .string ⟨#[68, 67, 80]⟩] [] (.bool (rTakes_DCP u)) [] := by
  exact rTakes_DCP_p1 u

/-- kotatsu/kotatsuref08.Takes -/
def rTakes_ISC (u : RUnit) : Bool :=
  false
theorem rTakes_ISC_p1 (u : RUnit) : FnSpec Try.prog 28 1000 [RUnit.enc u, .string ⟨#[73, 83, 67]⟩] [] (.bool false) [] := by
  exact fn_of_x hG hM Try.func28 (by kernel_rfl) (by kernel_rfl) 400 [.no, .no, .no, .no, .no, .no, .no, .no] (And.intro (Eq.refl false) (And.intro (Eq.refl false) (And.intro (Eq.refl false) (And.intro (Eq.refl false) (And.intro (Eq.refl false) (And.intro (Eq.refl false) (And.intro (Eq.refl false) (And.intro (Eq.refl false) trivial)))))))) (by kernel_rfl)
theorem rTakes_ISC_ok (u : RUnit) : FnSpec Try.prog 28 1000 [RUnit.enc u, .string ⟨#[73, 83, 67]⟩] [] (.bool (rTakes_ISC u)) [] := by
  exact rTakes_ISC_p1 u

/-- kotatsu/kotatsuref08.Takes -/
def rTakes_STA (u : RUnit) : Bool :=
  false
theorem rTakes_STA_p1 (u : RUnit) : FnSpec Try.prog 28 1000 [RUnit.enc u, .string ⟨#[83, 84, 65]⟩] [] (.bool false) [] := by
  exact fn_of_x hG hM Try.func28 (by kernel_rfl) (by kernel_rfl) 400 [.no, .no, .no, .no, .no, .no, .no, .no] (And.intro (Eq.refl false) (And.intro (Eq.refl false) (And.intro (Eq.refl false) (And.intro (Eq.refl false) (And.intro (Eq.refl false) (And.intro (Eq.refl false) (And.intro (Eq.refl false) (And.intro (Eq.refl false) trivial)))))))) (by kernel_rfl)
theorem rTakes_STA_ok (u : RUnit) : FnSpec Try.prog 28 1000 [RUnit.enc u, .string ⟨#[83, 84, 65]⟩] [] (.bool (rTakes_STA u)) [] := by
  exact rTakes_STA_p1 u

/-- kotatsu/kotatsuref08.Takes -/
def rTakes_STX (u : RUnit) : Bool :=
  false
theorem rTakes_STX_p1 (u : RUnit) : FnSpec Try.prog 28 1000 [RUnit.enc u, .string ⟨#[83, 84, 88]⟩] [] (.bool false) [] := by
  exact fn_of_x hG hM Try.func28 (by kernel_rfl) (by kernel_rfl) 400 [.no, .no, .no, .no, .no, .no, .no, .no] (And.intro (Eq.refl false) (And.intro (Eq.refl false) (And.intro (Eq.refl false) (And.intro (Eq.refl false) (And.intro (Eq.refl false) (And.intro (Eq.refl false) (And.intro (Eq.refl false) (And.intro (Eq.refl false) trivial)))))))) (by kernel_rfl)
theorem rTakes_STX_ok (u : RUnit) : FnSpec Try.prog 28 1000 [RUnit.enc u, .string ⟨#[83, 84, 88]⟩] [] (.bool (rTakes_STX u)) [] := by
  exact rTakes_STX_p1 u

/-- kotatsu/kotatsuref08.Takes -/
def rTakes_STY (u : RUnit) : Bool :=
  false
theorem rTakes_STY_p1 (u : RUnit) : FnSpec Try.prog 28 1000 [RUnit.enc u, .string ⟨#[83, 84, 89]⟩] [] (.bool false) [] := by
  exact fn_of_x hG hM Try.func28 (by kernel_rfl) (by kernel_rfl) 400 [.no, .no, .no, .no, .no, .no, .no, .no] (And.intro (Eq.refl false) (And.intro (Eq.refl false) (And.intro (Eq.refl false) (And.intro (Eq.refl false) (And.intro (Eq.refl false) (And.intro (Eq.refl false) (And.intro (Eq.refl false) (And.intro (Eq.refl false) trivial)))))))) (by kernel_rfl)
theorem rTakes_STY_ok (u : RUnit) : FnSpec Try.prog 28 1000 [RUnit.enc u, .string ⟨#[83, 84, 89]⟩] [] (.bool (rTakes_STY u)) [] := by
  exact rTakes_STY_p1 u

/-- kotatsu/kotatsuref08.Takes -/
def rTakes_SAX (u : RUnit) : Bool :=
  false
theorem rTakes_SAX_p1 (u : RUnit) : FnSpec Try.prog 28 1000 [RUnit.enc u, .string ⟨#[83, 65, 88]⟩] [] (.bool false) [] := by
  exact fn_of_x hG hM Try.func28 (by kernel_rfl) (by kernel_rfl) 400 [.no, .no, .no, .no, .no, .no, .no, .no] (And.intro (Eq.refl false) (And.intro (Eq.refl false) (And.intro (Eq.refl false) (And.intro (Eq.refl false) (And.intro (Eq.refl false) (And.intro (Eq.refl false) (And.intro (Eq.refl false) (And.intro (Eq.refl false) trivial)))))))) (by kernel_rfl)
theorem rTakes_SAX_ok (u : RUnit) : FnSpec Try.prog 28 1000 [RUnit.enc u, .string ⟨#[83, 65, 88]⟩] [] (.bool (rTakes_SAX u)) [] := by
  exact rTakes_SAX_p1 u

/-- kotatsu/kotatsuref08.Takes -/
def rTakes_TAX (u : RUnit) : Bool :=
  false
theorem rTakes_TAX_p1 (u : RUnit) : FnSpec Try.prog 28 1000 [RUnit.enc u, .string ⟨#[84, 65, 88]⟩] [] (.bool false) [] := by
  exact fn_of_x hG hM Try.func28 (by kernel_rfl) (by kernel_rfl) 400 [.no, .no, .no, .no, .no, .no, .no, .no] (And.intro (Eq.refl false) (And.intro (Eq.refl false) (And.intro (Eq.refl false) (And.intro (Eq.refl false) (And.intro (Eq.refl false) (And.intro (Eq.refl false) (And.intro (Eq.refl false) (And.intro (Eq.refl false) trivial)))))))) (by kernel_rfl)
theorem rTakes_TAX_ok (u : RUnit) : FnSpec Try.prog 28 1000 [RUnit.enc u, .string ⟨#[84, 65, 88]⟩] [] (.bool (rTakes_TAX u)) [] := by
  exact rTakes_TAX_p1 u

/-- kotatsu/kotatsuref08.Takes -/
def rTakes_TAY (u : RUnit) : Bool :=
  false
theorem rTakes_TAY_p1 (u : RUnit) : FnSpec Try.prog 28 1000 [RUnit.enc u, .string ⟨#[84, 65, 89]⟩] [] (.bool false) [] := by
  exact fn_of_x hG hM Try.func28 (by kernel_rfl) (by kernel_rfl) 400 [.no, .no, .no, .no, .no, .no, .no, .no] (And.intro (Eq.refl false) (And.intro (Eq.refl false) (And.intro (Eq.refl false) (And.intro (Eq.refl false) (And.intro (Eq.refl false) (And.intro (Eq.refl false) (And.intro (Eq.refl false) (And.intro (Eq.refl false) trivial)))))))) (by kernel_rfl)
theorem rTakes_TAY_ok (u : RUnit) : FnSpec Try.prog 28 1000 [RUnit.enc u, .string ⟨#[84, 65, 89]⟩] [] (.bool (rTakes_TAY u)) [] := by
  exact rTakes_TAY_p1 u

/-- kotatsu/kotatsuref08.Takes -/
def rTakes_TXA (u : RUnit) : Bool :=
  false
theorem rTakes_TXA_p1 (u : RUnit) : FnSpec Try.prog 28 1000 [RUnit.enc u, .string ⟨#[84, 88, 65]⟩] [] (.bool false) [] := by
  exact fn_of_x hG hM Try.func28 (by kernel_rfl) (by kernel_rfl) 400 [.no, .no, .no, .no, .no, .no, .no, .no] (And.intro (Eq.refl false) (And.intro (Eq.refl false) (And.intro (Eq.refl false) (And.intro (Eq.refl false) (And.intro (Eq.refl false) (And.intro (Eq.refl false) (And.intro (Eq.refl false) (And.intro (Eq.refl false) trivial)))))))) (by kernel_rfl)
theorem rTakes_TXA_ok (u : RUnit) : FnSpec Try.prog 28 1000 [RUnit.enc u, .string ⟨#[84, 88, 65]⟩] [] (.bool (rTakes_TXA u)) [] := by
  exact rTakes_TXA_p1 u

/-- kotatsu/kotatsuref08.Takes -/
def rTakes_TYA (u : RUnit) : Bool :=
  false
theorem rTakes_TYA_p1 (u : RUnit) : FnSpec Try.prog 28 1000 [RUnit.enc u, .string ⟨#[84, 89, 65]⟩] [] (.bool false) [] := by
  exact fn_of_x hG hM Try.func28 (by kernel_rfl) (by kernel_rfl) 400 [.no, .no, .no, .no, .no, .no, .no, .no] (And.intro (Eq.refl false) (And.intro (Eq.refl false) (And.intro (Eq.refl false) (And.intro (Eq.refl false) (And.intro (Eq.refl false) (And.intro (Eq.refl false) (And.intro (Eq.refl false) (And.intro (Eq.refl false) trivial)))))))) (by kernel_rfl)
theorem rTakes_TYA_ok (u : RUnit) : FnSpec Try.prog 28 1000 [RUnit.enc u, .string ⟨#[84, 89, 65]⟩] [] (.bool (rTakes_TYA u)) [] := by
  exact rTakes_TYA_p1 u

/-- kotatsu/kotatsuref08.Takes -/
def rTakes_TSX (u : RUnit) : Bool :=
  false
theorem rTakes_TSX_p1 (u : RUnit) : FnSpec Try.prog 28 1000 [RUnit.enc u, .string ⟨#[84, 83, 88]⟩] [] (.bool false) [] := by
  exact fn_of_x hG hM Try.func28 (by kernel_rfl) (by kernel_rfl) 400 [.no, .no, .no, .no, .no, .no, .no, .no] (And.intro (Eq.refl false) (And.intro (Eq.refl false) (And.intro (Eq.refl false) (And.intro (Eq.refl false) (And.intro (Eq.refl false) (And.intro (Eq.refl false) (And.intro (Eq.refl false) (And.intro (Eq.refl false) trivial)))))))) (by kernel_rfl)
theorem rTakes_TSX_ok (u : RUnit) : FnSpec Try.prog 28 1000 [RUnit.enc u, .string ⟨#[84, 83, 88]⟩] [] (.bool (rTakes_TSX u)) [] := by
  exact rTakes_TSX_p1 u

/-- kotatsu/kotatsuref08.Takes -/
def rTakes_TXS (u : RUnit) : Bool :=
  false
theorem rTakes_TXS_p1 (u : RUnit) : FnSpec Try.prog 28 1000 [RUnit.enc u, .string ⟨#[84, 88, 83]⟩] [] (.bool false) [] := by
  exact fn_of_x hG hM Try.func28 (by kernel_rfl) (by kernel_rfl) 400 [.no, .no, .no, .no, .no, .no, .no, .no] (And.intro (Eq.refl false) (And.intro (Eq.refl false) (And.intro (Eq.refl false) (And.intro (Eq.refl false) (And.intro (Eq.refl false) (And.intro (Eq.refl false) (And.intro (Eq.refl false) (And.intro (Eq.refl false) trivial)))))))) (by kernel_rfl)
theorem rTakes_TXS_ok (u : RUnit) : FnSpec Try.prog 28 1000 [RUnit.enc u, .string ⟨#[84, 88, 83]⟩] [] (.bool (rTakes_TXS u)) [] := by
  exact rTakes_TXS_p1 u

/-- kotatsu/kotatsuref08.Takes -/
def rTakes_INX (u : RUnit) : Bool :=
  false
theorem rTakes_INX_p1 (u : RUnit) : FnSpec Try.prog 28 1000 [RUnit.enc u, .string ⟨#[73, 78, 88]⟩] [] (.bool false) [] := by
  exact fn_of_x hG hM Try.func28 (by kernel_rfl) (by kernel_rfl) 400 [.no, .no, .no, .no, .no, .no, .no, .no] (And.intro (Eq.refl false) (And.intro (Eq.refl false) (And.intro (Eq.refl false) (And.intro (Eq.refl false) (And.intro (Eq.refl false) (And.intro (Eq.refl false) (And.intro (Eq.refl false) (And.intro (Eq.refl false) trivial)))))))) (by kernel_rfl)
theorem rTakes_INX_ok (u : RUnit) : FnSpec Try.prog 28 1000 [RUnit.enc u, .string ⟨#[73, 78, 88]⟩] [] (.bool (rTakes_INX u)) [] := by
  exact rTakes_INX_p1 u

/-- kotatsu/kotatsuref08.Takes -/
def rTakes_INY (u : RUnit) : Bool :=
  false
theorem rTakes_INY_p1 (u : RUnit) : FnSpec Try.prog 28 1000 [RUnit.enc u, .string ⟨#[73, 78, 89]⟩] [] (.bool false) [] := by
  exact fn_of_x hG hM Try.func28 (by kernel_rfl) (by kernel_rfl) 400 [.no, .no, .no, .no, .no, .no, .no, .no] (And.intro (Eq.refl false) (And.intro (Eq.refl false) (And.intro (Eq.refl false) (And.intro (Eq.refl false) (And.intro (Eq.refl false) (And.intro (Eq.refl false) (And.intro (Eq.refl false) (And.intro (Eq.refl false) trivial)))))))) (by kernel_rfl)
theorem rTakes_INY_ok (u : RUnit) : FnSpec Try.prog 28 1000 [RUnit.enc u, .string ⟨#[73, 78, 89]⟩] [] (.bool (rTakes_INY u)) [] := by
  exact rTakes_INY_p1 u

/-- kotatsu/kotatsuref08.Takes -/
def rTakes_DEX (u : RUnit) : Bool :=
  false
theorem rTakes_DEX_p1 (u : RUnit) : FnSpec Try.prog 28 1000 [RUnit.enc u, .string ⟨#[68, 69, 88]⟩] [] (.bool false) [] := by
  exact fn_of_x hG hM Try.func28 (by kernel_rfl) (by kernel_rfl) 400 [.no, .no, .no, .no, .no, .no, .no, .no] (And.intro (Eq.refl false) (And.intro (Eq.refl false) (And.intro (Eq.refl false) (And.intro (Eq.refl false) (And.intro (Eq.refl false) (And.intro (Eq.refl false) (And.intro (Eq.refl false) (And.intro (Eq.refl false) trivial)))))))) (by kernel_rfl)
theorem rTakes_DEX_ok (u : RUnit) : FnSpec Try.prog 28 1000 [RUnit.enc u, .string ⟨#[68, 69, 88]⟩] [] (.bool (rTakes_DEX u)) [] := by
  exact rTakes_DEX_p1 u

/-- kotatsu/kotatsuref08.Takes -/
def rTakes_DEY (u : RUnit) : Bool :=
  false
theorem rTakes_DEY_p1 (u : RUnit) : FnSpec Try.prog 28 1000 [RUnit.enc u, .string ⟨#[68, 69, 89]⟩] [] (.bool false) [] := by
  exact fn_of_x hG hM Try.func28 (by kernel_rfl) (by kernel_rfl) 400 [.no, .no, .no, .no, .no, .no, .no, .no] (And.intro (Eq.refl false) (And.intro (Eq.refl false) (And.intro (Eq.refl false) (And.intro (Eq.refl false) (And.intro (Eq.refl false) (And.intro (Eq.refl false) (And.intro (Eq.refl false) (And.intro (Eq.refl false) trivial)))))))) (by kernel_rfl)
theorem rTakes_DEY_ok (u : RUnit) : FnSpec Try.prog 28 1000 [RUnit.enc u, .string ⟨#[68, 69, 89]⟩] [] (.bool (rTakes_DEY u)) [] := by
  exact rTakes_DEY_p1 u

/-- kotatsu/kotatsuref08.Takes -/
def rTakes_CLC (u : RUnit) : Bool :=
  false
theorem rTakes_CLC_p1 (u : RUnit) : FnSpec Try.prog 28 1000 [RUnit.enc u, .string ⟨#[67, 76, 67]⟩] [] (.bool false) [] := by
  exact fn_of_x hG hM Try.func28 (by kernel_rfl) (by kernel_rfl) 400 [.no, .no, .no, .no, .no, .no, .no, .no] (And.intro (Eq.refl false) (And.intro (Eq.refl false) (And.intro (Eq.refl false) (And.intro (Eq.refl false) (And.intro (Eq.refl false) (And.intro (Eq.refl false) (And.intro (Eq.refl false) (And.intro (Eq.refl false) trivial)))))))) (by kernel_rfl)
theorem rTakes_CLC_ok (u : RUnit) : FnSpec Try.prog 28 1000 [RUnit.enc u, .string ⟨#[67, 76, 67]⟩] [] (.bool (rTakes_CLC u)) [] := by
  exact rTakes_CLC_p1 u

/-- kotatsu/kotatsuref08.Takes -/
def rTakes_SEC (u : RUnit) : Bool :=
  false
theorem rTakes_SEC_p1 (u : RUnit) : FnSpec Try.prog 28 1000 [RUnit.enc u, .string ⟨#[83, 69, 67]⟩] [] (.bool false) [] := by
  exact fn_of_x hG hM Try.func28 (by kernel_rfl) (by kernel_rfl) 400 [.no, .no, .no, .no, .no, .no, .no, .no] (And.intro (Eq.refl false) (And.intro (Eq.refl false) (And.intro (Eq.refl false) (And.intro (Eq.refl false) (And.intro (Eq.refl false) (And.intro (Eq.refl false) (And.intro (Eq.refl false) (And.intro (Eq.refl false) trivial)))))))) (by kernel_rfl)
theorem rTakes_SEC_ok (u : RUnit) : FnSpec Try.prog 28 1000 [RUnit.enc u, .string ⟨#[83, 69, 67]⟩] [] (.bool (rTakes_SEC u)) [] := by
  exact rTakes_SEC_p1 u

/-- kotatsu/kotatsuref08.Takes -/
def rTakes_CLI (u : RUnit) : Bool :=
  false
theorem rTakes_CLI_p1 (u : RUnit) : FnSpec Try.prog 28 1000 [RUnit.enc u, .string ⟨#[67, 76, 73]⟩] [] (.bool false) [] := by
  exact fn_of_x hG hM Try.func28 (by kernel_rfl) (by kernel_rfl) 400 [.no, .no, .no, .no, .no, .no, .no, .no] (And.intro (Eq.refl false) (And.intro (Eq.refl false) (And.intro (Eq.refl false) (And.intro (Eq.refl false) (And.intro (Eq.refl false) (And.intro (Eq.refl false) (And.intro (Eq.refl false) (And.intro (Eq.refl false) trivial)))))))) (by kernel_rfl)
theorem rTakes_CLI_ok (u : RUnit) : FnSpec Try.prog 28 1000 [RUnit.enc u, .string ⟨#[67, 76, 73]⟩] [] (.bool (rTakes_CLI u)) [] := by
  exact rTakes_CLI_p1 u

/-- kotatsu/kotatsuref08.Takes -/
def rTakes_SEI (u : RUnit) : Bool :=
  false
theorem rTakes_SEI_p1 (u : RUnit) : FnSpec Try.prog 28 1000 [RUnit.enc u, .string ⟨#[83, 69, 73]⟩] [] (.bool false) [] := by
  exact fn_of_x hG hM Try.func28 (by kernel_rfl) (by kernel_rfl) 400 [.no, .no, .no, .no, .no, .no, .no, .no] (And.intro (Eq.refl false) (And.intro (Eq.refl false) (And.intro (Eq.refl false) (And.intro (Eq.refl false) (And.intro (Eq.refl false) (And.intro (Eq.refl false) (And.intro (Eq.refl false) (And.intro (Eq.refl false) trivial)))))))) (by kernel_rfl)
theorem rTakes_SEI_ok (u : RUnit) : FnSpec Try.prog 28 1000 [RUnit.enc u, .string ⟨#[83, 69, 73]⟩] [] (.bool (rTakes_SEI u)) [] := by
  exact rTakes_SEI_p1 u

/-- kotatsu/kotatsuref08.Takes -/
def rTakes_CLV (u : RUnit) : Bool :=
  false
theorem rTakes_CLV_p1 (u : RUnit) : FnSpec Try.prog 28 1000 [RUnit.enc u, .string ⟨#[67, 76, 86]⟩] [] (.bool false) [] := by
  exact fn_of_x hG hM Try.func28 (by kernel_rfl) (by kernel_rfl) 400 [.no, .no, .no, .no, .no, .no, .no, .no] (And.intro (Eq.refl false) (And.intro (Eq.refl false) (And.intro (Eq.refl false) (And.intro (Eq.refl false) (And.intro (Eq.refl false) (And.intro (Eq.refl false) (And.intro (Eq.refl false) (And.intro (Eq.refl false) trivial)))))))) (by kernel_rfl)
theorem rTakes_CLV_ok (u : RUnit) : FnSpec Try.prog 28 1000 [RUnit.enc u, .string ⟨#[67, 76, 86]⟩] [] (.bool (rTakes_CLV u)) [] := by
  exact rTakes_CLV_p1 u

/-- kotatsu/kotatsuref08.Takes -/
def rTakes_CLD (u : RUnit) : Bool :=
  false
theorem rTakes_CLD_p1 (u : RUnit) : FnSpec Try.prog 28 1000 [RUnit.enc u, .string ⟨#[67, 76, 68]⟩] [] (.bool false) [] := by
  exact fn_of_x hG hM Try.func28 (by kernel_rfl) (by kernel_rfl) 400 [.no, .no, .no, .no, .no, .no, .no, .no] (And.intro (Eq.refl false) (And.intro (Eq.refl false) (And.intro (Eq.refl false) (And.intro (Eq.refl false) (And.intro (Eq.refl false) (And.intro (Eq.refl false) (And.intro (Eq.refl false) (And.intro (Eq.refl false) trivial)))))))) (by kernel_rfl)
theorem rTakes_CLD_ok (u : RUnit) : FnSpec Try.prog 28 1000 [RUnit.enc u, .string ⟨#[67, 76, 68]⟩] [] (.bool (rTakes_CLD u)) [] := by
  exact rTakes_CLD_p1 u

/-- kotatsu/kotatsuref08.Takes -/
def rTakes_SED (u : RUnit) : Bool :=
  false
theorem rTakes_SED_p1 (u : RUnit) : FnSpec Try.prog 28 1000 [RUnit.enc u, .string ⟨#[83, 69, 68]⟩] [] (.bool false) [] := by
  exact fn_of_x hG hM Try.func28 (by kernel_rfl) (by kernel_rfl) 400 [.no, .no, .no, .no, .no, .no, .no, .no] (And.intro (Eq.refl false) (And.intro (Eq.refl false) (And.intro (Eq.refl false) (And.intro (Eq.refl false) (And.intro (Eq.refl false) (And.intro (Eq.refl false) (And.intro (Eq.refl false) (And.intro (Eq.refl false) trivial)))))))) (by kernel_rfl)
theorem rTakes_SED_ok (u : RUnit) : FnSpec Try.prog 28 1000 [RUnit.enc u, .string ⟨#[83, 69, 68]⟩] [] (.bool (rTakes_SED u)) [] := by
  exact rTakes_SED_p1 u

/-- kotatsu/kotatsuref08.Takes -/
def rTakes_BPL (u : RUnit) : Bool :=
  (((rHas u.P 128) : Int) == 0)
theorem rTakes_BPL_p1 (u : RUnit) : FnSpec Try.prog 28 1000 [RUnit.enc u, .string ⟨#[66, 80, 76]⟩] [] (.bool (((rHas u.P 128) : Int) == 0)) [] := by
  have o1 : (128 : Int) ≠ 0 := by first | decide | omega
  exact fn_of_x hG hM Try.func28 (by kernel_rfl) (by kernel_rfl) 400 [.yes, .call [] [] 1000 (.int .i64 (rHas u.P 128)) []] (And.intro (Eq.refl true) (And.intro (rHas_ok u.P 128 o1) trivial)) (by kernel_rfl)
theorem rTakes_BPL_ok (u : RUnit) : FnSpec Try.prog 28 1000 [RUnit.enc u, .string ⟨#[66, 80, 76]⟩] [] (.bool (rTakes_BPL u)) [] := by
  exact rTakes_BPL_p1 u

/-- kotatsu/kotatsuref08.Takes -/
def rTakes_BMI (u : RUnit) : Bool :=
  (((rHas u.P 128) : Int) == 1)
theorem rTakes_BMI_p1 (u : RUnit) : FnSpec Try.prog 28 1000 [RUnit.enc u, .string ⟨#[66, 77, 73]⟩] [] (.bool (((rHas u.P 128) : Int) == 1)) [] := by
  have o1 : (128 : Int) ≠ 0 := by first | decide | omega
  exact fn_of_x hG hM Try.func28 (by kernel_rfl) (by kernel_rfl) 400 [.no, .yes, .call [] [] 1000 (.int .i64 (rHas u.P 128)) []] (And.intro (Eq.refl false) (And.intro (Eq.refl true) (And.intro (rHas_ok u.P 128 o1) trivial))) (by kernel_rfl)
theorem rTakes_BMI_ok (u : RUnit) : FnSpec Try.prog 28 1000 [RUnit.enc u, .string ⟨#[66, 77, 73]⟩] [] (.bool (rTakes_BMI u)) [] := by
  exact rTakes_BMI_p1 u

/-- kotatsu/kotatsuref08.Takes -/
def rTakes_BVC (u : RUnit) : Bool :=
  (((rHas u.P 64) : Int) == 0)
theorem rTakes_BVC_p1 (u : RUnit) : FnSpec Try.prog 28 1000 [RUnit.enc u, .string ⟨#[66, 86, 67]⟩] [] (.bool (((rHas u.P 64) : Int) == 0)) [] := by
  have o1 : (64 : Int) ≠ 0 := by first | decide | omega
  exact fn_of_x hG hM Try.func28 (by kernel_rfl) (by kernel_rfl) 400 [.no, .no, .yes, .call [] [] 1000 (.int .i64 (rHas u.P 64)) []] (And.intro (Eq.refl false) (And.intro (Eq.refl false) (And.intro (Eq.refl true) (And.intro (rHas_ok u.P 64 o1) trivial)))) (by kernel_rfl)
theorem rTakes_BVC_ok (u : RUnit) : FnSpec Try.prog 28 1000 [RUnit.enc u, .string ⟨#[66, 86, 67]⟩] [] (.bool (rTakes_BVC u)) [] := by
  exact rTakes_BVC_p1 u

/-- kotatsu/kotatsuref08.Takes -/
def rTakes_BVS (u : RUnit) : Bool :=
  (((rHas u.P 64) : Int) == 1)
theorem rTakes_BVS_p1 (u : RUnit) : FnSpec Try.prog 28 1000 [RUnit.enc u, .string ⟨#[66, 86, 83]⟩] [] (.bool (((rHas u.P 64) : Int) == 1)) [] := by
  have o1 : (64 : Int) ≠ 0 := by first | decide | omega
  exact fn_of_x hG hM Try.func28 (by kernel_rfl) (by kernel_rfl) 400 [.no, .no, .no, .yes, .call [] [] 1000 (.int .i64 (rHas u.P 64)) []] (And.intro (Eq.refl false) (And.intro (Eq.refl false) (And.intro (Eq.refl false) (And.intro (Eq.refl true) (And.intro (rHas_ok u.P 64 o1) trivial))))) (by kernel_rfl)
theorem rTakes_BVS_ok (u : RUnit) : FnSpec Try.prog 28 1000 [RUnit.enc u, .string ⟨#[66, 86, 83]⟩] [] (.bool (rTakes_BVS u)) [] := by
  exact rTakes_BVS_p1 u

/-- kotatsu/kotatsuref08.Takes -/
def rTakes_BCC (u : RUnit) : Bool :=
  (((rHas u.P 1) : Int) == 0)
theorem rTakes_BCC_p1 (u : RUnit) : FnSpec Try.prog 28 1000 [RUnit.enc u, .string ⟨#[66, 67, 67]⟩] [] (.bool (((rHas u.P 1) : Int) == 0)) [] := by
  have o1 : (1 : Int) ≠ 0 := by first | decide | omega
  exact fn_of_x hG hM Try.func28 (by kernel_rfl) (by kernel_rfl) 400 [.no, .no, .no, .no, .yes, .call [] [] 1000 (.int .i64 (rHas u.P 1)) []] (And.intro (Eq.refl false) (And.intro (Eq.refl false) (And.intro (Eq.refl false) (And.intro (Eq.refl false) (And.intro (Eq.refl true) (And.intro (rHas_ok u.P 1 o1) trivial)))))) (by kernel_rfl)
theorem rTakes_BCC_ok (u : RUnit) : FnSpec Try.prog 28 1000 [RUnit.enc u, .string ⟨#[66, 67, 67]⟩] [] (.bool (rTakes_BCC u)) [] := by
  exact rTakes_BCC_p1 u

/-- kotatsu/kotatsuref08.Takes -/
def rTakes_BCS (u : RUnit) : Bool :=
  (((rHas u.P 1) : Int) == 1)
theorem rTakes_BCS_p1 (u : RUnit) : FnSpec Try.prog 28 1000 [RUnit.enc u, .string ⟨#[66, 67, 83]⟩] [] (.bool (((rHas u.P 1) : Int) == 1)) [] := by
  have o1 : (1 : Int) ≠ 0 := by first | decide | omega
  exact fn_of_x hG hM Try.func28 (by kernel_rfl) (by kernel_rfl) 400 [.no, .no, .no, .no, .no, .yes, .call [] [] 1000 (.int .i64 (rHas u.P 1)) []] (And.intro (Eq.refl false) (And.intro (Eq.refl false) (And.intro (Eq.refl false) (And.intro (Eq.refl false) (And.intro (Eq.refl false) (And.intro (Eq.refl true) (And.intro (rHas_ok u.P 1 o1) trivial))))))) (by kernel_rfl)
theorem rTakes_BCS_ok (u : RUnit) : FnSpec Try.prog 28 1000 [RUnit.enc u, .string ⟨#[66, 67, 83]⟩] [] (.bool (rTakes_BCS u)) [] := by
  exact rTakes_BCS_p1 u

/-- kotatsu/kotatsuref08.Takes -/
def rTakes_BNE (u : RUnit) : Bool :=
  (((rHas u.P 2) : Int) == 0)
theorem rTakes_BNE_p1 (u : RUnit) : FnSpec Try.prog 28 1000 [RUnit.enc u, .string ⟨#[66, 78, 69]⟩] [] (.bool (((rHas u.P 2) : Int) == 0)) [] := by
  have o1 : (2 : Int) ≠ 0 := by first | decide | omega
  exact fn_of_x hG hM Try.func28 (by kernel_rfl) (by kernel_rfl) 400 [.no, .no, .no, .no, .no, .no, .yes, .call [] [] 1000 (.int .i64 (rHas u.P 2)) []] (And.intro (Eq.refl false) (And.intro (Eq.refl false) (And.intro (Eq.refl false) (And.intro (Eq.refl false) (And.intro (Eq.refl false) (And.intro (Eq.refl false) (And.intro (Eq.refl true) (And.intro (rHas_ok u.P 2 o1) trivial)))))))) (by kernel_rfl)
theorem rTakes_BNE_ok (u : RUnit) : FnSpec Try.prog 28 1000 [RUnit.enc u, .string ⟨#[66, 78, 69]⟩] [] (.bool (rTakes_BNE u)) [] := by
  exact rTakes_BNE_p1 u

/-- kotatsu/kotatsuref08.Takes -/
def rTakes_BEQ (u : RUnit) : Bool :=
  (((rHas u.P 2) : Int) == 1)
theorem rTakes_BEQ_p1 (u : RUnit) : FnSpec Try.prog 28 1000 [RUnit.enc u, .string ⟨#[66, 69, 81]⟩] [] (.bool (((rHas u.P 2) : Int) == 1)) [] := by
  have o1 : (2 : Int) ≠ 0 := by first | decide | omega
  exact fn_of_x hG hM Try.func28 (by kernel_rfl) (by kernel_rfl) 400 [.no, .no, .no, .no, .no, .no, .no, .yes, .call [] [] 1000 (.int .i64 (rHas u.P 2)) []] (And.intro (Eq.refl false) (And.intro (Eq.refl false) (And.intro (Eq.refl false) (And.intro (Eq.refl false) (And.intro (Eq.refl false) (And.intro (Eq.refl false) (And.intro (Eq.refl false) (And.intro (Eq.refl true) (And.intro (rHas_ok u.P 2 o1) trivial))))))))) (by kernel_rfl)
theorem rTakes_BEQ_ok (u : RUnit) : FnSpec Try.prog 28 1000 [RUnit.enc u, .string ⟨#[66, 69, 81]⟩] [] (.bool (rTakes_BEQ u)) [] := by
  exact rTakes_BEQ_p1 u

/-- kotatsu/kotatsuref08.Takes -/
def rTakes_JMP (u : RUnit) : Bool :=
  false
theorem rTakes_JMP_p1 (u : RUnit) : FnSpec Try.prog 28 1000 [RUnit.enc u, .string ⟨#[74, 77, 80]⟩] [] (.bool false) [] := by
  exact fn_of_x hG hM Try.func28 (by kernel_rfl) (by kernel_rfl) 400 [.no, .no, .no, .no, .no, .no, .no, .no] (And.intro (Eq.refl false) (And.intro (Eq.refl false) (And.intro (Eq.refl false) (And.intro (Eq.refl false) (And.intro (Eq.refl false) (And.intro (Eq.refl false) (And.intro (Eq.refl false) (And.intro (Eq.refl false) trivial)))))))) (by kernel_rfl)
theorem rTakes_JMP_ok (u : RUnit) : FnSpec Try.prog 28 1000 [RUnit.enc u, .string ⟨#[74, 77, 80]⟩] [] (.bool (rTakes_JMP u)) [] := by
  exact rTakes_JMP_p1 u

/-- kotatsu/kotatsuref08.Takes -/
def rTakes_JSR (u : RUnit) : Bool :=
  false
theorem rTakes_JSR_p1 (u : RUnit) : FnSpec Try.prog 28 1000 [RUnit.enc u, .string ⟨#[74, 83, 82]⟩] [] (.bool false) [] := by
  exact fn_of_x hG hM Try.func28 (by kernel_rfl) (by kernel_rfl) 400 [.no, .no, .no, .no, .no, .no, .no, .no] (And.intro (Eq.refl false) (And.intro (Eq.refl false) (And.intro (Eq.refl false) (And.intro (Eq.refl false) (And.intro (Eq.refl false) (And.intro (Eq.refl false) (And.intro (Eq.refl false) (And.intro (Eq.refl false) trivial)))))))) (by kernel_rfl)
theorem rTakes_JSR_ok (u : RUnit) : FnSpec Try.prog 28 1000 [RUnit.enc u, .string ⟨#[74, 83, 82]⟩] [] (.bool (rTakes_JSR u)) [] := by
  exact rTakes_JSR_p1 u

/-- kotatsu/kotatsuref08.Takes -/
def rTakes_RTS (u : RUnit) : Bool :=
  false
theorem rTakes_RTS_p1 (u : RUnit) : FnSpec Try.prog 28 1000 [RUnit.enc u, .string ⟨#[82, 84, 83]⟩] [] (.bool false) [] := by
  exact fn_of_x hG hM Try.func28 (by kernel_rfl) (by kernel_rfl) 400 [.no, .no, .no, .no, .no, .no, .no, .no] (And.intro (Eq.refl false) (And.intro (Eq.refl false) (And.intro (Eq.refl false) (And.intro (Eq.refl false) (And.intro (Eq.refl false) (And.intro (Eq.refl false) (And.intro (Eq.refl false) (And.intro (Eq.refl false) trivial)))))))) (by kernel_rfl)
theorem rTakes_RTS_ok (u : RUnit) : FnSpec Try.prog 28 1000 [RUnit.enc u, .string ⟨#[82, 84, 83]⟩] [] (.bool (rTakes_RTS u)) [] := by
  exact rTakes_RTS_p1 u

/-- kotatsu/kotatsuref08.Takes -/
def rTakes_RTI (u : RUnit) : Bool :=
  false
theorem rTakes_RTI_p1 (u : RUnit) : FnSpec Try.prog 28 1000 [RUnit.enc u, .string ⟨#[82, 84, 73]⟩] [] (.bool false) [] := by
  exact fn_of_x hG hM Try.func28 (by kernel_rfl) (by kernel_rfl) 400 [.no, .no, .no, .no, .no, .no, .no, .no] (And.intro (Eq.refl false) (And.intro (Eq.refl false) (And.intro (Eq.refl false) (And.intro (Eq.refl false) (And.intro (Eq.refl false) (And.intro (Eq.refl false) (And.intro (Eq.refl false) (And.intro (Eq.refl false) trivial)))))))) (by kernel_rfl)
theorem rTakes_RTI_ok (u : RUnit) : FnSpec Try.prog 28 1000 [RUnit.enc u, .string ⟨#[82, 84, 73]⟩] [] (.bool (rTakes_RTI u)) [] := by
  exact rTakes_RTI_p1 u

/-- kotatsu/kotatsuref08.Takes -/
def rTakes_BRK (u : RUnit) : Bool :=
  false
theorem rTakes_BRK_p1 (u : RUnit) : FnSpec Try.prog 28 1000 [RUnit.enc u, .string ⟨#[66, 82, 75]⟩] [] (.bool false) [] := by
  exact fn_of_x hG hM Try.func28 (by kernel_rfl) (by kernel_rfl) 400 [.no, .no, .no, .no, .no, .no, .no, .no] (And.intro (Eq.refl false) (And.intro (Eq.refl false) (And.intro (Eq.refl false) (And.intro (Eq.refl false) (And.intro (Eq.refl false) (And.intro (Eq.refl false) (And.intro (Eq.refl false) (And.intro (Eq.refl false) trivial)))))))) (by kernel_rfl)
theorem rTakes_BRK_ok (u : RUnit) : FnSpec Try.prog 28 1000 [RUnit.enc u, .string ⟨#[66, 82, 75]⟩] [] (.bool (rTakes_BRK u)) [] := by
  exact rTakes_BRK_p1 u

/-- kotatsu/kotatsuref08.Takes -/
def rTakes_PHA (u : RUnit) : Bool :=
  false
theorem rTakes_PHA_p1 (u : RUnit) : FnSpec Try.prog 28 1000 [RUnit.enc u, .string ⟨#[80, 72, 65]⟩] [] (.bool false) [] := by
  exact fn_of_x hG hM Try.func28 (by kernel_rfl) (by kernel_rfl) 400 [.no, .no, .no, .no, .no, .no, .no, .no] (And.intro (Eq.refl false) (And.intro (Eq.refl false) (And.intro (Eq.refl false) (And.intro (Eq.refl false) (And.intro (Eq.refl false) (And.intro (Eq.refl false) (And.intro (Eq.refl false) (And.intro (Eq.refl false) trivial)))))))) (by kernel_rfl)
theorem rTakes_PHA_ok (u : RUnit) : FnSpec Try.prog 28 1000 [RUnit.enc u, .string ⟨#[80, 72, 65]⟩] [] (.bool (rTakes_PHA u)) [] := by
  exact rTakes_PHA_p1 u

/-- kotatsu/kotatsuref08.Takes -/
def rTakes_PHP (u : RUnit) : Bool :=
  false
theorem rTakes_PHP_p1 (u : RUnit) : FnSpec Try.prog 28 1000 [RUnit.enc u, .string ⟨#[80, 72, 80]⟩] [] (.bool false) [] := by
  exact fn_of_x hG hM Try.func28 (by kernel_rfl) (by kernel_rfl) 400 [.no, .no, .no, .no, .no, .no, .no, .no] (And.intro (Eq.refl false) (And.intro (Eq.refl false) (And.intro (Eq.refl false) (And.intro (Eq.refl false) (And.intro (Eq.refl false) (And.intro (Eq.refl false) (And.intro (Eq.refl false) (And.intro (Eq.refl false) trivial)))))))) (by kernel_rfl)
theorem rTakes_PHP_ok (u : RUnit) : FnSpec Try.prog 28 1000 [RUnit.enc u, .string ⟨#[80, 72, 80]⟩] [] (.bool (rTakes_PHP u)) [] := by
  exact rTakes_PHP_p1 u

/-- kotatsu/kotatsuref08.Takes -/
def rTakes_PLA (u : RUnit) : Bool :=
  false
theorem rTakes_PLA_p1 (u : RUnit) : FnSpec Try.prog 28 1000 [RUnit.enc u, .string ⟨#[80, 76, 65]⟩] [] (.bool false) [] := by
  exact fn_of_x hG hM Try.func28 (by kernel_rfl) (by kernel_rfl) 400 [.no, .no, .no, .no, .no, .no, .no, .no] (And.intro (Eq.refl false) (And.intro (Eq.refl false) (And.intro (Eq.refl false) (And.intro (Eq.refl false) (And.intro (Eq.refl false) (And.intro (Eq.refl false) (And.intro (Eq.refl false) (And.intro (Eq.refl false) trivial)))))))) (by kernel_rfl)
theorem rTakes_PLA_ok (u : RUnit) : FnSpec Try.prog 28 1000 [RUnit.enc u, .string ⟨#[80, 76, 65]⟩] [] (.bool (rTakes_PLA u)) [] := by
  exact rTakes_PLA_p1 u

/-- kotatsu/kotatsuref08.Takes -/
def rTakes_PLP (u : RUnit) : Bool :=
  false
theorem rTakes_PLP_p1 (u : RUnit) : FnSpec Try.prog 28 1000 [RUnit.enc u, .string ⟨#[80, 76, 80]⟩] [] (.bool false) [] := by
  exact fn_of_x hG hM Try.func28 (by kernel_rfl) (by kernel_rfl) 400 [.no, .no, .no, .no, .no, .no, .no, .no] (And.intro (Eq.refl false) (And.intro (Eq.refl false) (And.intro (Eq.refl false) (And.intro (Eq.refl false) (And.intro (Eq.refl false) (And.intro (Eq.refl false) (And.intro (Eq.refl false) (And.intro (Eq.refl false) trivial)))))))) (by kernel_rfl)
theorem rTakes_PLP_ok (u : RUnit) : FnSpec Try.prog 28 1000 [RUnit.enc u, .string ⟨#[80, 76, 80]⟩] [] (.bool (rTakes_PLP u)) [] := by
  exact rTakes_PLP_p1 u

/-- kotatsu/kotatsuref08.Takes -/
def rTakes_JAM (u : RUnit) : Bool :=
  false
theorem rTakes_JAM_p1 (u : RUnit) : FnSpec Try.prog 28 1000 [RUnit.enc u, .string ⟨#[74, 65, 77]⟩] [] (.bool false) [] := by
  exact fn_of_x hG hM Try.func28 (by kernel_rfl) (by kernel_rfl) 400 [.no, .no, .no, .no, .no, .no, .no, .no] (And.intro (Eq.refl false) (And.intro (Eq.refl false) (And.intro (Eq.refl false) (And.intro (Eq.refl false) (And.intro (Eq.refl false) (And.intro (Eq.refl false) (And.intro (Eq.refl false) (And.intro (Eq.refl false) trivial)))))))) (by kernel_rfl)
theorem rTakes_JAM_ok (u : RUnit) : FnSpec Try.prog 28 1000 [RUnit.enc u, .string ⟨#[74, 65, 77]⟩] [] (.bool (rTakes_JAM u)) [] := by
  exact rTakes_JAM_p1 u

/-- (kotatsu/alu.Unit).Takes -/
def uTakes_0 (u : Unit) : Bool :=
  false
theorem uTakes_0_p1 (u : Unit) : FnSpec Try.prog 27 1000 [Unit.enc u, .int .u8 0] [] (.bool false) [] := by
  exact fn_of_x hG hM Try.func27 (by kernel_rfl) (by kernel_rfl) 400 [.call [] [] 1000 (.int .u8 1) [], .yes] (And.intro (aKind_ok 0) (And.intro (Eq.refl true) trivial)) (by kernel_rfl)
theorem uTakes_0_ok (u : Unit) : FnSpec Try.prog 27 1000 [Unit.enc u, .int .u8 0] [] (.bool (uTakes_0 u)) [] := by
  exact uTakes_0_p1 u

/-- (kotatsu/alu.Unit).Takes -/
def uTakes_1 (u : Unit) : Bool :=
  false
theorem uTakes_1_p1 (u : Unit) : FnSpec Try.prog 27 1000 [Unit.enc u, .int .u8 1] [] (.bool false) [] := by
  exact fn_of_x hG hM Try.func27 (by kernel_rfl) (by kernel_rfl) 400 [.call [] [] 1000 (.int .u8 1) [], .yes] (And.intro (aKind_ok 1) (And.intro (Eq.refl true) trivial)) (by kernel_rfl)
theorem uTakes_1_ok (u : Unit) : FnSpec Try.prog 27 1000 [Unit.enc u, .int .u8 1] [] (.bool (uTakes_1 u)) [] := by
  exact uTakes_1_p1 u

/-- (kotatsu/alu.Unit).Takes -/
def uTakes_2 (u : Unit) : Bool :=
  false
theorem uTakes_2_p1 (u : Unit) : FnSpec Try.prog 27 1000 [Unit.enc u, .int .u8 2] [] (.bool false) [] := by
  exact fn_of_x hG hM Try.func27 (by kernel_rfl) (by kernel_rfl) 400 [.call [] [] 1000 (.int .u8 1) [], .yes] (And.intro (aKind_ok 2) (And.intro (Eq.refl true) trivial)) (by kernel_rfl)
theorem uTakes_2_ok (u : Unit) : FnSpec Try.prog 27 1000 [Unit.enc u, .int .u8 2] [] (.bool (uTakes_2 u)) [] := by
  exact uTakes_2_p1 u

/-- (kotatsu/alu.Unit).Takes -/
def uTakes_3 (u : Unit) : Bool :=
  false
theorem uTakes_3_p1 (u : Unit) : FnSpec Try.prog 27 1000 [Unit.enc u, .int .u8 3] [] (.bool false) [] := by
  exact fn_of_x hG hM Try.func27 (by kernel_rfl) (by kernel_rfl) 400 [.call [] [] 1000 (.int .u8 1) [], .yes] (And.intro (aKind_ok 3) (And.intro (Eq.refl true) trivial)) (by kernel_rfl)
theorem uTakes_3_ok (u : Unit) : FnSpec Try.prog 27 1000 [Unit.enc u, .int .u8 3] [] (.bool (uTakes_3 u)) [] := by
  exact uTakes_3_p1 u

/-- (kotatsu/alu.Unit).Takes -/
def uTakes_4 (u : Unit) : Bool :=
  false
theorem uTakes_4_p1 (u : Unit) : FnSpec Try.prog 27 1000 [Unit.enc u, .int .u8 4] [] (.bool false) [] := by
  exact fn_of_x hG hM Try.func27 (by kernel_rfl) (by kernel_rfl) 400 [.call [] [] 1000 (.int .u8 1) [], .yes] (And.intro (aKind_ok 4) (And.intro (Eq.refl true) trivial)) (by kernel_rfl)
theorem uTakes_4_ok (u : Unit) : FnSpec Try.prog 27 1000 [Unit.enc u, .int .u8 4] [] (.bool (uTakes_4 u)) [] := by
  exact uTakes_4_p1 u

/-- (kotatsu/alu.Unit).Takes -/
def uTakes_5 (u : Unit) : Bool :=
  false
theorem uTakes_5_p1 (u : Unit) : FnSpec Try.prog 27 1000 [Unit.enc u, .int .u8 5] [] (.bool false) [] := by
  exact fn_of_x hG hM Try.func27 (by kernel_rfl) (by kernel_rfl) 400 [.call [] [] 1000 (.int .u8 1) [], .yes] (And.intro (aKind_ok 5) (And.intro (Eq.refl true) trivial)) (by kernel_rfl)
theorem uTakes_5_ok (u : Unit) : FnSpec Try.prog 27 1000 [Unit.enc u, .int .u8 5] [] (.bool (uTakes_5 u)) [] := by
  exact uTakes_5_p1 u

/-- (kotatsu/alu.Unit).Takes -/
def uTakes_6 (u : Unit) : Bool :=
  false
theorem uTakes_6_p1 (u : Unit) : FnSpec Try.prog 27 1000 [Unit.enc u, .int .u8 6] [] (.bool false) [] := by
  exact fn_of_x hG hM Try.func27 (by kernel_rfl) (by kernel_rfl) 400 [.call [] [] 1000 (.int .u8 1) [], .yes] (And.intro (aKind_ok 6) (And.intro (Eq.refl true) trivial)) (by kernel_rfl)
theorem uTakes_6_ok (u : Unit) : FnSpec Try.prog 27 1000 [Unit.enc u, .int .u8 6] [] (.bool (uTakes_6 u)) [] := by
  exact uTakes_6_p1 u

/-- (kotatsu/alu.Unit).Takes -/
def uTakes_7 (u : Unit) : Bool :=
  false
theorem uTakes_7_p1 (u : Unit) : FnSpec Try.prog 27 1000 [Unit.enc u, .int .u8 7] [] (.bool false) [] := by
  exact fn_of_x hG hM Try.func27 (by kernel_rfl) (by kernel_rfl) 400 [.call [] [] 1000 (.int .u8 1) [], .yes] (And.intro (aKind_ok 7) (And.intro (Eq.refl true) trivial)) (by kernel_rfl)
theorem uTakes_7_ok (u : Unit) : FnSpec Try.prog 27 1000 [Unit.enc u, .int .u8 7] [] (.bool (uTakes_7 u)) [] := by
  exact uTakes_7_p1 u

/-- (kotatsu/alu.Unit).Takes -/
def uTakes_8 (u : Unit) : Bool :=
  false
theorem uTakes_8_p1 (u : Unit) : FnSpec Try.prog 27 1000 [Unit.enc u, .int .u8 8] [] (.bool false) [] := by
  exact fn_of_x hG hM Try.func27 (by kernel_rfl) (by kernel_rfl) 400 [.call [] [] 1000 (.int .u8 1) [], .yes] (And.intro (aKind_ok 8) (And.intro (Eq.refl true) trivial)) (by kernel_rfl)
theorem uTakes_8_ok (u : Unit) : FnSpec Try.prog 27 1000 [Unit.enc u, .int .u8 8] [] (.bool (uTakes_8 u)) [] := by
  exact uTakes_8_p1 u

/-- (kotatsu/alu.Unit).Takes -/
def uTakes_9 (u : Unit) : Bool :=
  false
theorem uTakes_9_p1 (u : Unit) : FnSpec Try.prog 27 1000 [Unit.enc u, .int .u8 9] [] (.bool false) [] := by
  exact fn_of_x hG hM Try.func27 (by kernel_rfl) (by kernel_rfl) 400 [.call [] [] 1000 (.int .u8 1) [], .yes] (And.intro (aKind_ok 9) (And.intro (Eq.refl true) trivial)) (by kernel_rfl)
theorem uTakes_9_ok (u : Unit) : FnSpec Try.prog 27 1000 [Unit.enc u, .int .u8 9] [] (.bool (uTakes_9 u)) [] := by
  exact uTakes_9_p1 u

/-- (kotatsu/alu.Unit).Takes -/
def uTakes_10 (u : Unit) : Bool :=
  false
theorem uTakes_10_p1 (u : Unit) : FnSpec Try.prog 27 1000 [Unit.enc u, .int .u8 10] [] (.bool false) [] := by
  exact fn_of_x hG hM Try.func27 (by kernel_rfl) (by kernel_rfl) 400 [.call [] [] 1000 (.int .u8 1) [], .yes] (And.intro (aKind_ok 10) (And.intro (Eq.refl true) trivial)) (by kernel_rfl)
theorem uTakes_10_ok (u : Unit) : FnSpec Try.prog 27 1000 [Unit.enc u, .int .u8 10] [] (.bool (uTakes_10 u)) [] := by
  exact uTakes_10_p1 u

/-- (kotatsu/alu.Unit).Takes -/
def uTakes_11 (u : Unit) : Bool :=
  false
theorem uTakes_11_p1 (u : Unit) : FnSpec Try.prog 27 1000 [Unit.enc u, .int .u8 11] [] (.bool false) [] := by
  exact fn_of_x hG hM Try.func27 (by kernel_rfl) (by kernel_rfl) 400 [.call [] [] 1000 (.int .u8 1) [], .yes] (And.intro (aKind_ok 11) (And.intro (Eq.refl true) trivial)) (by kernel_rfl)
theorem uTakes_11_ok (u : Unit) : FnSpec Try.prog 27 1000 [Unit.enc u, .int .u8 11] [] (.bool (uTakes_11 u)) [] := by
  exact uTakes_11_p1 u

/-- (kotatsu/alu.Unit).Takes -/
def uTakes_12 (u : Unit) : Bool :=
  false
theorem uTakes_12_p1 (u : Unit) : FnSpec Try.prog 27 1000 [Unit.enc u, .int .u8 12] [] (.bool false) [] := by
  exact fn_of_x hG hM Try.func27 (by kernel_rfl) (by kernel_rfl) 400 [.call [] [] 1000 (.int .u8 1) [], .yes] (And.intro (aKind_ok 12) (And.intro (Eq.refl true) trivial)) (by kernel_rfl)
theorem uTakes_12_ok (u : Unit) : FnSpec Try.prog 27 1000 [Unit.enc u, .int .u8 12] [] (.bool (uTakes_12 u)) [] := by
  exact uTakes_12_p1 u

/-- (kotatsu/alu.Unit).Takes -/
def uTakes_13 (u : Unit) : Bool :=
  false
theorem uTakes_13_p1 (u : Unit) : FnSpec Try.prog 27 1000 [Unit.enc u, .int .u8 13] [] (.bool false) [] := by
  exact fn_of_x hG hM Try.func27 (by kernel_rfl) (by kernel_rfl) 400 [.call [] [] 1000 (.int .u8 1) [], .yes] (And.intro (aKind_ok 13) (And.intro (Eq.refl true) trivial)) (by kernel_rfl)
theorem uTakes_13_ok (u : Unit) : FnSpec Try.prog 27 1000 [Unit.enc u, .int .u8 13] [] (.bool (uTakes_13 u)) [] := by
  exact uTakes_13_p1 u

/-- (kotatsu/alu.Unit).Takes -/
def uTakes_14 (u : Unit) : Bool :=
  false
theorem uTakes_14_p1 (u : Unit) : FnSpec Try.prog 27 1000 [Unit.enc u, .int .u8 14] [] (.bool false) [] := by
  exact fn_of_x hG hM Try.func27 (by kernel_rfl) (by kernel_rfl) 400 [.call [] [] 1000 (.int .u8 1) [], .yes] (And.intro (aKind_ok 14) (And.intro (Eq.refl true) trivial)) (by kernel_rfl)
theorem uTakes_14_ok (u : Unit) : FnSpec Try.prog 27 1000 [Unit.enc u, .int .u8 14] [] (.bool (uTakes_14 u)) [] := by
  exact uTakes_14_p1 u

/-- (kotatsu/alu.Unit).Takes -/
def uTakes_15 (u : Unit) : Bool :=
  false
theorem uTakes_15_p1 (u : Unit) : FnSpec Try.prog 27 1000 [Unit.enc u, .int .u8 15] [] (.bool false) [] := by
  exact fn_of_x hG hM Try.func27 (by kernel_rfl) (by kernel_rfl) 400 [.call [] [] 1000 (.int .u8 1) [], .yes] (And.intro (aKind_ok 15) (And.intro (Eq.refl true) trivial)) (by kernel_rfl)
theorem uTakes_15_ok (u : Unit) : FnSpec Try.prog 27 1000 [Unit.enc u, .int .u8 15] [] (.bool (uTakes_15 u)) [] := by
  exact uTakes_15_p1 u

/-- (kotatsu/alu.Unit).Takes -/
def uTakes_16 (u : Unit) : Bool :=
  false
theorem uTakes_16_p1 (u : Unit) : FnSpec Try.prog 27 1000 [Unit.enc u, .int .u8 16] [] (.bool false) [] := by
  exact fn_of_x hG hM Try.func27 (by kernel_rfl) (by kernel_rfl) 400 [.call [] [] 1000 (.int .u8 1) [], .yes] (And.intro (aKind_ok 16) (And.intro (Eq.refl true) trivial)) (by kernel_rfl)
theorem uTakes_16_ok (u : Unit) : FnSpec Try.prog 27 1000 [Unit.enc u, .int .u8 16] [] (.bool (uTakes_16 u)) [] := by
  exact uTakes_16_p1 u

/-- (kotatsu/alu.Unit).Takes -/
def uTakes_17 (u : Unit) : Bool :=
  false
theorem uTakes_17_p1 (u : Unit) : FnSpec Try.prog 27 1000 [Unit.enc u, .int .u8 17] [] (.bool false) [] := by
  exact fn_of_x hG hM Try.func27 (by kernel_rfl) (by kernel_rfl) 400 [.call [] [] 1000 (.int .u8 1) [], .yes] (And.intro (aKind_ok 17) (And.intro (Eq.refl true) trivial)) (by kernel_rfl)
theorem uTakes_17_ok (u : Unit) : FnSpec Try.prog 27 1000 [Unit.enc u, .int .u8 17] [] (.bool (uTakes_17 u)) [] := by
  exact uTakes_17_p1 u

/-- (kotatsu/alu.Unit).Takes -/
def uTakes_18 (u : Unit) : Bool :=
  false
theorem uTakes_18_p1 (u : Unit) : FnSpec Try.prog 27 1000 [Unit.enc u, .int .u8 18] [] (.bool false) [] := by
  exact fn_of_x hG hM Try.func27 (by kernel_rfl) (by kernel_rfl) 400 [.call [] [] 1000 (.int .u8 1) [], .yes] (And.intro (aKind_ok 18) (And.intro (Eq.refl true) trivial)) (by kernel_rfl)
theorem uTakes_18_ok (u : Unit) : FnSpec Try.prog 27 1000 [Unit.enc u, .int .u8 18] [] (.bool (uTakes_18 u)) [] := by
  exact uTakes_18_p1 u

/-- (kotatsu/alu.Unit).Takes -/
def uTakes_19 (u : Unit) : Bool :=
  false
theorem uTakes_19_p1 (u : Unit) : FnSpec Try.prog 27 1000 [Unit.enc u, .int .u8 19] [] (.bool false) [] := by
  exact fn_of_x hG hM Try.func27 (by kernel_rfl) (by kernel_rfl) 400 [.call [] [] 1000 (.int .u8 2) [], .yes] (And.intro (aKind_ok 19) (And.intro (Eq.refl true) trivial)) (by kernel_rfl)
theorem uTakes_19_ok (u : Unit) : FnSpec Try.prog 27 1000 [Unit.enc u, .int .u8 19] [] (.bool (uTakes_19 u)) [] := by
  exact uTakes_19_p1 u

/-- (kotatsu/alu.Unit).Takes -/
def uTakes_20 (u : Unit) : Bool :=
  false
theorem uTakes_20_p1 (u : Unit) : FnSpec Try.prog 27 1000 [Unit.enc u, .int .u8 20] [] (.bool false) [] := by
  exact fn_of_x hG hM Try.func27 (by kernel_rfl) (by kernel_rfl) 400 [.call [] [] 1000 (.int .u8 2) [], .yes] (And.intro (aKind_ok 20) (And.intro (Eq.refl true) trivial)) (by kernel_rfl)
theorem uTakes_20_ok (u : Unit) : FnSpec Try.prog 27 1000 [Unit.enc u, .int .u8 20] [] (.bool (uTakes_20 u)) [] := by
  exact uTakes_20_p1 u

/-- (kotatsu/alu.Unit).Takes -/
def uTakes_21 (u : Unit) : Bool :=
  false
theorem uTakes_21_p1 (u : Unit) : FnSpec Try.prog 27 1000 [Unit.enc u, .int .u8 21] [] (.bool false) [] := by
  exact fn_of_x hG hM Try.func27 (by kernel_rfl) (by kernel_rfl) 400 [.call [] [] 1000 (.int .u8 2) [], .yes] (And.intro (aKind_ok 21) (And.intro (Eq.refl true) trivial)) (by kernel_rfl)
theorem uTakes_21_ok (u : Unit) : FnSpec Try.prog 27 1000 [Unit.enc u, .int .u8 21] [] (.bool (uTakes_21 u)) [] := by
  exact uTakes_21_p1 u

/-- (kotatsu/alu.Unit).Takes -/
def uTakes_22 (u : Unit) : Bool :=
  false
theorem uTakes_22_p1 (u : Unit) : FnSpec Try.prog 27 1000 [Unit.enc u, .int .u8 22] [] (.bool false) [] := by
  exact fn_of_x hG hM Try.func27 (by kernel_rfl) (by kernel_rfl) 400 [.call [] [] 1000 (.int .u8 2) [], .yes] (And.intro (aKind_ok 22) (And.intro (Eq.refl true) trivial)) (by kernel_rfl)
theorem uTakes_22_ok (u : Unit) : FnSpec Try.prog 27 1000 [Unit.enc u, .int .u8 22] [] (.bool (uTakes_22 u)) [] := by
  exact uTakes_22_p1 u

/-- (kotatsu/alu.Unit).Takes -/
def uTakes_23 (u : Unit) : Bool :=
  false
theorem uTakes_23_p1 (u : Unit) : FnSpec Try.prog 27 1000 [Unit.enc u, .int .u8 23] [] (.bool false) [] := by
  exact fn_of_x hG hM Try.func27 (by kernel_rfl) (by kernel_rfl) 400 [.call [] [] 1000 (.int .u8 2) [], .yes] (And.intro (aKind_ok 23) (And.intro (Eq.refl true) trivial)) (by kernel_rfl)
theorem uTakes_23_ok (u : Unit) : FnSpec Try.prog 27 1000 [Unit.enc u, .int .u8 23] [] (.bool (uTakes_23 u)) [] := by
  exact uTakes_23_p1 u

/-- (kotatsu/alu.Unit).Takes -/
def uTakes_24 (u : Unit) : Bool :=
  false
theorem uTakes_24_p1 (u : Unit) : FnSpec Try.prog 27 1000 [Unit.enc u, .int .u8 24] [] (.bool false) [] := by
  exact fn_of_x hG hM Try.func27 (by kernel_rfl) (by kernel_rfl) 400 [.call [] [] 1000 (.int .u8 2) [], .yes] (And.intro (aKind_ok 24) (And.intro (Eq.refl true) trivial)) (by kernel_rfl)
theorem uTakes_24_ok (u : Unit) : FnSpec Try.prog 27 1000 [Unit.enc u, .int .u8 24] [] (.bool (uTakes_24 u)) [] := by
  exact uTakes_24_p1 u

/-- (kotatsu/alu.Unit).Takes -/
def uTakes_25 (u : Unit) : Bool :=
  false
theorem uTakes_25_p1 (u : Unit) : FnSpec Try.prog 27 1000 [Unit.enc u, .int .u8 25] [] (.bool false) [] := by
  exact fn_of_x hG hM Try.func27 (by kernel_rfl) (by kernel_rfl) 400 [.call [] [] 1000 (.int .u8 2) [], .yes] (And.intro (aKind_ok 25) (And.intro (Eq.refl true) trivial)) (by kernel_rfl)
theorem uTakes_25_ok (u : Unit) : FnSpec Try.prog 27 1000 [Unit.enc u, .int .u8 25] [] (.bool (uTakes_25 u)) [] := by
  exact uTakes_25_p1 u

/-- (kotatsu/alu.Unit).Takes -/
def uTakes_26 (u : Unit) : Bool :=
  false
theorem uTakes_26_p1 (u : Unit) : FnSpec Try.prog 27 1000 [Unit.enc u, .int .u8 26] [] (.bool false) [] := by
  exact fn_of_x hG hM Try.func27 (by kernel_rfl) (by kernel_rfl) 400 [.call [] [] 1000 (.int .u8 2) [], .yes] (And.intro (aKind_ok 26) (And.intro (Eq.refl true) trivial)) (by kernel_rfl)
theorem uTakes_26_ok (u : Unit) : FnSpec Try.prog 27 1000 [Unit.enc u, .int .u8 26] [] (.bool (uTakes_26 u)) [] := by
  exact uTakes_26_p1 u

/-- (kotatsu/alu.Unit).Takes -/
def uTakes_27 (u : Unit) : Bool :=
  false
theorem uTakes_27_p1 (u : Unit) : FnSpec Try.prog 27 1000 [Unit.enc u, .int .u8 27] [] (.bool false) [] := by
  exact fn_of_x hG hM Try.func27 (by kernel_rfl) (by kernel_rfl) 400 [.call [] [] 1000 (.int .u8 2) [], .yes] (And.intro (aKind_ok 27) (And.intro (Eq.refl true) trivial)) (by kernel_rfl)
theorem uTakes_27_ok (u : Unit) : FnSpec Try.prog 27 1000 [Unit.enc u, .int .u8 27] [] (.bool (uTakes_27 u)) [] := by
  exact uTakes_27_p1 u

/-- (kotatsu/alu.Unit).Takes -/
def uTakes_28 (u : Unit) : Bool :=
  false
theorem uTakes_28_p1 (u : Unit) : FnSpec Try.prog 27 1000 [Unit.enc u, .int .u8 28] [] (.bool false) [] := by
  exact fn_of_x hG hM Try.func27 (by kernel_rfl) (by kernel_rfl) 400 [.call [] [] 1000 (.int .u8 2) [], .yes] (And.intro (aKind_ok 28) (And.intro (Eq.refl true) trivial)) (by kernel_rfl)
theorem uTakes_28_ok (u : Unit) : FnSpec Try.prog 27 1000 [Unit.enc u, .int .u8 28] [] (.bool (uTakes_28 u)) [] := by
  exact uTakes_28_p1 u

/-- (kotatsu/alu.Unit).Takes -/
def uTakes_29 (u : Unit) : Bool :=
  false
theorem uTakes_29_p1 (u : Unit) : FnSpec Try.prog 27 1000 [Unit.enc u, .int .u8 29] [] (.bool false) [] := by
  exact fn_of_x hG hM Try.func27 (by kernel_rfl) (by kernel_rfl) 400 [.call [] [] 1000 (.int .u8 2) [], .yes] (And.intro (aKind_ok 29) (And.intro (Eq.refl true) trivial)) (by kernel_rfl)
theorem uTakes_29_ok (u : Unit) : FnSpec Try.prog 27 1000 [Unit.enc u, .int .u8 29] [] (.bool (uTakes_29 u)) [] := by
  exact uTakes_29_p1 u

/-- (kotatsu/alu.Unit).Takes -/
def uTakes_30 (u : Unit) : Bool :=
  false
theorem uTakes_30_p1 (u : Unit) : FnSpec Try.prog 27 1000 [Unit.enc u, .int .u8 30] [] (.bool false) [] := by
  exact fn_of_x hG hM Try.func27 (by kernel_rfl) (by kernel_rfl) 400 [.call [] [] 1000 (.int .u8 2) [], .yes] (And.intro (aKind_ok 30) (And.intro (Eq.refl true) trivial)) (by kernel_rfl)
theorem uTakes_30_ok (u : Unit) : FnSpec Try.prog 27 1000 [Unit.enc u, .int .u8 30] [] (.bool (uTakes_30 u)) [] := by
  exact uTakes_30_p1 u

/-- (kotatsu/alu.Unit).Takes -/
def uTakes_31 (u : Unit) : Bool :=
  false
theorem uTakes_31_p1 (u : Unit) : FnSpec Try.prog 27 1000 [Unit.enc u, .int .u8 31] [] (.bool false) [] := by
  exact fn_of_x hG hM Try.func27 (by kernel_rfl) (by kernel_rfl) 400 [.call [] [] 1000 (.int .u8 3) [], .yes] (And.intro (aKind_ok 31) (And.intro (Eq.refl true) trivial)) (by kernel_rfl)
theorem uTakes_31_ok (u : Unit) : FnSpec Try.prog 27 1000 [Unit.enc u, .int .u8 31] [] (.bool (uTakes_31 u)) [] := by
  exact uTakes_31_p1 u

/-- (kotatsu/alu.Unit).Takes -/
def uTakes_32 (u : Unit) : Bool :=
  false
theorem uTakes_32_p1 (u : Unit) : FnSpec Try.prog 27 1000 [Unit.enc u, .int .u8 32] [] (.bool false) [] := by
  exact fn_of_x hG hM Try.func27 (by kernel_rfl) (by kernel_rfl) 400 [.call [] [] 1000 (.int .u8 3) [], .yes] (And.intro (aKind_ok 32) (And.intro (Eq.refl true) trivial)) (by kernel_rfl)
theorem uTakes_32_ok (u : Unit) : FnSpec Try.prog 27 1000 [Unit.enc u, .int .u8 32] [] (.bool (uTakes_32 u)) [] := by
  exact uTakes_32_p1 u

/-- (kotatsu/alu.Unit).Takes -/
def uTakes_33 (u : Unit) : Bool :=
  false
theorem uTakes_33_p1 (u : Unit) : FnSpec Try.prog 27 1000 [Unit.enc u, .int .u8 33] [] (.bool false) [] := by
  exact fn_of_x hG hM Try.func27 (by kernel_rfl) (by kernel_rfl) 400 [.call [] [] 1000 (.int .u8 3) [], .yes] (And.intro (aKind_ok 33) (And.intro (Eq.refl true) trivial)) (by kernel_rfl)
theorem uTakes_33_ok (u : Unit) : FnSpec Try.prog 27 1000 [Unit.enc u, .int .u8 33] [] (.bool (uTakes_33 u)) [] := by
  exact uTakes_33_p1 u

/-- (kotatsu/alu.Unit).Takes -/
def uTakes_34 (u : Unit) : Bool :=
  false
theorem uTakes_34_p1 (u : Unit) : FnSpec Try.prog 27 1000 [Unit.enc u, .int .u8 34] [] (.bool false) [] := by
  exact fn_of_x hG hM Try.func27 (by kernel_rfl) (by kernel_rfl) 400 [.call [] [] 1000 (.int .u8 3) [], .yes] (And.intro (aKind_ok 34) (And.intro (Eq.refl true) trivial)) (by kernel_rfl)
theorem uTakes_34_ok (u : Unit) : FnSpec Try.prog 27 1000 [Unit.enc u, .int .u8 34] [] (.bool (uTakes_34 u)) [] := by
  exact uTakes_34_p1 u

/-- (kotatsu/alu.Unit).Takes -/
def uTakes_35 (u : Unit) : Bool :=
  false
theorem uTakes_35_p1 (u : Unit) : FnSpec Try.prog 27 1000 [Unit.enc u, .int .u8 35] [] (.bool false) [] := by
  exact fn_of_x hG hM Try.func27 (by kernel_rfl) (by kernel_rfl) 400 [.call [] [] 1000 (.int .u8 4) [], .yes] (And.intro (aKind_ok 35) (And.intro (Eq.refl true) trivial)) (by kernel_rfl)
theorem uTakes_35_ok (u : Unit) : FnSpec Try.prog 27 1000 [Unit.enc u, .int .u8 35] [] (.bool (uTakes_35 u)) [] := by
  exact uTakes_35_p1 u

/-- (kotatsu/alu.Unit).Takes -/
def uTakes_36 (u : Unit) : Bool :=
  false
theorem uTakes_36_p1 (u : Unit) : FnSpec Try.prog 27 1000 [Unit.enc u, .int .u8 36] [] (.bool false) [] := by
  exact fn_of_x hG hM Try.func27 (by kernel_rfl) (by kernel_rfl) 400 [.call [] [] 1000 (.int .u8 4) [], .yes] (And.intro (aKind_ok 36) (And.intro (Eq.refl true) trivial)) (by kernel_rfl)
theorem uTakes_36_ok (u : Unit) : FnSpec Try.prog 27 1000 [Unit.enc u, .int .u8 36] [] (.bool (uTakes_36 u)) [] := by
  exact uTakes_36_p1 u

/-- (kotatsu/alu.Unit).Takes -/
def uTakes_37 (u : Unit) : Bool :=
  false
theorem uTakes_37_p1 (u : Unit) : FnSpec Try.prog 27 1000 [Unit.enc u, .int .u8 37] [] (.bool false) [] := by
  exact fn_of_x hG hM Try.func27 (by kernel_rfl) (by kernel_rfl) 400 [.call [] [] 1000 (.int .u8 4) [], .yes] (And.intro (aKind_ok 37) (And.intro (Eq.refl true) trivial)) (by kernel_rfl)
theorem uTakes_37_ok (u : Unit) : FnSpec Try.prog 27 1000 [Unit.enc u, .int .u8 37] [] (.bool (uTakes_37 u)) [] := by
  exact uTakes_37_p1 u

/-- (kotatsu/alu.Unit).Takes -/
def uTakes_38 (u : Unit) : Bool :=
  false
theorem uTakes_38_p1 (u : Unit) : FnSpec Try.prog 27 1000 [Unit.enc u, .int .u8 38] [] (.bool false) [] := by
  exact fn_of_x hG hM Try.func27 (by kernel_rfl) (by kernel_rfl) 400 [.call [] [] 1000 (.int .u8 4) [], .yes] (And.intro (aKind_ok 38) (And.intro (Eq.refl true) trivial)) (by kernel_rfl)
theorem uTakes_38_ok (u : Unit) : FnSpec Try.prog 27 1000 [Unit.enc u, .int .u8 38] [] (.bool (uTakes_38 u)) [] := by
  exact uTakes_38_p1 u

/-- (kotatsu/alu.Unit).Takes -/
def uTakes_39 (u : Unit) : Bool :=
  false
theorem uTakes_39_p1 (u : Unit) : FnSpec Try.prog 27 1000 [Unit.enc u, .int .u8 39] [] (.bool false) [] := by
  exact fn_of_x hG hM Try.func27 (by kernel_rfl) (by kernel_rfl) 400 [.call [] [] 1000 (.int .u8 4) [], .yes] (And.intro (aKind_ok 39) (And.intro (Eq.refl true) trivial)) (by kernel_rfl)
theorem uTakes_39_ok (u : Unit) : FnSpec Try.prog 27 1000 [Unit.enc u, .int .u8 39] [] (.bool (uTakes_39 u)) [] := by
  exact uTakes_39_p1 u

/-- (kotatsu/alu.Unit).Takes -/
def uTakes_40 (u : Unit) : Bool :=
  false
theorem uTakes_40_p1 (u : Unit) : FnSpec Try.prog 27 1000 [Unit.enc u, .int .u8 40] [] (.bool false) [] := by
  exact fn_of_x hG hM Try.func27 (by kernel_rfl) (by kernel_rfl) 400 [.call [] [] 1000 (.int .u8 4) [], .yes] (And.intro (aKind_ok 40) (And.intro (Eq.refl true) trivial)) (by kernel_rfl)
theorem uTakes_40_ok (u : Unit) : FnSpec Try.prog 27 1000 [Unit.enc u, .int .u8 40] [] (.bool (uTakes_40 u)) [] := by
  exact uTakes_40_p1 u

/-- (kotatsu/alu.Unit).Takes -/
def uTakes_41 (u : Unit) : Bool :=
  false
theorem uTakes_41_p1 (u : Unit) : FnSpec Try.prog 27 1000 [Unit.enc u, .int .u8 41] [] (.bool false) [] := by
  exact fn_of_x hG hM Try.func27 (by kernel_rfl) (by kernel_rfl) 400 [.call [] [] 1000 (.int .u8 4) [], .yes] (And.intro (aKind_ok 41) (And.intro (Eq.refl true) trivial)) (by kernel_rfl)
theorem uTakes_41_ok (u : Unit) : FnSpec Try.prog 27 1000 [Unit.enc u, .int .u8 41] [] (.bool (uTakes_41 u)) [] := by
  exact uTakes_41_p1 u

/-- (kotatsu/alu.Unit).Takes -/
def uTakes_42 (u : Unit) : Bool :=
  false
theorem uTakes_42_p1 (u : Unit) : FnSpec Try.prog 27 1000 [Unit.enc u, .int .u8 42] [] (.bool false) [] := by
  exact fn_of_x hG hM Try.func27 (by kernel_rfl) (by kernel_rfl) 400 [.call [] [] 1000 (.int .u8 4) [], .yes] (And.intro (aKind_ok 42) (And.intro (Eq.refl true) trivial)) (by kernel_rfl)
theorem uTakes_42_ok (u : Unit) : FnSpec Try.prog 27 1000 [Unit.enc u, .int .u8 42] [] (.bool (uTakes_42 u)) [] := by
  exact uTakes_42_p1 u

/-- (kotatsu/alu.Unit).Takes -/
def uTakes_43 (u : Unit) : Bool :=
  false
theorem uTakes_43_p1 (u : Unit) : FnSpec Try.prog 27 1000 [Unit.enc u, .int .u8 43] [] (.bool false) [] := by
  exact fn_of_x hG hM Try.func27 (by kernel_rfl) (by kernel_rfl) 400 [.call [] [] 1000 (.int .u8 4) [], .yes] (And.intro (aKind_ok 43) (And.intro (Eq.refl true) trivial)) (by kernel_rfl)
theorem uTakes_43_ok (u : Unit) : FnSpec Try.prog 27 1000 [Unit.enc u, .int .u8 43] [] (.bool (uTakes_43 u)) [] := by
  exact uTakes_43_p1 u

/-- (kotatsu/alu.Unit).Takes -/
def uTakes_44 (u : Unit) : Bool :=
  false
theorem uTakes_44_p1 (u : Unit) : FnSpec Try.prog 27 1000 [Unit.enc u, .int .u8 44] [] (.bool false) [] := by
  exact fn_of_x hG hM Try.func27 (by kernel_rfl) (by kernel_rfl) 400 [.call [] [] 1000 (.int .u8 4) [], .yes] (And.intro (aKind_ok 44) (And.intro (Eq.refl true) trivial)) (by kernel_rfl)
theorem uTakes_44_ok (u : Unit) : FnSpec Try.prog 27 1000 [Unit.enc u, .int .u8 44] [] (.bool (uTakes_44 u)) [] := by
  exact uTakes_44_p1 u

/-- (kotatsu/alu.Unit).Takes -/
def uTakes_45 (u : Unit) : Bool :=
  false
theorem uTakes_45_p1 (u : Unit) : FnSpec Try.prog 27 1000 [Unit.enc u, .int .u8 45] [] (.bool false) [] := by
  exact fn_of_x hG hM Try.func27 (by kernel_rfl) (by kernel_rfl) 400 [.call [] [] 1000 (.int .u8 4) [], .yes] (And.intro (aKind_ok 45) (And.intro (Eq.refl true) trivial)) (by kernel_rfl)
theorem uTakes_45_ok (u : Unit) : FnSpec Try.prog 27 1000 [Unit.enc u, .int .u8 45] [] (.bool (uTakes_45 u)) [] := by
  exact uTakes_45_p1 u

/-- (kotatsu/alu.Unit).Takes -/
def uTakes_46 (u : Unit) : Bool :=
  false
theorem uTakes_46_p1 (u : Unit) : FnSpec Try.prog 27 1000 [Unit.enc u, .int .u8 46] [] (.bool false) [] := by
  exact fn_of_x hG hM Try.func27 (by kernel_rfl) (by kernel_rfl) 400 [.call [] [] 1000 (.int .u8 4) [], .yes] (And.intro (aKind_ok 46) (And.intro (Eq.refl true) trivial)) (by kernel_rfl)
theorem uTakes_46_ok (u : Unit) : FnSpec Try.prog 27 1000 [Unit.enc u, .int .u8 46] [] (.bool (uTakes_46 u)) [] := by
  exact uTakes_46_p1 u

/-- (kotatsu/alu.Unit).Takes -/
def uTakes_47 (u : Unit) : Bool :=
  false
theorem uTakes_47_p1 (u : Unit) : FnSpec Try.prog 27 1000 [Unit.enc u, .int .u8 47] [] (.bool false) [] := by
  exact fn_of_x hG hM Try.func27 (by kernel_rfl) (by kernel_rfl) 400 [.call [] [] 1000 (.int .u8 4) [], .yes] (And.intro (aKind_ok 47) (And.intro (Eq.refl true) trivial)) (by kernel_rfl)
theorem uTakes_47_ok (u : Unit) : FnSpec Try.prog 27 1000 [Unit.enc u, .int .u8 47] [] (.bool (uTakes_47 u)) [] := by
  exact uTakes_47_p1 u

/-- (kotatsu/alu.Unit).Takes -/
def uTakes_48 (u : Unit) : Bool :=
  false
theorem uTakes_48_p1 (u : Unit) : FnSpec Try.prog 27 1000 [Unit.enc u, .int .u8 48] [] (.bool false) [] := by
  exact fn_of_x hG hM Try.func27 (by kernel_rfl) (by kernel_rfl) 400 [.call [] [] 1000 (.int .u8 4) [], .yes] (And.intro (aKind_ok 48) (And.intro (Eq.refl true) trivial)) (by kernel_rfl)
theorem uTakes_48_ok (u : Unit) : FnSpec Try.prog 27 1000 [Unit.enc u, .int .u8 48] [] (.bool (uTakes_48 u)) [] := by
  exact uTakes_48_p1 u

/-- (kotatsu/alu.Unit).Takes -/
def uTakes_49 (u : Unit) : Bool :=
  false
theorem uTakes_49_p1 (u : Unit) : FnSpec Try.prog 27 1000 [Unit.enc u, .int .u8 49] [] (.bool false) [] := by
  exact fn_of_x hG hM Try.func27 (by kernel_rfl) (by kernel_rfl) 400 [.call [] [] 1000 (.int .u8 4) [], .yes] (And.intro (aKind_ok 49) (And.intro (Eq.refl true) trivial)) (by kernel_rfl)
theorem uTakes_49_ok (u : Unit) : FnSpec Try.prog 27 1000 [Unit.enc u, .int .u8 49] [] (.bool (uTakes_49 u)) [] := by
  exact uTakes_49_p1 u

/-- (kotatsu/alu.Unit).Takes -/
def uTakes_50 (u : Unit) : Bool :=
  false
theorem uTakes_50_p1 (u : Unit) : FnSpec Try.prog 27 1000 [Unit.enc u, .int .u8 50] [] (.bool false) [] := by
  exact fn_of_x hG hM Try.func27 (by kernel_rfl) (by kernel_rfl) 400 [.call [] [] 1000 (.int .u8 4) [], .yes] (And.intro (aKind_ok 50) (And.intro (Eq.refl true) trivial)) (by kernel_rfl)
theorem uTakes_50_ok (u : Unit) : FnSpec Try.prog 27 1000 [Unit.enc u, .int .u8 50] [] (.bool (uTakes_50 u)) [] := by
  exact uTakes_50_p1 u

/-- (kotatsu/alu.Unit).Takes -/
def uTakes_51 (u : Unit) : Bool :=
  false
theorem uTakes_51_p1 (u : Unit) : FnSpec Try.prog 27 1000 [Unit.enc u, .int .u8 51] [] (.bool false) [] := by
  exact fn_of_x hG hM Try.func27 (by kernel_rfl) (by kernel_rfl) 400 [.call [] [] 1000 (.int .u8 4) [], .yes] (And.intro (aKind_ok 51) (And.intro (Eq.refl true) trivial)) (by kernel_rfl)
theorem uTakes_51_ok (u : Unit) : FnSpec Try.prog 27 1000 [Unit.enc u, .int .u8 51] [] (.bool (uTakes_51 u)) [] := by
  exact uTakes_51_p1 u

/-- (kotatsu/alu.Unit).Takes -/
def uTakes_52 (u : Unit) : Bool :=
  ((((bAnd .u8 u.P 128) : Int) != 0) == false)
theorem uTakes_52_p1 (u : Unit) : FnSpec Try.prog 27 1000 [Unit.enc u, .int .u8 52] [] (.bool ((((bAnd .u8 u.P 128) : Int) != 0) == false)) [] := by
  exact fn_of_x hG hM Try.func27 (by kernel_rfl) (by kernel_rfl) 400 [.call [] [] 1000 (.int .u8 5) [], .no, .lit 0] (And.intro (aKind_ok 52) (And.intro (Eq.refl false) (And.intro (by decide : ((2 : Int) ≠ 0)) (And.intro (Eq.refl (0 : Int)) (And.intro (by decide : 0 < 4) (And.intro (by decide : ((2 : Int) ≠ 0)) trivial)))))) (by kernel_rfl)
theorem uTakes_52_ok (u : Unit) : FnSpec Try.prog 27 1000 [Unit.enc u, .int .u8 52] [] (.bool (uTakes_52 u)) [] := by
  exact uTakes_52_p1 u

/-- (kotatsu/alu.Unit).Takes -/
def uTakes_53 (u : Unit) : Bool :=
  ((((bAnd .u8 u.P 128) : Int) != 0) == true)
theorem uTakes_53_p1 (u : Unit) : FnSpec Try.prog 27 1000 [Unit.enc u, .int .u8 53] [] (.bool ((((bAnd .u8 u.P 128) : Int) != 0) == true)) [] := by
  exact fn_of_x hG hM Try.func27 (by kernel_rfl) (by kernel_rfl) 400 [.call [] [] 1000 (.int .u8 5) [], .no, .lit 0] (And.intro (aKind_ok 53) (And.intro (Eq.refl false) (And.intro (by decide : ((2 : Int) ≠ 0)) (And.intro (Eq.refl (0 : Int)) (And.intro (by decide : 0 < 4) (And.intro (by decide : ((2 : Int) ≠ 0)) trivial)))))) (by kernel_rfl)
theorem uTakes_53_ok (u : Unit) : FnSpec Try.prog 27 1000 [Unit.enc u, .int .u8 53] [] (.bool (uTakes_53 u)) [] := by
  exact uTakes_53_p1 u

/-- (kotatsu/alu.Unit).Takes -/
def uTakes_54 (u : Unit) : Bool :=
  ((((bAnd .u8 u.P 64) : Int) != 0) == false)
theorem uTakes_54_p1 (u : Unit) : FnSpec Try.prog 27 1000 [Unit.enc u, .int .u8 54] [] (.bool ((((bAnd .u8 u.P 64) : Int) != 0) == false)) [] := by
  exact fn_of_x hG hM Try.func27 (by kernel_rfl) (by kernel_rfl) 400 [.call [] [] 1000 (.int .u8 5) [], .no, .lit 1] (And.intro (aKind_ok 54) (And.intro (Eq.refl false) (And.intro (by decide : ((2 : Int) ≠ 0)) (And.intro (Eq.refl (1 : Int)) (And.intro (by decide : 1 < 4) (And.intro (by decide : ((2 : Int) ≠ 0)) trivial)))))) (by kernel_rfl)
theorem uTakes_54_ok (u : Unit) : FnSpec Try.prog 27 1000 [Unit.enc u, .int .u8 54] [] (.bool (uTakes_54 u)) [] := by
  exact uTakes_54_p1 u

/-- (kotatsu/alu.Unit).Takes -/
def uTakes_55 (u : Unit) : Bool :=
  ((((bAnd .u8 u.P 64) : Int) != 0) == true)
theorem uTakes_55_p1 (u : Unit) : FnSpec Try.prog 27 1000 [Unit.enc u, .int .u8 55] [] (.bool ((((bAnd .u8 u.P 64) : Int) != 0) == true)) [] := by
  exact fn_of_x hG hM Try.func27 (by kernel_rfl) (by kernel_rfl) 400 [.call [] [] 1000 (.int .u8 5) [], .no, .lit 1] (And.intro (aKind_ok 55) (And.intro (Eq.refl false) (And.intro (by decide : ((2 : Int) ≠ 0)) (And.intro (Eq.refl (1 : Int)) (And.intro (by decide : 1 < 4) (And.intro (by decide : ((2 : Int) ≠ 0)) trivial)))))) (by kernel_rfl)
theorem uTakes_55_ok (u : Unit) : FnSpec Try.prog 27 1000 [Unit.enc u, .int .u8 55] [] (.bool (uTakes_55 u)) [] := by
  exact uTakes_55_p1 u

/-- (kotatsu/alu.Unit).Takes -/
def uTakes_56 (u : Unit) : Bool :=
  ((((bAnd .u8 u.P 1) : Int) != 0) == false)
theorem uTakes_56_p1 (u : Unit) : FnSpec Try.prog 27 1000 [Unit.enc u, .int .u8 56] [] (.bool ((((bAnd .u8 u.P 1) : Int) != 0) == false)) [] := by
  exact fn_of_x hG hM Try.func27 (by kernel_rfl) (by kernel_rfl) 400 [.call [] [] 1000 (.int .u8 5) [], .no, .lit 2] (And.intro (aKind_ok 56) (And.intro (Eq.refl false) (And.intro (by decide : ((2 : Int) ≠ 0)) (And.intro (Eq.refl (2 : Int)) (And.intro (by decide : 2 < 4) (And.intro (by decide : ((2 : Int) ≠ 0)) trivial)))))) (by kernel_rfl)
theorem uTakes_56_ok (u : Unit) : FnSpec Try.prog 27 1000 [Unit.enc u, .int .u8 56] [] (.bool (uTakes_56 u)) [] := by
  exact uTakes_56_p1 u

/-- (kotatsu/alu.Unit).Takes -/
def uTakes_57 (u : Unit) : Bool :=
  ((((bAnd .u8 u.P 1) : Int) != 0) == true)
theorem uTakes_57_p1 (u : Unit) : FnSpec Try.prog 27 1000 [Unit.enc u, .int .u8 57] [] (.bool ((((bAnd .u8 u.P 1) : Int) != 0) == true)) [] := by
  exact fn_of_x hG hM Try.func27 (by kernel_rfl) (by kernel_rfl) 400 [.call [] [] 1000 (.int .u8 5) [], .no, .lit 2] (And.intro (aKind_ok 57) (And.intro (Eq.refl false) (And.intro (by decide : ((2 : Int) ≠ 0)) (And.intro (Eq.refl (2 : Int)) (And.intro (by decide : 2 < 4) (And.intro (by decide : ((2 : Int) ≠ 0)) trivial)))))) (by kernel_rfl)
theorem uTakes_57_ok (u : Unit) : FnSpec Try.prog 27 1000 [Unit.enc u, .int .u8 57] [] (.bool (uTakes_57 u)) [] := by
  exact uTakes_57_p1 u

/-- (kotatsu/alu.Unit).Takes -/
def uTakes_58 (u : Unit) : Bool :=
  ((((bAnd .u8 u.P 2) : Int) != 0) == false)
theorem uTakes_58_p1 (u : Unit) : FnSpec Try.prog 27 1000 [Unit.enc u, .int .u8 58] [] (.bool ((((bAnd .u8 u.P 2) : Int) != 0) == false)) [] := by
  exact fn_of_x hG hM Try.func27 (by kernel_rfl) (by kernel_rfl) 400 [.call [] [] 1000 (.int .u8 5) [], .no, .lit 3] (And.intro (aKind_ok 58) (And.intro (Eq.refl false) (And.intro (by decide : ((2 : Int) ≠ 0)) (And.intro (Eq.refl (3 : Int)) (And.intro (by decide : 3 < 4) (And.intro (by decide : ((2 : Int) ≠ 0)) trivial)))))) (by kernel_rfl)
theorem uTakes_58_ok (u : Unit) : FnSpec Try.prog 27 1000 [Unit.enc u, .int .u8 58] [] (.bool (uTakes_58 u)) [] := by
  exact uTakes_58_p1 u

/-- (kotatsu/alu.Unit).Takes -/
def uTakes_59 (u : Unit) : Bool :=
  ((((bAnd .u8 u.P 2) : Int) != 0) == true)
theorem uTakes_59_p1 (u : Unit) : FnSpec Try.prog 27 1000 [Unit.enc u, .int .u8 59] [] (.bool ((((bAnd .u8 u.P 2) : Int) != 0) == true)) [] := by
  exact fn_of_x hG hM Try.func27 (by kernel_rfl) (by kernel_rfl) 400 [.call [] [] 1000 (.int .u8 5) [], .no, .lit 3] (And.intro (aKind_ok 59) (And.intro (Eq.refl false) (And.intro (by decide : ((2 : Int) ≠ 0)) (And.intro (Eq.refl (3 : Int)) (And.intro (by decide : 3 < 4) (And.intro (by decide : ((2 : Int) ≠ 0)) trivial)))))) (by kernel_rfl)
theorem uTakes_59_ok (u : Unit) : FnSpec Try.prog 27 1000 [Unit.enc u, .int .u8 59] [] (.bool (uTakes_59 u)) [] := by
  exact uTakes_59_p1 u

/-- (kotatsu/alu.Unit).Takes -/
def uTakes_60 (u : Unit) : Bool :=
  false
theorem uTakes_60_p1 (u : Unit) : FnSpec Try.prog 27 1000 [Unit.enc u, .int .u8 60] [] (.bool false) [] := by
  exact fn_of_x hG hM Try.func27 (by kernel_rfl) (by kernel_rfl) 400 [.call [] [] 1000 (.int .u8 6) [], .yes] (And.intro (aKind_ok 60) (And.intro (Eq.refl true) trivial)) (by kernel_rfl)
theorem uTakes_60_ok (u : Unit) : FnSpec Try.prog 27 1000 [Unit.enc u, .int .u8 60] [] (.bool (uTakes_60 u)) [] := by
  exact uTakes_60_p1 u

/-- (kotatsu/alu.Unit).Takes -/
def uTakes_61 (u : Unit) : Bool :=
  false
theorem uTakes_61_p1 (u : Unit) : FnSpec Try.prog 27 1000 [Unit.enc u, .int .u8 61] [] (.bool false) [] := by
  exact fn_of_x hG hM Try.func27 (by kernel_rfl) (by kernel_rfl) 400 [.call [] [] 1000 (.int .u8 6) [], .yes] (And.intro (aKind_ok 61) (And.intro (Eq.refl true) trivial)) (by kernel_rfl)
theorem uTakes_61_ok (u : Unit) : FnSpec Try.prog 27 1000 [Unit.enc u, .int .u8 61] [] (.bool (uTakes_61 u)) [] := by
  exact uTakes_61_p1 u

/-- (kotatsu/alu.Unit).Takes -/
def uTakes_62 (u : Unit) : Bool :=
  false
theorem uTakes_62_p1 (u : Unit) : FnSpec Try.prog 27 1000 [Unit.enc u, .int .u8 62] [] (.bool false) [] := by
  exact fn_of_x hG hM Try.func27 (by kernel_rfl) (by kernel_rfl) 400 [.call [] [] 1000 (.int .u8 6) [], .yes] (And.intro (aKind_ok 62) (And.intro (Eq.refl true) trivial)) (by kernel_rfl)
theorem uTakes_62_ok (u : Unit) : FnSpec Try.prog 27 1000 [Unit.enc u, .int .u8 62] [] (.bool (uTakes_62 u)) [] := by
  exact uTakes_62_p1 u

/-- (kotatsu/alu.Unit).Takes -/
def uTakes_63 (u : Unit) : Bool :=
  false
theorem uTakes_63_p1 (u : Unit) : FnSpec Try.prog 27 1000 [Unit.enc u, .int .u8 63] [] (.bool false) [] := by
  exact fn_of_x hG hM Try.func27 (by kernel_rfl) (by kernel_rfl) 400 [.call [] [] 1000 (.int .u8 6) [], .yes] (And.intro (aKind_ok 63) (And.intro (Eq.refl true) trivial)) (by kernel_rfl)
theorem uTakes_63_ok (u : Unit) : FnSpec Try.prog 27 1000 [Unit.enc u, .int .u8 63] [] (.bool (uTakes_63 u)) [] := by
  exact uTakes_63_p1 u

/-- (kotatsu/alu.Unit).Takes -/
def uTakes_64 (u : Unit) : Bool :=
  false
theorem uTakes_64_p1 (u : Unit) : FnSpec Try.prog 27 1000 [Unit.enc u, .int .u8 64] [] (.bool false) [] := by
  exact fn_of_x hG hM Try.func27 (by kernel_rfl) (by kernel_rfl) 400 [.call [] [] 1000 (.int .u8 6) [], .yes] (And.intro (aKind_ok 64) (And.intro (Eq.refl true) trivial)) (by kernel_rfl)
theorem uTakes_64_ok (u : Unit) : FnSpec Try.prog 27 1000 [Unit.enc u, .int .u8 64] [] (.bool (uTakes_64 u)) [] := by
  exact uTakes_64_p1 u

/-- (kotatsu/alu.Unit).Takes -/
def uTakes_65 (u : Unit) : Bool :=
  false
theorem uTakes_65_p1 (u : Unit) : FnSpec Try.prog 27 1000 [Unit.enc u, .int .u8 65] [] (.bool false) [] := by
  exact fn_of_x hG hM Try.func27 (by kernel_rfl) (by kernel_rfl) 400 [.call [] [] 1000 (.int .u8 6) [], .yes] (And.intro (aKind_ok 65) (And.intro (Eq.refl true) trivial)) (by kernel_rfl)
theorem uTakes_65_ok (u : Unit) : FnSpec Try.prog 27 1000 [Unit.enc u, .int .u8 65] [] (.bool (uTakes_65 u)) [] := by
  exact uTakes_65_p1 u

/-- (kotatsu/alu.Unit).Takes -/
def uTakes_66 (u : Unit) : Bool :=
  false
theorem uTakes_66_p1 (u : Unit) : FnSpec Try.prog 27 1000 [Unit.enc u, .int .u8 66] [] (.bool false) [] := by
  exact fn_of_x hG hM Try.func27 (by kernel_rfl) (by kernel_rfl) 400 [.call [] [] 1000 (.int .u8 6) [], .yes] (And.intro (aKind_ok 66) (And.intro (Eq.refl true) trivial)) (by kernel_rfl)
theorem uTakes_66_ok (u : Unit) : FnSpec Try.prog 27 1000 [Unit.enc u, .int .u8 66] [] (.bool (uTakes_66 u)) [] := by
  exact uTakes_66_p1 u

/-- (kotatsu/alu.Unit).Takes -/
def uTakes_67 (u : Unit) : Bool :=
  false
theorem uTakes_67_p1 (u : Unit) : FnSpec Try.prog 27 1000 [Unit.enc u, .int .u8 67] [] (.bool false) [] := by
  exact fn_of_x hG hM Try.func27 (by kernel_rfl) (by kernel_rfl) 400 [.call [] [] 1000 (.int .u8 6) [], .yes] (And.intro (aKind_ok 67) (And.intro (Eq.refl true) trivial)) (by kernel_rfl)
theorem uTakes_67_ok (u : Unit) : FnSpec Try.prog 27 1000 [Unit.enc u, .int .u8 67] [] (.bool (uTakes_67 u)) [] := by
  exact uTakes_67_p1 u

/-- (kotatsu/alu.Unit).Takes -/
def uTakes_68 (u : Unit) : Bool :=
  false
theorem uTakes_68_p1 (u : Unit) : FnSpec Try.prog 27 1000 [Unit.enc u, .int .u8 68] [] (.bool false) [] := by
  exact fn_of_x hG hM Try.func27 (by kernel_rfl) (by kernel_rfl) 400 [.call [] [] 1000 (.int .u8 6) [], .yes] (And.intro (aKind_ok 68) (And.intro (Eq.refl true) trivial)) (by kernel_rfl)
theorem uTakes_68_ok (u : Unit) : FnSpec Try.prog 27 1000 [Unit.enc u, .int .u8 68] [] (.bool (uTakes_68 u)) [] := by
  exact uTakes_68_p1 u

/-- (kotatsu/alu.Unit).Takes -/
def uTakes_69 (u : Unit) : Bool :=
  false
theorem uTakes_69_p1 (u : Unit) : FnSpec Try.prog 27 1000 [Unit.enc u, .int .u8 69] [] (.bool false) [] := by
  exact fn_of_x hG hM Try.func27 (by kernel_rfl) (by kernel_rfl) 400 [.call [] [] 1000 (.int .u8 6) [], .yes] (And.intro (aKind_ok 69) (And.intro (Eq.refl true) trivial)) (by kernel_rfl)
theorem uTakes_69_ok (u : Unit) : FnSpec Try.prog 27 1000 [Unit.enc u, .int .u8 69] [] (.bool (uTakes_69 u)) [] := by
  exact uTakes_69_p1 u

/-- (kotatsu/alu.Unit).Takes -/
def uTakes_hi (u : Unit) (op : Int) : Bool :=
  false
theorem uTakes_hi_p1 (u : Unit) (op : Int) (h : 70 ≤ op) : FnSpec Try.prog 27 1000 [Unit.enc u, .int .u8 op] [] (.bool false) [] := by
  have o1 : 70 ≤ op := by first | decide | omega
  exact fn_of_x hG hM Try.func27 (by kernel_rfl) (by kernel_rfl) 400 [.call [] [] 1000 (.int .u8 0) [], .yes] (And.intro (aKind_hi_ok op o1) (And.intro (Eq.refl true) trivial)) (by kernel_rfl)
theorem uTakes_hi_ok (u : Unit) (op : Int) (h : 70 ≤ op) : FnSpec Try.prog 27 1000 [Unit.enc u, .int .u8 op] [] (.bool (uTakes_hi u op)) [] := by
  exact uTakes_hi_p1 u op h

end Go.Proofs.Ytfjeifmenlnkkaa
