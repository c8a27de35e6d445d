/-
  The functions of layer 8, of the program, at each operation; and those of the reference. Written by gen_alu.py. No condition.
-/
import Derived.Test.YtfjeifmenlnkkaaAA
namespace Go.Proofs.Ytfjeifmenlnkkaa
open Go VX
set_option linter.unusedVariables false
set_option maxRecDepth 100000

/-- (kotatsu/alu.Unit).Change -/
def uChange_19 (u : Unit) (m : Int) : Unit × Int :=
  (((u_asl u m).1), (u_asl u m).2)
theorem uChange_19_p1 (u : Unit) (m : Int) : FnSpec Try.prog 30 1000 [Unit.enc u, .int .u8 19, .int .u8 m] [] (.tuple ⟨[Unit.enc ((((u_asl u m).1), (u_asl u m).2).1), .int .u8 ((((u_asl u m).1), (u_asl u m).2).2)]⟩) [] := by
  exact fn_of_x hG hM Try.func30 (by kernel_rfl) (by kernel_rfl) 400 [.call [] [] 1000 (.int .u8 2) [], .no, .lit 0, .call [] [] 1000 (.tuple ⟨[Unit.enc ((u_asl u m).1), .int .u8 ((u_asl u m).2)]⟩) []] (And.intro (aKind_ok 19) (And.intro (Eq.refl false) (And.intro (Eq.refl (0 : Int)) (And.intro (by decide : 0 < 12) (And.intro (u_asl_ok u m) trivial))))) (by kernel_rfl)
theorem uChange_19_ok (u : Unit) (m : Int) : FnSpec Try.prog 30 1000 [Unit.enc u, .int .u8 19, .int .u8 m] [] (.tuple ⟨[Unit.enc ((uChange_19 u m).1), .int .u8 ((uChange_19 u m).2)]⟩) [] := by
  exact uChange_19_p1 u m

/-- (kotatsu/alu.Unit).Change -/
def uChange_20 (u : Unit) (m : Int) : Unit × Int :=
  (((u_lsr u m).1), (u_lsr u m).2)
theorem uChange_20_p1 (u : Unit) (m : Int) : FnSpec Try.prog 30 1000 [Unit.enc u, .int .u8 20, .int .u8 m] [] (.tuple ⟨[Unit.enc ((((u_lsr u m).1), (u_lsr u m).2).1), .int .u8 ((((u_lsr u m).1), (u_lsr u m).2).2)]⟩) [] := by
  exact fn_of_x hG hM Try.func30 (by kernel_rfl) (by kernel_rfl) 400 [.call [] [] 1000 (.int .u8 2) [], .no, .lit 1, .call [] [] 1000 (.tuple ⟨[Unit.enc ((u_lsr u m).1), .int .u8 ((u_lsr u m).2)]⟩) []] (And.intro (aKind_ok 20) (And.intro (Eq.refl false) (And.intro (Eq.refl (1 : Int)) (And.intro (by decide : 1 < 12) (And.intro (u_lsr_ok u m) trivial))))) (by kernel_rfl)
theorem uChange_20_ok (u : Unit) (m : Int) : FnSpec Try.prog 30 1000 [Unit.enc u, .int .u8 20, .int .u8 m] [] (.tuple ⟨[Unit.enc ((uChange_20 u m).1), .int .u8 ((uChange_20 u m).2)]⟩) [] := by
  exact uChange_20_p1 u m

/-- (kotatsu/alu.Unit).Change -/
def uChange_21 (u : Unit) (m : Int) : Unit × Int :=
  (((u_rol u m).1), (u_rol u m).2)
theorem uChange_21_p1 (u : Unit) (m : Int) : FnSpec Try.prog 30 1000 [Unit.enc u, .int .u8 21, .int .u8 m] [] (.tuple ⟨[Unit.enc ((((u_rol u m).1), (u_rol u m).2).1), .int .u8 ((((u_rol u m).1), (u_rol u m).2).2)]⟩) [] := by
  exact fn_of_x hG hM Try.func30 (by kernel_rfl) (by kernel_rfl) 400 [.call [] [] 1000 (.int .u8 2) [], .no, .lit 2, .call [] [] 1000 (.tuple ⟨[Unit.enc ((u_rol u m).1), .int .u8 ((u_rol u m).2)]⟩) []] (And.intro (aKind_ok 21) (And.intro (Eq.refl false) (And.intro (Eq.refl (2 : Int)) (And.intro (by decide : 2 < 12) (And.intro (u_rol_ok u m) trivial))))) (by kernel_rfl)
theorem uChange_21_ok (u : Unit) (m : Int) : FnSpec Try.prog 30 1000 [Unit.enc u, .int .u8 21, .int .u8 m] [] (.tuple ⟨[Unit.enc ((uChange_21 u m).1), .int .u8 ((uChange_21 u m).2)]⟩) [] := by
  exact uChange_21_p1 u m

/-- (kotatsu/alu.Unit).Change -/
def uChange_22 (u : Unit) (m : Int) : Unit × Int :=
  (((u_ror u m).1), (u_ror u m).2)
theorem uChange_22_p1 (u : Unit) (m : Int) : FnSpec Try.prog 30 1000 [Unit.enc u, .int .u8 22, .int .u8 m] [] (.tuple ⟨[Unit.enc ((((u_ror u m).1), (u_ror u m).2).1), .int .u8 ((((u_ror u m).1), (u_ror u m).2).2)]⟩) [] := by
  exact fn_of_x hG hM Try.func30 (by kernel_rfl) (by kernel_rfl) 400 [.call [] [] 1000 (.int .u8 2) [], .no, .lit 3, .call [] [] 1000 (.tuple ⟨[Unit.enc ((u_ror u m).1), .int .u8 ((u_ror u m).2)]⟩) []] (And.intro (aKind_ok 22) (And.intro (Eq.refl false) (And.intro (Eq.refl (3 : Int)) (And.intro (by decide : 3 < 12) (And.intro (u_ror_ok u m) trivial))))) (by kernel_rfl)
theorem uChange_22_ok (u : Unit) (m : Int) : FnSpec Try.prog 30 1000 [Unit.enc u, .int .u8 22, .int .u8 m] [] (.tuple ⟨[Unit.enc ((uChange_22 u m).1), .int .u8 ((uChange_22 u m).2)]⟩) [] := by
  exact uChange_22_p1 u m

/-- (kotatsu/alu.Unit).Change -/
def uChange_23 (u : Unit) (m : Int) : Unit × Int :=
  (((u_inc u m).1), (u_inc u m).2)
theorem uChange_23_p1 (u : Unit) (m : Int) : FnSpec Try.prog 30 1000 [Unit.enc u, .int .u8 23, .int .u8 m] [] (.tuple ⟨[Unit.enc ((((u_inc u m).1), (u_inc u m).2).1), .int .u8 ((((u_inc u m).1), (u_inc u m).2).2)]⟩) [] := by
  exact fn_of_x hG hM Try.func30 (by kernel_rfl) (by kernel_rfl) 400 [.call [] [] 1000 (.int .u8 2) [], .no, .lit 4, .call [] [] 1000 (.tuple ⟨[Unit.enc ((u_inc u m).1), .int .u8 ((u_inc u m).2)]⟩) []] (And.intro (aKind_ok 23) (And.intro (Eq.refl false) (And.intro (Eq.refl (4 : Int)) (And.intro (by decide : 4 < 12) (And.intro (u_inc_ok u m) trivial))))) (by kernel_rfl)
theorem uChange_23_ok (u : Unit) (m : Int) : FnSpec Try.prog 30 1000 [Unit.enc u, .int .u8 23, .int .u8 m] [] (.tuple ⟨[Unit.enc ((uChange_23 u m).1), .int .u8 ((uChange_23 u m).2)]⟩) [] := by
  exact uChange_23_p1 u m

/-- (kotatsu/alu.Unit).Change -/
def uChange_24 (u : Unit) (m : Int) : Unit × Int :=
  (((u_dec u m).1), (u_dec u m).2)
theorem uChange_24_p1 (u : Unit) (m : Int) : FnSpec Try.prog 30 1000 [Unit.enc u, .int .u8 24, .int .u8 m] [] (.tuple ⟨[Unit.enc ((((u_dec u m).1), (u_dec u m).2).1), .int .u8 ((((u_dec u m).1), (u_dec u m).2).2)]⟩) [] := by
  exact fn_of_x hG hM Try.func30 (by kernel_rfl) (by kernel_rfl) 400 [.call [] [] 1000 (.int .u8 2) [], .no, .lit 5, .call [] [] 1000 (.tuple ⟨[Unit.enc ((u_dec u m).1), .int .u8 ((u_dec u m).2)]⟩) []] (And.intro (aKind_ok 24) (And.intro (Eq.refl false) (And.intro (Eq.refl (5 : Int)) (And.intro (by decide : 5 < 12) (And.intro (u_dec_ok u m) trivial))))) (by kernel_rfl)
theorem uChange_24_ok (u : Unit) (m : Int) : FnSpec Try.prog 30 1000 [Unit.enc u, .int .u8 24, .int .u8 m] [] (.tuple ⟨[Unit.enc ((uChange_24 u m).1), .int .u8 ((uChange_24 u m).2)]⟩) [] := by
  exact uChange_24_p1 u m

/-- (kotatsu/alu.Unit).Change -/
def uChange_25 (u : Unit) (m : Int) : Unit × Int :=
  (((u_slo u m).1), (u_slo u m).2)
theorem uChange_25_p1 (u : Unit) (m : Int) : FnSpec Try.prog 30 1000 [Unit.enc u, .int .u8 25, .int .u8 m] [] (.tuple ⟨[Unit.enc ((((u_slo u m).1), (u_slo u m).2).1), .int .u8 ((((u_slo u m).1), (u_slo u m).2).2)]⟩) [] := by
  exact fn_of_x hG hM Try.func30 (by kernel_rfl) (by kernel_rfl) 400 [.call [] [] 1000 (.int .u8 2) [], .no, .lit 6, .call [] [] 1000 (.tuple ⟨[Unit.enc ((u_slo u m).1), .int .u8 ((u_slo u m).2)]⟩) []] (And.intro (aKind_ok 25) (And.intro (Eq.refl false) (And.intro (Eq.refl (6 : Int)) (And.intro (by decide : 6 < 12) (And.intro (u_slo_ok u m) trivial))))) (by kernel_rfl)
theorem uChange_25_ok (u : Unit) (m : Int) : FnSpec Try.prog 30 1000 [Unit.enc u, .int .u8 25, .int .u8 m] [] (.tuple ⟨[Unit.enc ((uChange_25 u m).1), .int .u8 ((uChange_25 u m).2)]⟩) [] := by
  exact uChange_25_p1 u m

/-- (kotatsu/alu.Unit).Change -/
def uChange_26 (u : Unit) (m : Int) : Unit × Int :=
  (((u_rla u m).1), (u_rla u m).2)
theorem uChange_26_p1 (u : Unit) (m : Int) : FnSpec Try.prog 30 1000 [Unit.enc u, .int .u8 26, .int .u8 m] [] (.tuple ⟨[Unit.enc ((((u_rla u m).1), (u_rla u m).2).1), .int .u8 ((((u_rla u m).1), (u_rla u m).2).2)]⟩) [] := by
  exact fn_of_x hG hM Try.func30 (by kernel_rfl) (by kernel_rfl) 400 [.call [] [] 1000 (.int .u8 2) [], .no, .lit 7, .call [] [] 1000 (.tuple ⟨[Unit.enc ((u_rla u m).1), .int .u8 ((u_rla u m).2)]⟩) []] (And.intro (aKind_ok 26) (And.intro (Eq.refl false) (And.intro (Eq.refl (7 : Int)) (And.intro (by decide : 7 < 12) (And.intro (u_rla_ok u m) trivial))))) (by kernel_rfl)
theorem uChange_26_ok (u : Unit) (m : Int) : FnSpec Try.prog 30 1000 [Unit.enc u, .int .u8 26, .int .u8 m] [] (.tuple ⟨[Unit.enc ((uChange_26 u m).1), .int .u8 ((uChange_26 u m).2)]⟩) [] := by
  exact uChange_26_p1 u m

/-- (kotatsu/alu.Unit).Change -/
def uChange_27 (u : Unit) (m : Int) : Unit × Int :=
  (((u_sre u m).1), (u_sre u m).2)
theorem uChange_27_p1 (u : Unit) (m : Int) : FnSpec Try.prog 30 1000 [Unit.enc u, .int .u8 27, .int .u8 m] [] (.tuple ⟨[Unit.enc ((((u_sre u m).1), (u_sre u m).2).1), .int .u8 ((((u_sre u m).1), (u_sre u m).2).2)]⟩) [] := by
  exact fn_of_x hG hM Try.func30 (by kernel_rfl) (by kernel_rfl) 400 [.call [] [] 1000 (.int .u8 2) [], .no, .lit 8, .call [] [] 1000 (.tuple ⟨[Unit.enc ((u_sre u m).1), .int .u8 ((u_sre u m).2)]⟩) []] (And.intro (aKind_ok 27) (And.intro (Eq.refl false) (And.intro (Eq.refl (8 : Int)) (And.intro (by decide : 8 < 12) (And.intro (u_sre_ok u m) trivial))))) (by kernel_rfl)
theorem uChange_27_ok (u : Unit) (m : Int) : FnSpec Try.prog 30 1000 [Unit.enc u, .int .u8 27, .int .u8 m] [] (.tuple ⟨[Unit.enc ((uChange_27 u m).1), .int .u8 ((uChange_27 u m).2)]⟩) [] := by
  exact uChange_27_p1 u m

/-- (kotatsu/alu.Unit).Change -/
def uChange_28 (u : Unit) (m : Int) : Unit × Int :=
  (((u_rra u m).1), (u_rra u m).2)
theorem uChange_28_p1 (u : Unit) (m : Int) : FnSpec Try.prog 30 1000 [Unit.enc u, .int .u8 28, .int .u8 m] [] (.tuple ⟨[Unit.enc ((((u_rra u m).1), (u_rra u m).2).1), .int .u8 ((((u_rra u m).1), (u_rra u m).2).2)]⟩) [] := by
  exact fn_of_x hG hM Try.func30 (by kernel_rfl) (by kernel_rfl) 400 [.call [] [] 1000 (.int .u8 2) [], .no, .lit 9, .call [] [] 1000 (.tuple ⟨[Unit.enc ((u_rra u m).1), .int .u8 ((u_rra u m).2)]⟩) []] (And.intro (aKind_ok 28) (And.intro (Eq.refl false) (And.intro (Eq.refl (9 : Int)) (And.intro (by decide : 9 < 12) (And.intro (u_rra_ok u m) trivial))))) (by kernel_rfl)
theorem uChange_28_ok (u : Unit) (m : Int) : FnSpec Try.prog 30 1000 [Unit.enc u, .int .u8 28, .int .u8 m] [] (.tuple ⟨[Unit.enc ((uChange_28 u m).1), .int .u8 ((uChange_28 u m).2)]⟩) [] := by
  exact uChange_28_p1 u m

/-- (kotatsu/alu.Unit).Change -/
def uChange_29 (u : Unit) (m : Int) : Unit × Int :=
  (((u_dcp u m).1), (u_dcp u m).2)
theorem uChange_29_p1 (u : Unit) (m : Int) : FnSpec Try.prog 30 1000 [Unit.enc u, .int .u8 29, .int .u8 m] [] (.tuple ⟨[Unit.enc ((((u_dcp u m).1), (u_dcp u m).2).1), .int .u8 ((((u_dcp u m).1), (u_dcp u m).2).2)]⟩) [] := by
  exact fn_of_x hG hM Try.func30 (by kernel_rfl) (by kernel_rfl) 400 [.call [] [] 1000 (.int .u8 2) [], .no, .lit 10, .call [] [] 1000 (.tuple ⟨[Unit.enc ((u_dcp u m).1), .int .u8 ((u_dcp u m).2)]⟩) []] (And.intro (aKind_ok 29) (And.intro (Eq.refl false) (And.intro (Eq.refl (10 : Int)) (And.intro (by decide : 10 < 12) (And.intro (u_dcp_ok u m) trivial))))) (by kernel_rfl)
theorem uChange_29_ok (u : Unit) (m : Int) : FnSpec Try.prog 30 1000 [Unit.enc u, .int .u8 29, .int .u8 m] [] (.tuple ⟨[Unit.enc ((uChange_29 u m).1), .int .u8 ((uChange_29 u m).2)]⟩) [] := by
  exact uChange_29_p1 u m

/-- (kotatsu/alu.Unit).Change -/
def uChange_30 (u : Unit) (m : Int) : Unit × Int :=
  (((u_isc u m).1), (u_isc u m).2)
theorem uChange_30_p1 (u : Unit) (m : Int) : FnSpec Try.prog 30 1000 [Unit.enc u, .int .u8 30, .int .u8 m] [] (.tuple ⟨[Unit.enc ((((u_isc u m).1), (u_isc u m).2).1), .int .u8 ((((u_isc u m).1), (u_isc u m).2).2)]⟩) [] := by
  exact fn_of_x hG hM Try.func30 (by kernel_rfl) (by kernel_rfl) 400 [.call [] [] 1000 (.int .u8 2) [], .no, .lit 11, .call [] [] 1000 (.tuple ⟨[Unit.enc ((u_isc u m).1), .int .u8 ((u_isc u m).2)]⟩) []] (And.intro (aKind_ok 30) (And.intro (Eq.refl false) (And.intro (Eq.refl (11 : Int)) (And.intro (by decide : 11 < 12) (And.intro (u_isc_ok u m) trivial))))) (by kernel_rfl)
theorem uChange_30_ok (u : Unit) (m : Int) : FnSpec Try.prog 30 1000 [Unit.enc u, .int .u8 30, .int .u8 m] [] (.tuple ⟨[Unit.enc ((uChange_30 u m).1), .int .u8 ((uChange_30 u m).2)]⟩) [] := by
  exact uChange_30_p1 u m

/-- (kotatsu/alu.Unit).Change -/
def uChange_else (u : Unit) (op : Int) (m : Int) : Unit × Int :=
  (u, m)
theorem uChange_else_p1 (u : Unit) (op : Int) (m : Int) (h : (((aKind op) : Int) != 2) = true) : FnSpec Try.prog 30 1000 [Unit.enc u, .int .u8 op, .int .u8 m] [] (.tuple ⟨[Unit.enc ((u, m).1), .int .u8 ((u, m).2)]⟩) [] := by
  exact fn_of_x hG hM Try.func30 (by kernel_rfl) (by kernel_rfl) 400 [.call [] [] 1000 (.int .u8 (aKind op)) [], .yes] (And.intro (aKind_ok op) (And.intro h trivial)) (by kernel_rfl)
theorem uChange_else_ok (u : Unit) (op : Int) (m : Int) (h : (((aKind op) : Int) != 2) = true) : FnSpec Try.prog 30 1000 [Unit.enc u, .int .u8 op, .int .u8 m] [] (.tuple ⟨[Unit.enc ((uChange_else u op m).1), .int .u8 ((uChange_else u op m).2)]⟩) [] := by
  exact uChange_else_p1 u op m h

/-- (kotatsu/alu.Unit).Self -/
def uSelf_0 (u : Unit) : Unit :=
  u
theorem uSelf_0_p1 (u : Unit) : FnSpec Try.prog 31 1000 [Unit.enc u, .int .u8 0] [] (Unit.enc u) [] := by
  exact fn_of_x hG hM Try.func31 (by kernel_rfl) (by kernel_rfl) 400 [.no, .no, .no, .no, .no, .no, .no, .no, .no, .no, .no, .no, .no, .no, .no, .no, .no, .no, .no, .no, .no] (And.intro (Eq.refl false) (And.intro (Eq.refl false) (And.intro (Eq.refl false) (And.intro (Eq.refl false) (And.intro (Eq.refl false) (And.intro (Eq.refl false) (And.intro (Eq.refl false) (And.intro (Eq.refl false) (And.intro (Eq.refl false) (And.intro (Eq.refl false) (And.intro (Eq.refl false) (And.intro (Eq.refl false) (And.intro (Eq.refl false) (And.intro (Eq.refl false) (And.intro (Eq.refl false) (And.intro (Eq.refl false) (And.intro (Eq.refl false) (And.intro (Eq.refl false) (And.intro (Eq.refl false) (And.intro (Eq.refl false) (And.intro (Eq.refl false) trivial))))))))))))))))))))) (by kernel_rfl)
theorem uSelf_0_ok (u : Unit) : FnSpec Try.prog 31 1000 [Unit.enc u, .int .u8 0] [] (Unit.enc (uSelf_0 u)) [] := by
  exact uSelf_0_p1 u

/-- (kotatsu/alu.Unit).Self -/
def uSelf_1 (u : Unit) : Unit :=
  u
theorem uSelf_1_p1 (u : Unit) : FnSpec Try.prog 31 1000 [Unit.enc u, .int .u8 1] [] (Unit.enc u) [] := by
  exact fn_of_x hG hM Try.func31 (by kernel_rfl) (by kernel_rfl) 400 [.no, .no, .no, .no, .no, .no, .no, .no, .no, .no, .no, .no, .no, .no, .no, .no, .no, .no, .no, .no, .no] (And.intro (Eq.refl false) (And.intro (Eq.refl false) (And.intro (Eq.refl false) (And.intro (Eq.refl false) (And.intro (Eq.refl false) (And.intro (Eq.refl false) (And.intro (Eq.refl false) (And.intro (Eq.refl false) (And.intro (Eq.refl false) (And.intro (Eq.refl false) (And.intro (Eq.refl false) (And.intro (Eq.refl false) (And.intro (Eq.refl false) (And.intro (Eq.refl false) (And.intro (Eq.refl false) (And.intro (Eq.refl false) (And.intro (Eq.refl false) (And.intro (Eq.refl false) (And.intro (Eq.refl false) (And.intro (Eq.refl false) (And.intro (Eq.refl false) trivial))))))))))))))))))))) (by kernel_rfl)
theorem uSelf_1_ok (u : Unit) : FnSpec Try.prog 31 1000 [Unit.enc u, .int .u8 1] [] (Unit.enc (uSelf_1 u)) [] := by
  exact uSelf_1_p1 u

/-- (kotatsu/alu.Unit).Self -/
def uSelf_2 (u : Unit) : Unit :=
  u
theorem uSelf_2_p1 (u : Unit) : FnSpec Try.prog 31 1000 [Unit.enc u, .int .u8 2] [] (Unit.enc u) [] := by
  exact fn_of_x hG hM Try.func31 (by kernel_rfl) (by kernel_rfl) 400 [.no, .no, .no, .no, .no, .no, .no, .no, .no, .no, .no, .no, .no, .no, .no, .no, .no, .no, .no, .no, .no] (And.intro (Eq.refl false) (And.intro (Eq.refl false) (And.intro (Eq.refl false) (And.intro (Eq.refl false) (And.intro (Eq.refl false) (And.intro (Eq.refl false) (And.intro (Eq.refl false) (And.intro (Eq.refl false) (And.intro (Eq.refl false) (And.intro (Eq.refl false) (And.intro (Eq.refl false) (And.intro (Eq.refl false) (And.intro (Eq.refl false) (And.intro (Eq.refl false) (And.intro (Eq.refl false) (And.intro (Eq.refl false) (And.intro (Eq.refl false) (And.intro (Eq.refl false) (And.intro (Eq.refl false) (And.intro (Eq.refl false) (And.intro (Eq.refl false) trivial))))))))))))))))))))) (by kernel_rfl)
theorem uSelf_2_ok (u : Unit) : FnSpec Try.prog 31 1000 [Unit.enc u, .int .u8 2] [] (Unit.enc (uSelf_2 u)) [] := by
  exact uSelf_2_p1 u

/-- (kotatsu/alu.Unit).Self -/
def uSelf_3 (u : Unit) : Unit :=
  u
theorem uSelf_3_p1 (u : Unit) : FnSpec Try.prog 31 1000 [Unit.enc u, .int .u8 3] [] (Unit.enc u) [] := by
  exact fn_of_x hG hM Try.func31 (by kernel_rfl) (by kernel_rfl) 400 [.no, .no, .no, .no, .no, .no, .no, .no, .no, .no, .no, .no, .no, .no, .no, .no, .no, .no, .no, .no, .no] (And.intro (Eq.refl false) (And.intro (Eq.refl false) (And.intro (Eq.refl false) (And.intro (Eq.refl false) (And.intro (Eq.refl false) (And.intro (Eq.refl false) (And.intro (Eq.refl false) (And.intro (Eq.refl false) (And.intro (Eq.refl false) (And.intro (Eq.refl false) (And.intro (Eq.refl false) (And.intro (Eq.refl false) (And.intro (Eq.refl false) (And.intro (Eq.refl false) (And.intro (Eq.refl false) (And.intro (Eq.refl false) (And.intro (Eq.refl false) (And.intro (Eq.refl false) (And.intro (Eq.refl false) (And.intro (Eq.refl false) (And.intro (Eq.refl false) trivial))))))))))))))))))))) (by kernel_rfl)
theorem uSelf_3_ok (u : Unit) : FnSpec Try.prog 31 1000 [Unit.enc u, .int .u8 3] [] (Unit.enc (uSelf_3 u)) [] := by
  exact uSelf_3_p1 u

/-- (kotatsu/alu.Unit).Self -/
def uSelf_4 (u : Unit) : Unit :=
  u
theorem uSelf_4_p1 (u : Unit) : FnSpec Try.prog 31 1000 [Unit.enc u, .int .u8 4] [] (Unit.enc u) [] := by
  exact fn_of_x hG hM Try.func31 (by kernel_rfl) (by kernel_rfl) 400 [.no, .no, .no, .no, .no, .no, .no, .no, .no, .no, .no, .no, .no, .no, .no, .no, .no, .no, .no, .no, .no] (And.intro (Eq.refl false) (And.intro (Eq.refl false) (And.intro (Eq.refl false) (And.intro (Eq.refl false) (And.intro (Eq.refl false) (And.intro (Eq.refl false) (And.intro (Eq.refl false) (And.intro (Eq.refl false) (And.intro (Eq.refl false) (And.intro (Eq.refl false) (And.intro (Eq.refl false) (And.intro (Eq.refl false) (And.intro (Eq.refl false) (And.intro (Eq.refl false) (And.intro (Eq.refl false) (And.intro (Eq.refl false) (And.intro (Eq.refl false) (And.intro (Eq.refl false) (And.intro (Eq.refl false) (And.intro (Eq.refl false) (And.intro (Eq.refl false) trivial))))))))))))))))))))) (by kernel_rfl)
theorem uSelf_4_ok (u : Unit) : FnSpec Try.prog 31 1000 [Unit.enc u, .int .u8 4] [] (Unit.enc (uSelf_4 u)) [] := by
  exact uSelf_4_p1 u

/-- (kotatsu/alu.Unit).Self -/
def uSelf_5 (u : Unit) : Unit :=
  u
theorem uSelf_5_p1 (u : Unit) : FnSpec Try.prog 31 1000 [Unit.enc u, .int .u8 5] [] (Unit.enc u) [] := by
  exact fn_of_x hG hM Try.func31 (by kernel_rfl) (by kernel_rfl) 400 [.no, .no, .no, .no, .no, .no, .no, .no, .no, .no, .no, .no, .no, .no, .no, .no, .no, .no, .no, .no, .no] (And.intro (Eq.refl false) (And.intro (Eq.refl false) (And.intro (Eq.refl false) (And.intro (Eq.refl false) (And.intro (Eq.refl false) (And.intro (Eq.refl false) (And.intro (Eq.refl false) (And.intro (Eq.refl false) (And.intro (Eq.refl false) (And.intro (Eq.refl false) (And.intro (Eq.refl false) (And.intro (Eq.refl false) (And.intro (Eq.refl false) (And.intro (Eq.refl false) (And.intro (Eq.refl false) (And.intro (Eq.refl false) (And.intro (Eq.refl false) (And.intro (Eq.refl false) (And.intro (Eq.refl false) (And.intro (Eq.refl false) (And.intro (Eq.refl false) trivial))))))))))))))))))))) (by kernel_rfl)
theorem uSelf_5_ok (u : Unit) : FnSpec Try.prog 31 1000 [Unit.enc u, .int .u8 5] [] (Unit.enc (uSelf_5 u)) [] := by
  exact uSelf_5_p1 u

/-- (kotatsu/alu.Unit).Self -/
def uSelf_6 (u : Unit) : Unit :=
  u
theorem uSelf_6_p1 (u : Unit) : FnSpec Try.prog 31 1000 [Unit.enc u, .int .u8 6] [] (Unit.enc u) [] := by
  exact fn_of_x hG hM Try.func31 (by kernel_rfl) (by kernel_rfl) 400 [.no, .no, .no, .no, .no, .no, .no, .no, .no, .no, .no, .no, .no, .no, .no, .no, .no, .no, .no, .no, .no] (And.intro (Eq.refl false) (And.intro (Eq.refl false) (And.intro (Eq.refl false) (And.intro (Eq.refl false) (And.intro (Eq.refl false) (And.intro (Eq.refl false) (And.intro (Eq.refl false) (And.intro (Eq.refl false) (And.intro (Eq.refl false) (And.intro (Eq.refl false) (And.intro (Eq.refl false) (And.intro (Eq.refl false) (And.intro (Eq.refl false) (And.intro (Eq.refl false) (And.intro (Eq.refl false) (And.intro (Eq.refl false) (And.intro (Eq.refl false) (And.intro (Eq.refl false) (And.intro (Eq.refl false) (And.intro (Eq.refl false) (And.intro (Eq.refl false) trivial))))))))))))))))))))) (by kernel_rfl)
theorem uSelf_6_ok (u : Unit) : FnSpec Try.prog 31 1000 [Unit.enc u, .int .u8 6] [] (Unit.enc (uSelf_6 u)) [] := by
  exact uSelf_6_p1 u

/-- (kotatsu/alu.Unit).Self -/
def uSelf_7 (u : Unit) : Unit :=
  u
theorem uSelf_7_p1 (u : Unit) : FnSpec Try.prog 31 1000 [Unit.enc u, .int .u8 7] [] (Unit.enc u) [] := by
  exact fn_of_x hG hM Try.func31 (by kernel_rfl) (by kernel_rfl) 400 [.no, .no, .no, .no, .no, .no, .no, .no, .no, .no, .no, .no, .no, .no, .no, .no, .no, .no, .no, .no, .no] (And.intro (Eq.refl false) (And.intro (Eq.refl false) (And.intro (Eq.refl false) (And.intro (Eq.refl false) (And.intro (Eq.refl false) (And.intro (Eq.refl false) (And.intro (Eq.refl false) (And.intro (Eq.refl false) (And.intro (Eq.refl false) (And.intro (Eq.refl false) (And.intro (Eq.refl false) (And.intro (Eq.refl false) (And.intro (Eq.refl false) (And.intro (Eq.refl false) (And.intro (Eq.refl false) (And.intro (Eq.refl false) (And.intro (Eq.refl false) (And.intro (Eq.refl false) (And.intro (Eq.refl false) (And.intro (Eq.refl false) (And.intro (Eq.refl false) trivial))))))))))))))))))))) (by kernel_rfl)
theorem uSelf_7_ok (u : Unit) : FnSpec Try.prog 31 1000 [Unit.enc u, .int .u8 7] [] (Unit.enc (uSelf_7 u)) [] := by
  exact uSelf_7_p1 u

/-- (kotatsu/alu.Unit).Self -/
def uSelf_8 (u : Unit) : Unit :=
  u
theorem uSelf_8_p1 (u : Unit) : FnSpec Try.prog 31 1000 [Unit.enc u, .int .u8 8] [] (Unit.enc u) [] := by
  exact fn_of_x hG hM Try.func31 (by kernel_rfl) (by kernel_rfl) 400 [.no, .no, .no, .no, .no, .no, .no, .no, .no, .no, .no, .no, .no, .no, .no, .no, .no, .no, .no, .no, .no] (And.intro (Eq.refl false) (And.intro (Eq.refl false) (And.intro (Eq.refl false) (And.intro (Eq.refl false) (And.intro (Eq.refl false) (And.intro (Eq.refl false) (And.intro (Eq.refl false) (And.intro (Eq.refl false) (And.intro (Eq.refl false) (And.intro (Eq.refl false) (And.intro (Eq.refl false) (And.intro (Eq.refl false) (And.intro (Eq.refl false) (And.intro (Eq.refl false) (And.intro (Eq.refl false) (And.intro (Eq.refl false) (And.intro (Eq.refl false) (And.intro (Eq.refl false) (And.intro (Eq.refl false) (And.intro (Eq.refl false) (And.intro (Eq.refl false) trivial))))))))))))))))))))) (by kernel_rfl)
theorem uSelf_8_ok (u : Unit) : FnSpec Try.prog 31 1000 [Unit.enc u, .int .u8 8] [] (Unit.enc (uSelf_8 u)) [] := by
  exact uSelf_8_p1 u

/-- (kotatsu/alu.Unit).Self -/
def uSelf_9 (u : Unit) : Unit :=
  u
theorem uSelf_9_p1 (u : Unit) : FnSpec Try.prog 31 1000 [Unit.enc u, .int .u8 9] [] (Unit.enc u) [] := by
  exact fn_of_x hG hM Try.func31 (by kernel_rfl) (by kernel_rfl) 400 [.no, .no, .no, .no, .no, .no, .no, .no, .no, .no, .no, .no, .no, .no, .no, .no, .no, .no, .no, .no, .no] (And.intro (Eq.refl false) (And.intro (Eq.refl false) (And.intro (Eq.refl false) (And.intro (Eq.refl false) (And.intro (Eq.refl false) (And.intro (Eq.refl false) (And.intro (Eq.refl false) (And.intro (Eq.refl false) (And.intro (Eq.refl false) (And.intro (Eq.refl false) (And.intro (Eq.refl false) (And.intro (Eq.refl false) (And.intro (Eq.refl false) (And.intro (Eq.refl false) (And.intro (Eq.refl false) (And.intro (Eq.refl false) (And.intro (Eq.refl false) (And.intro (Eq.refl false) (And.intro (Eq.refl false) (And.intro (Eq.refl false) (And.intro (Eq.refl false) trivial))))))))))))))))))))) (by kernel_rfl)
theorem uSelf_9_ok (u : Unit) : FnSpec Try.prog 31 1000 [Unit.enc u, .int .u8 9] [] (Unit.enc (uSelf_9 u)) [] := by
  exact uSelf_9_p1 u

/-- (kotatsu/alu.Unit).Self -/
def uSelf_10 (u : Unit) : Unit :=
  u
theorem uSelf_10_p1 (u : Unit) : FnSpec Try.prog 31 1000 [Unit.enc u, .int .u8 10] [] (Unit.enc u) [] := by
  exact fn_of_x hG hM Try.func31 (by kernel_rfl) (by kernel_rfl) 400 [.no, .no, .no, .no, .no, .no, .no, .no, .no, .no, .no, .no, .no, .no, .no, .no, .no, .no, .no, .no, .no] (And.intro (Eq.refl false) (And.intro (Eq.refl false) (And.intro (Eq.refl false) (And.intro (Eq.refl false) (And.intro (Eq.refl false) (And.intro (Eq.refl false) (And.intro (Eq.refl false) (And.intro (Eq.refl false) (And.intro (Eq.refl false) (And.intro (Eq.refl false) (And.intro (Eq.refl false) (And.intro (Eq.refl false) (And.intro (Eq.refl false) (And.intro (Eq.refl false) (And.intro (Eq.refl false) (And.intro (Eq.refl false) (And.intro (Eq.refl false) (And.intro (Eq.refl false) (And.intro (Eq.refl false) (And.intro (Eq.refl false) (And.intro (Eq.refl false) trivial))))))))))))))))))))) (by kernel_rfl)
theorem uSelf_10_ok (u : Unit) : FnSpec Try.prog 31 1000 [Unit.enc u, .int .u8 10] [] (Unit.enc (uSelf_10 u)) [] := by
  exact uSelf_10_p1 u

/-- (kotatsu/alu.Unit).Self -/
def uSelf_11 (u : Unit) : Unit :=
  u
theorem uSelf_11_p1 (u : Unit) : FnSpec Try.prog 31 1000 [Unit.enc u, .int .u8 11] [] (Unit.enc u) [] := by
  exact fn_of_x hG hM Try.func31 (by kernel_rfl) (by kernel_rfl) 400 [.no, .no, .no, .no, .no, .no, .no, .no, .no, .no, .no, .no, .no, .no, .no, .no, .no, .no, .no, .no, .no] (And.intro (Eq.refl false) (And.intro (Eq.refl false) (And.intro (Eq.refl false) (And.intro (Eq.refl false) (And.intro (Eq.refl false) (And.intro (Eq.refl false) (And.intro (Eq.refl false) (And.intro (Eq.refl false) (And.intro (Eq.refl false) (And.intro (Eq.refl false) (And.intro (Eq.refl false) (And.intro (Eq.refl false) (And.intro (Eq.refl false) (And.intro (Eq.refl false) (And.intro (Eq.refl false) (And.intro (Eq.refl false) (And.intro (Eq.refl false) (And.intro (Eq.refl false) (And.intro (Eq.refl false) (And.intro (Eq.refl false) (And.intro (Eq.refl false) trivial))))))))))))))))))))) (by kernel_rfl)
theorem uSelf_11_ok (u : Unit) : FnSpec Try.prog 31 1000 [Unit.enc u, .int .u8 11] [] (Unit.enc (uSelf_11 u)) [] := by
  exact uSelf_11_p1 u

/-- (kotatsu/alu.Unit).Self -/
def uSelf_12 (u : Unit) : Unit :=
  u
theorem uSelf_12_p1 (u : Unit) : FnSpec Try.prog 31 1000 [Unit.enc u, .int .u8 12] [] (Unit.enc u) [] := by
  exact fn_of_x hG hM Try.func31 (by kernel_rfl) (by kernel_rfl) 400 [.no, .no, .no, .no, .no, .no, .no, .no, .no, .no, .no, .no, .no, .no, .no, .no, .no, .no, .no, .no, .no] (And.intro (Eq.refl false) (And.intro (Eq.refl false) (And.intro (Eq.refl false) (And.intro (Eq.refl false) (And.intro (Eq.refl false) (And.intro (Eq.refl false) (And.intro (Eq.refl false) (And.intro (Eq.refl false) (And.intro (Eq.refl false) (And.intro (Eq.refl false) (And.intro (Eq.refl false) (And.intro (Eq.refl false) (And.intro (Eq.refl false) (And.intro (Eq.refl false) (And.intro (Eq.refl false) (And.intro (Eq.refl false) (And.intro (Eq.refl false) (And.intro (Eq.refl false) (And.intro (Eq.refl false) (And.intro (Eq.refl false) (And.intro (Eq.refl false) trivial))))))))))))))))))))) (by kernel_rfl)
theorem uSelf_12_ok (u : Unit) : FnSpec Try.prog 31 1000 [Unit.enc u, .int .u8 12] [] (Unit.enc (uSelf_12 u)) [] := by
  exact uSelf_12_p1 u

/-- (kotatsu/alu.Unit).Self -/
def uSelf_13 (u : Unit) : Unit :=
  u
theorem uSelf_13_p1 (u : Unit) : FnSpec Try.prog 31 1000 [Unit.enc u, .int .u8 13] [] (Unit.enc u) [] := by
  exact fn_of_x hG hM Try.func31 (by kernel_rfl) (by kernel_rfl) 400 [.no, .no, .no, .no, .no, .no, .no, .no, .no, .no, .no, .no, .no, .no, .no, .no, .no, .no, .no, .no, .no] (And.intro (Eq.refl false) (And.intro (Eq.refl false) (And.intro (Eq.refl false) (And.intro (Eq.refl false) (And.intro (Eq.refl false) (And.intro (Eq.refl false) (And.intro (Eq.refl false) (And.intro (Eq.refl false) (And.intro (Eq.refl false) (And.intro (Eq.refl false) (And.intro (Eq.refl false) (And.intro (Eq.refl false) (And.intro (Eq.refl false) (And.intro (Eq.refl false) (And.intro (Eq.refl false) (And.intro (Eq.refl false) (And.intro (Eq.refl false) (And.intro (Eq.refl false) (And.intro (Eq.refl false) (And.intro (Eq.refl false) (And.intro (Eq.refl false) trivial))))))))))))))))))))) (by kernel_rfl)
theorem uSelf_13_ok (u : Unit) : FnSpec Try.prog 31 1000 [Unit.enc u, .int .u8 13] [] (Unit.enc (uSelf_13 u)) [] := by
  exact uSelf_13_p1 u

/-- (kotatsu/alu.Unit).Self -/
def uSelf_14 (u : Unit) : Unit :=
  u
theorem uSelf_14_p1 (u : Unit) : FnSpec Try.prog 31 1000 [Unit.enc u, .int .u8 14] [] (Unit.enc u) [] := by
  exact fn_of_x hG hM Try.func31 (by kernel_rfl) (by kernel_rfl) 400 [.no, .no, .no, .no, .no, .no, .no, .no, .no, .no, .no, .no, .no, .no, .no, .no, .no, .no, .no, .no, .no] (And.intro (Eq.refl false) (And.intro (Eq.refl false) (And.intro (Eq.refl false) (And.intro (Eq.refl false) (And.intro (Eq.refl false) (And.intro (Eq.refl false) (And.intro (Eq.refl false) (And.intro (Eq.refl false) (And.intro (Eq.refl false) (And.intro (Eq.refl false) (And.intro (Eq.refl false) (And.intro (Eq.refl false) (And.intro (Eq.refl false) (And.intro (Eq.refl false) (And.intro (Eq.refl false) (And.intro (Eq.refl false) (And.intro (Eq.refl false) (And.intro (Eq.refl false) (And.intro (Eq.refl false) (And.intro (Eq.refl false) (And.intro (Eq.refl false) trivial))))))))))))))))))))) (by kernel_rfl)
theorem uSelf_14_ok (u : Unit) : FnSpec Try.prog 31 1000 [Unit.enc u, .int .u8 14] [] (Unit.enc (uSelf_14 u)) [] := by
  exact uSelf_14_p1 u

/-- (kotatsu/alu.Unit).Self -/
def uSelf_15 (u : Unit) : Unit :=
  u
theorem uSelf_15_p1 (u : Unit) : FnSpec Try.prog 31 1000 [Unit.enc u, .int .u8 15] [] (Unit.enc u) [] := by
  exact fn_of_x hG hM Try.func31 (by kernel_rfl) (by kernel_rfl) 400 [.no, .no, .no, .no, .no, .no, .no, .no, .no, .no, .no, .no, .no, .no, .no, .no, .no, .no, .no, .no, .no] (And.intro (Eq.refl false) (And.intro (Eq.refl false) (And.intro (Eq.refl false) (And.intro (Eq.refl false) (And.intro (Eq.refl false) (And.intro (Eq.refl false) (And.intro (Eq.refl false) (And.intro (Eq.refl false) (And.intro (Eq.refl false) (And.intro (Eq.refl false) (And.intro (Eq.refl false) (And.intro (Eq.refl false) (And.intro (Eq.refl false) (And.intro (Eq.refl false) (And.intro (Eq.refl false) (And.intro (Eq.refl false) (And.intro (Eq.refl false) (And.intro (Eq.refl false) (And.intro (Eq.refl false) (And.intro (Eq.refl false) (And.intro (Eq.refl false) trivial))))))))))))))))))))) (by kernel_rfl)
theorem uSelf_15_ok (u : Unit) : FnSpec Try.prog 31 1000 [Unit.enc u, .int .u8 15] [] (Unit.enc (uSelf_15 u)) [] := by
  exact uSelf_15_p1 u

/-- (kotatsu/alu.Unit).Self -/
def uSelf_16 (u : Unit) : Unit :=
  u
theorem uSelf_16_p1 (u : Unit) : FnSpec Try.prog 31 1000 [Unit.enc u, .int .u8 16] [] (Unit.enc u) [] := by
  exact fn_of_x hG hM Try.func31 (by kernel_rfl) (by kernel_rfl) 400 [.no, .no, .no, .no, .no, .no, .no, .no, .no, .no, .no, .no, .no, .no, .no, .no, .no, .no, .no, .no, .no] (And.intro (Eq.refl false) (And.intro (Eq.refl false) (And.intro (Eq.refl false) (And.intro (Eq.refl false) (And.intro (Eq.refl false) (And.intro (Eq.refl false) (And.intro (Eq.refl false) (And.intro (Eq.refl false) (And.intro (Eq.refl false) (And.intro (Eq.refl false) (And.intro (Eq.refl false) (And.intro (Eq.refl false) (And.intro (Eq.refl false) (And.intro (Eq.refl false) (And.intro (Eq.refl false) (And.intro (Eq.refl false) (And.intro (Eq.refl false) (And.intro (Eq.refl false) (And.intro (Eq.refl false) (And.intro (Eq.refl false) (And.intro (Eq.refl false) trivial))))))))))))))))))))) (by kernel_rfl)
theorem uSelf_16_ok (u : Unit) : FnSpec Try.prog 31 1000 [Unit.enc u, .int .u8 16] [] (Unit.enc (uSelf_16 u)) [] := by
  exact uSelf_16_p1 u

/-- (kotatsu/alu.Unit).Self -/
def uSelf_17 (u : Unit) : Unit :=
  u
theorem uSelf_17_p1 (u : Unit) : FnSpec Try.prog 31 1000 [Unit.enc u, .int .u8 17] [] (Unit.enc u) [] := by
  exact fn_of_x hG hM Try.func31 (by kernel_rfl) (by kernel_rfl) 400 [.no, .no, .no, .no, .no, .no, .no, .no, .no, .no, .no, .no, .no, .no, .no, .no, .no, .no, .no, .no, .no] (And.intro (Eq.refl false) (And.intro (Eq.refl false) (And.intro (Eq.refl false) (And.intro (Eq.refl false) (And.intro (Eq.refl false) (And.intro (Eq.refl false) (And.intro (Eq.refl false) (And.intro (Eq.refl false) (And.intro (Eq.refl false) (And.intro (Eq.refl false) (And.intro (Eq.refl false) (And.intro (Eq.refl false) (And.intro (Eq.refl false) (And.intro (Eq.refl false) (And.intro (Eq.refl false) (And.intro (Eq.refl false) (And.intro (Eq.refl false) (And.intro (Eq.refl false) (And.intro (Eq.refl false) (And.intro (Eq.refl false) (And.intro (Eq.refl false) trivial))))))))))))))))))))) (by kernel_rfl)
theorem uSelf_17_ok (u : Unit) : FnSpec Try.prog 31 1000 [Unit.enc u, .int .u8 17] [] (Unit.enc (uSelf_17 u)) [] := by
  exact uSelf_17_p1 u

/-- (kotatsu/alu.Unit).Self -/
def uSelf_18 (u : Unit) : Unit :=
  u
theorem uSelf_18_p1 (u : Unit) : FnSpec Try.prog 31 1000 [Unit.enc u, .int .u8 18] [] (Unit.enc u) [] := by
  exact fn_of_x hG hM Try.func31 (by kernel_rfl) (by kernel_rfl) 400 [.no, .no, .no, .no, .no, .no, .no, .no, .no, .no, .no, .no, .no, .no, .no, .no, .no, .no, .no, .no, .no] (And.intro (Eq.refl false) (And.intro (Eq.refl false) (And.intro (Eq.refl false) (And.intro (Eq.refl false) (And.intro (Eq.refl false) (And.intro (Eq.refl false) (And.intro (Eq.refl false) (And.intro (Eq.refl false) (And.intro (Eq.refl false) (And.intro (Eq.refl false) (And.intro (Eq.refl false) (And.intro (Eq.refl false) (And.intro (Eq.refl false) (And.intro (Eq.refl false) (And.intro (Eq.refl false) (And.intro (Eq.refl false) (And.intro (Eq.refl false) (And.intro (Eq.refl false) (And.intro (Eq.refl false) (And.intro (Eq.refl false) (And.intro (Eq.refl false) trivial))))))))))))))))))))) (by kernel_rfl)
theorem uSelf_18_ok (u : Unit) : FnSpec Try.prog 31 1000 [Unit.enc u, .int .u8 18] [] (Unit.enc (uSelf_18 u)) [] := by
  exact uSelf_18_p1 u

/-- (kotatsu/alu.Unit).Self -/
def uSelf_19 (u : Unit) : Unit :=
  ({ A := (uChange_19 u u.A).2, X := ((uChange_19 u u.A).1).X, Y := ((uChange_19 u u.A).1).Y, S := ((uChange_19 u u.A).1).S, P := ((uChange_19 u u.A).1).P } : Unit)
theorem uSelf_19_p1 (u : Unit) : FnSpec Try.prog 31 1000 [Unit.enc u, .int .u8 19] [] (Unit.enc ({ A := (uChange_19 u u.A).2, X := ((uChange_19 u u.A).1).X, Y := ((uChange_19 u u.A).1).Y, S := ((uChange_19 u u.A).1).S, P := ((uChange_19 u u.A).1).P } : Unit)) [] := by
  exact fn_of_x hG hM Try.func31 (by kernel_rfl) (by kernel_rfl) 400 [.yes, .yes, .call [] [] 1000 (.tuple ⟨[Unit.enc ((uChange_19 u u.A).1), .int .u8 ((uChange_19 u u.A).2)]⟩) []] (And.intro (Eq.refl true) (And.intro (Eq.refl true) (And.intro (uChange_19_ok u u.A) trivial))) (by kernel_rfl)
theorem uSelf_19_ok (u : Unit) : FnSpec Try.prog 31 1000 [Unit.enc u, .int .u8 19] [] (Unit.enc (uSelf_19 u)) [] := by
  exact uSelf_19_p1 u

/-- (kotatsu/alu.Unit).Self -/
def uSelf_20 (u : Unit) : Unit :=
  ({ A := (uChange_20 u u.A).2, X := ((uChange_20 u u.A).1).X, Y := ((uChange_20 u u.A).1).Y, S := ((uChange_20 u u.A).1).S, P := ((uChange_20 u u.A).1).P } : Unit)
theorem uSelf_20_p1 (u : Unit) : FnSpec Try.prog 31 1000 [Unit.enc u, .int .u8 20] [] (Unit.enc ({ A := (uChange_20 u u.A).2, X := ((uChange_20 u u.A).1).X, Y := ((uChange_20 u u.A).1).Y, S := ((uChange_20 u u.A).1).S, P := ((uChange_20 u u.A).1).P } : Unit)) [] := by
  exact fn_of_x hG hM Try.func31 (by kernel_rfl) (by kernel_rfl) 400 [.no, .yes, .yes, .call [] [] 1000 (.tuple ⟨[Unit.enc ((uChange_20 u u.A).1), .int .u8 ((uChange_20 u u.A).2)]⟩) []] (And.intro (Eq.refl false) (And.intro (Eq.refl true) (And.intro (Eq.refl true) (And.intro (uChange_20_ok u u.A) trivial)))) (by kernel_rfl)
theorem uSelf_20_ok (u : Unit) : FnSpec Try.prog 31 1000 [Unit.enc u, .int .u8 20] [] (Unit.enc (uSelf_20 u)) [] := by
  exact uSelf_20_p1 u

/-- (kotatsu/alu.Unit).Self -/
def uSelf_21 (u : Unit) : Unit :=
  ({ A := (uChange_21 u u.A).2, X := ((uChange_21 u u.A).1).X, Y := ((uChange_21 u u.A).1).Y, S := ((uChange_21 u u.A).1).S, P := ((uChange_21 u u.A).1).P } : Unit)
theorem uSelf_21_p1 (u : Unit) : FnSpec Try.prog 31 1000 [Unit.enc u, .int .u8 21] [] (Unit.enc ({ A := (uChange_21 u u.A).2, X := ((uChange_21 u u.A).1).X, Y := ((uChange_21 u u.A).1).Y, S := ((uChange_21 u u.A).1).S, P := ((uChange_21 u u.A).1).P } : Unit)) [] := by
  exact fn_of_x hG hM Try.func31 (by kernel_rfl) (by kernel_rfl) 400 [.no, .no, .yes, .yes, .call [] [] 1000 (.tuple ⟨[Unit.enc ((uChange_21 u u.A).1), .int .u8 ((uChange_21 u u.A).2)]⟩) []] (And.intro (Eq.refl false) (And.intro (Eq.refl false) (And.intro (Eq.refl true) (And.intro (Eq.refl true) (And.intro (uChange_21_ok u u.A) trivial))))) (by kernel_rfl)
theorem uSelf_21_ok (u : Unit) : FnSpec Try.prog 31 1000 [Unit.enc u, .int .u8 21] [] (Unit.enc (uSelf_21 u)) [] := by
  exact uSelf_21_p1 u

/-- (kotatsu/alu.Unit).Self -/
def uSelf_22 (u : Unit) : Unit :=
  ({ A := (uChange_22 u u.A).2, X := ((uChange_22 u u.A).1).X, Y := ((uChange_22 u u.A).1).Y, S := ((uChange_22 u u.A).1).S, P := ((uChange_22 u u.A).1).P } : Unit)
theorem uSelf_22_p1 (u : Unit) : FnSpec Try.prog 31 1000 [Unit.enc u, .int .u8 22] [] (Unit.enc ({ A := (uChange_22 u u.A).2, X := ((uChange_22 u u.A).1).X, Y := ((uChange_22 u u.A).1).Y, S := ((uChange_22 u u.A).1).S, P := ((uChange_22 u u.A).1).P } : Unit)) [] := by
  exact fn_of_x hG hM Try.func31 (by kernel_rfl) (by kernel_rfl) 400 [.no, .no, .no, .yes, .call [] [] 1000 (.tuple ⟨[Unit.enc ((uChange_22 u u.A).1), .int .u8 ((uChange_22 u u.A).2)]⟩) []] (And.intro (Eq.refl false) (And.intro (Eq.refl false) (And.intro (Eq.refl false) (And.intro (Eq.refl true) (And.intro (uChange_22_ok u u.A) trivial))))) (by kernel_rfl)
theorem uSelf_22_ok (u : Unit) : FnSpec Try.prog 31 1000 [Unit.enc u, .int .u8 22] [] (Unit.enc (uSelf_22 u)) [] := by
  exact uSelf_22_p1 u

/-- (kotatsu/alu.Unit).Self -/
def uSelf_23 (u : Unit) : Unit :=
  u
theorem uSelf_23_p1 (u : Unit) : FnSpec Try.prog 31 1000 [Unit.enc u, .int .u8 23] [] (Unit.enc u) [] := by
  exact fn_of_x hG hM Try.func31 (by kernel_rfl) (by kernel_rfl) 400 [.no, .no, .no, .no, .no, .no, .no, .no, .no, .no, .no, .no, .no, .no, .no, .no, .no, .no, .no, .no, .no] (And.intro (Eq.refl false) (And.intro (Eq.refl false) (And.intro (Eq.refl false) (And.intro (Eq.refl false) (And.intro (Eq.refl false) (And.intro (Eq.refl false) (And.intro (Eq.refl false) (And.intro (Eq.refl false) (And.intro (Eq.refl false) (And.intro (Eq.refl false) (And.intro (Eq.refl false) (And.intro (Eq.refl false) (And.intro (Eq.refl false) (And.intro (Eq.refl false) (And.intro (Eq.refl false) (And.intro (Eq.refl false) (And.intro (Eq.refl false) (And.intro (Eq.refl false) (And.intro (Eq.refl false) (And.intro (Eq.refl false) (And.intro (Eq.refl false) trivial))))))))))))))))))))) (by kernel_rfl)
theorem uSelf_23_ok (u : Unit) : FnSpec Try.prog 31 1000 [Unit.enc u, .int .u8 23] [] (Unit.enc (uSelf_23 u)) [] := by
  exact uSelf_23_p1 u

/-- (kotatsu/alu.Unit).Self -/
def uSelf_24 (u : Unit) : Unit :=
  u
theorem uSelf_24_p1 (u : Unit) : FnSpec Try.prog 31 1000 [Unit.enc u, .int .u8 24] [] (Unit.enc u) [] := by
  exact fn_of_x hG hM Try.func31 (by kernel_rfl) (by kernel_rfl) 400 [.no, .no, .no, .no, .no, .no, .no, .no, .no, .no, .no, .no, .no, .no, .no, .no, .no, .no, .no, .no, .no] (And.intro (Eq.refl false) (And.intro (Eq.refl false) (And.intro (Eq.refl false) (And.intro (Eq.refl false) (And.intro (Eq.refl false) (And.intro (Eq.refl false) (And.intro (Eq.refl false) (And.intro (Eq.refl false) (And.intro (Eq.refl false) (And.intro (Eq.refl false) (And.intro (Eq.refl false) (And.intro (Eq.refl false) (And.intro (Eq.refl false) (And.intro (Eq.refl false) (And.intro (Eq.refl false) (And.intro (Eq.refl false) (And.intro (Eq.refl false) (And.intro (Eq.refl false) (And.intro (Eq.refl false) (And.intro (Eq.refl false) (And.intro (Eq.refl false) trivial))))))))))))))))))))) (by kernel_rfl)
theorem uSelf_24_ok (u : Unit) : FnSpec Try.prog 31 1000 [Unit.enc u, .int .u8 24] [] (Unit.enc (uSelf_24 u)) [] := by
  exact uSelf_24_p1 u

/-- (kotatsu/alu.Unit).Self -/
def uSelf_25 (u : Unit) : Unit :=
  u
theorem uSelf_25_p1 (u : Unit) : FnSpec Try.prog 31 1000 [Unit.enc u, .int .u8 25] [] (Unit.enc u) [] := by
  exact fn_of_x hG hM Try.func31 (by kernel_rfl) (by kernel_rfl) 400 [.no, .no, .no, .no, .no, .no, .no, .no, .no, .no, .no, .no, .no, .no, .no, .no, .no, .no, .no, .no, .no] (And.intro (Eq.refl false) (And.intro (Eq.refl false) (And.intro (Eq.refl false) (And.intro (Eq.refl false) (And.intro (Eq.refl false) (And.intro (Eq.refl false) (And.intro (Eq.refl false) (And.intro (Eq.refl false) (And.intro (Eq.refl false) (And.intro (Eq.refl false) (And.intro (Eq.refl false) (And.intro (Eq.refl false) (And.intro (Eq.refl false) (And.intro (Eq.refl false) (And.intro (Eq.refl false) (And.intro (Eq.refl false) (And.intro (Eq.refl false) (And.intro (Eq.refl false) (And.intro (Eq.refl false) (And.intro (Eq.refl false) (And.intro (Eq.refl false) trivial))))))))))))))))))))) (by kernel_rfl)
theorem uSelf_25_ok (u : Unit) : FnSpec Try.prog 31 1000 [Unit.enc u, .int .u8 25] [] (Unit.enc (uSelf_25 u)) [] := by
  exact uSelf_25_p1 u

/-- (kotatsu/alu.Unit).Self -/
def uSelf_26 (u : Unit) : Unit :=
  u
theorem uSelf_26_p1 (u : Unit) : FnSpec Try.prog 31 1000 [Unit.enc u, .int .u8 26] [] (Unit.enc u) [] := by
  exact fn_of_x hG hM Try.func31 (by kernel_rfl) (by kernel_rfl) 400 [.no, .no, .no, .no, .no, .no, .no, .no, .no, .no, .no, .no, .no, .no, .no, .no, .no, .no, .no, .no, .no] (And.intro (Eq.refl false) (And.intro (Eq.refl false) (And.intro (Eq.refl false) (And.intro (Eq.refl false) (And.intro (Eq.refl false) (And.intro (Eq.refl false) (And.intro (Eq.refl false) (And.intro (Eq.refl false) (And.intro (Eq.refl false) (And.intro (Eq.refl false) (And.intro (Eq.refl false) (And.intro (Eq.refl false) (And.intro (Eq.refl false) (And.intro (Eq.refl false) (And.intro (Eq.refl false) (And.intro (Eq.refl false) (And.intro (Eq.refl false) (And.intro (Eq.refl false) (And.intro (Eq.refl false) (And.intro (Eq.refl false) (And.intro (Eq.refl false) trivial))))))))))))))))))))) (by kernel_rfl)
theorem uSelf_26_ok (u : Unit) : FnSpec Try.prog 31 1000 [Unit.enc u, .int .u8 26] [] (Unit.enc (uSelf_26 u)) [] := by
  exact uSelf_26_p1 u

/-- (kotatsu/alu.Unit).Self -/
def uSelf_27 (u : Unit) : Unit :=
  u
theorem uSelf_27_p1 (u : Unit) : FnSpec Try.prog 31 1000 [Unit.enc u, .int .u8 27] [] (Unit.enc u) [] := by
  exact fn_of_x hG hM Try.func31 (by kernel_rfl) (by kernel_rfl) 400 [.no, .no, .no, .no, .no, .no, .no, .no, .no, .no, .no, .no, .no, .no, .no, .no, .no, .no, .no, .no, .no] (And.intro (Eq.refl false) (And.intro (Eq.refl false) (And.intro (Eq.refl false) (And.intro (Eq.refl false) (And.intro (Eq.refl false) (And.intro (Eq.refl false) (And.intro (Eq.refl false) (And.intro (Eq.refl false) (And.intro (Eq.refl false) (And.intro (Eq.refl false) (And.intro (Eq.refl false) (And.intro (Eq.refl false) (And.intro (Eq.refl false) (And.intro (Eq.refl false) (And.intro (Eq.refl false) (And.intro (Eq.refl false) (And.intro (Eq.refl false) (And.intro (Eq.refl false) (And.intro (Eq.refl false) (And.intro (Eq.refl false) (And.intro (Eq.refl false) trivial))))))))))))))))))))) (by kernel_rfl)
theorem uSelf_27_ok (u : Unit) : FnSpec Try.prog 31 1000 [Unit.enc u, .int .u8 27] [] (Unit.enc (uSelf_27 u)) [] := by
  exact uSelf_27_p1 u

/-- (kotatsu/alu.Unit).Self -/
def uSelf_28 (u : Unit) : Unit :=
  u
theorem uSelf_28_p1 (u : Unit) : FnSpec Try.prog 31 1000 [Unit.enc u, .int .u8 28] [] (Unit.enc u) [] := by
  exact fn_of_x hG hM Try.func31 (by kernel_rfl) (by kernel_rfl) 400 [.no, .no, .no, .no, .no, .no, .no, .no, .no, .no, .no, .no, .no, .no, .no, .no, .no, .no, .no, .no, .no] (And.intro (Eq.refl false) (And.intro (Eq.refl false) (And.intro (Eq.refl false) (And.intro (Eq.refl false) (And.intro (Eq.refl false) (And.intro (Eq.refl false) (And.intro (Eq.refl false) (And.intro (Eq.refl false) (And.intro (Eq.refl false) (And.intro (Eq.refl false) (And.intro (Eq.refl false) (And.intro (Eq.refl false) (And.intro (Eq.refl false) (And.intro (Eq.refl false) (And.intro (Eq.refl false) (And.intro (Eq.refl false) (And.intro (Eq.refl false) (And.intro (Eq.refl false) (And.intro (Eq.refl false) (And.intro (Eq.refl false) (And.intro (Eq.refl false) trivial))))))))))))))))))))) (by kernel_rfl)
theorem uSelf_28_ok (u : Unit) : FnSpec Try.prog 31 1000 [Unit.enc u, .int .u8 28] [] (Unit.enc (uSelf_28 u)) [] := by
  exact uSelf_28_p1 u

/-- (kotatsu/alu.Unit).Self -/
def uSelf_29 (u : Unit) : Unit :=
  u
theorem uSelf_29_p1 (u : Unit) : FnSpec Try.prog 31 1000 [Unit.enc u, .int .u8 29] [] (Unit.enc u) [] := by
  exact fn_of_x hG hM Try.func31 (by kernel_rfl) (by kernel_rfl) 400 [.no, .no, .no, .no, .no, .no, .no, .no, .no, .no, .no, .no, .no, .no, .no, .no, .no, .no, .no, .no, .no] (And.intro (Eq.refl false) (And.intro (Eq.refl false) (And.intro (Eq.refl false) (And.intro (Eq.refl false) (And.intro (Eq.refl false) (And.intro (Eq.refl false) (And.intro (Eq.refl false) (And.intro (Eq.refl false) (And.intro (Eq.refl false) (And.intro (Eq.refl false) (And.intro (Eq.refl false) (And.intro (Eq.refl false) (And.intro (Eq.refl false) (And.intro (Eq.refl false) (And.intro (Eq.refl false) (And.intro (Eq.refl false) (And.intro (Eq.refl false) (And.intro (Eq.refl false) (And.intro (Eq.refl false) (And.intro (Eq.refl false) (And.intro (Eq.refl false) trivial))))))))))))))))))))) (by kernel_rfl)
theorem uSelf_29_ok (u : Unit) : FnSpec Try.prog 31 1000 [Unit.enc u, .int .u8 29] [] (Unit.enc (uSelf_29 u)) [] := by
  exact uSelf_29_p1 u

/-- (kotatsu/alu.Unit).Self -/
def uSelf_30 (u : Unit) : Unit :=
  u
theorem uSelf_30_p1 (u : Unit) : FnSpec Try.prog 31 1000 [Unit.enc u, .int .u8 30] [] (Unit.enc u) [] := by
  exact fn_of_x hG hM Try.func31 (by kernel_rfl) (by kernel_rfl) 400 [.no, .no, .no, .no, .no, .no, .no, .no, .no, .no, .no, .no, .no, .no, .no, .no, .no, .no, .no, .no, .no] (And.intro (Eq.refl false) (And.intro (Eq.refl false) (And.intro (Eq.refl false) (And.intro (Eq.refl false) (And.intro (Eq.refl false) (And.intro (Eq.refl false) (And.intro (Eq.refl false) (And.intro (Eq.refl false) (And.intro (Eq.refl false) (And.intro (Eq.refl false) (And.intro (Eq.refl false) (And.intro (Eq.refl false) (And.intro (Eq.refl false) (And.intro (Eq.refl false) (And.intro (Eq.refl false) (And.intro (Eq.refl false) (And.intro (Eq.refl false) (And.intro (Eq.refl false) (And.intro (Eq.refl false) (And.intro (Eq.refl false) (And.intro (Eq.refl false) trivial))))))))))))))))))))) (by kernel_rfl)
theorem uSelf_30_ok (u : Unit) : FnSpec Try.prog 31 1000 [Unit.enc u, .int .u8 30] [] (Unit.enc (uSelf_30 u)) [] := by
  exact uSelf_30_p1 u

/-- (kotatsu/alu.Unit).Self -/
def uSelf_31 (u : Unit) : Unit :=
  u
theorem uSelf_31_p1 (u : Unit) : FnSpec Try.prog 31 1000 [Unit.enc u, .int .u8 31] [] (Unit.enc u) [] := by
  exact fn_of_x hG hM Try.func31 (by kernel_rfl) (by kernel_rfl) 400 [.no, .no, .no, .no, .no, .no, .no, .no, .no, .no, .no, .no, .no, .no, .no, .no, .no, .no, .no, .no, .no] (And.intro (Eq.refl false) (And.intro (Eq.refl false) (And.intro (Eq.refl false) (And.intro (Eq.refl false) (And.intro (Eq.refl false) (And.intro (Eq.refl false) (And.intro (Eq.refl false) (And.intro (Eq.refl false) (And.intro (Eq.refl false) (And.intro (Eq.refl false) (And.intro (Eq.refl false) (And.intro (Eq.refl false) (And.intro (Eq.refl false) (And.intro (Eq.refl false) (And.intro (Eq.refl false) (And.intro (Eq.refl false) (And.intro (Eq.refl false) (And.intro (Eq.refl false) (And.intro (Eq.refl false) (And.intro (Eq.refl false) (And.intro (Eq.refl false) trivial))))))))))))))))))))) (by kernel_rfl)
theorem uSelf_31_ok (u : Unit) : FnSpec Try.prog 31 1000 [Unit.enc u, .int .u8 31] [] (Unit.enc (uSelf_31 u)) [] := by
  exact uSelf_31_p1 u

/-- (kotatsu/alu.Unit).Self -/
def uSelf_32 (u : Unit) : Unit :=
  u
theorem uSelf_32_p1 (u : Unit) : FnSpec Try.prog 31 1000 [Unit.enc u, .int .u8 32] [] (Unit.enc u) [] := by
  exact fn_of_x hG hM Try.func31 (by kernel_rfl) (by kernel_rfl) 400 [.no, .no, .no, .no, .no, .no, .no, .no, .no, .no, .no, .no, .no, .no, .no, .no, .no, .no, .no, .no, .no] (And.intro (Eq.refl false) (And.intro (Eq.refl false) (And.intro (Eq.refl false) (And.intro (Eq.refl false) (And.intro (Eq.refl false) (And.intro (Eq.refl false) (And.intro (Eq.refl false) (And.intro (Eq.refl false) (And.intro (Eq.refl false) (And.intro (Eq.refl false) (And.intro (Eq.refl false) (And.intro (Eq.refl false) (And.intro (Eq.refl false) (And.intro (Eq.refl false) (And.intro (Eq.refl false) (And.intro (Eq.refl false) (And.intro (Eq.refl false) (And.intro (Eq.refl false) (And.intro (Eq.refl false) (And.intro (Eq.refl false) (And.intro (Eq.refl false) trivial))))))))))))))))))))) (by kernel_rfl)
theorem uSelf_32_ok (u : Unit) : FnSpec Try.prog 31 1000 [Unit.enc u, .int .u8 32] [] (Unit.enc (uSelf_32 u)) [] := by
  exact uSelf_32_p1 u

/-- (kotatsu/alu.Unit).Self -/
def uSelf_33 (u : Unit) : Unit :=
  u
theorem uSelf_33_p1 (u : Unit) : FnSpec Try.prog 31 1000 [Unit.enc u, .int .u8 33] [] (Unit.enc u) [] := by
  exact fn_of_x hG hM Try.func31 (by kernel_rfl) (by kernel_rfl) 400 [.no, .no, .no, .no, .no, .no, .no, .no, .no, .no, .no, .no, .no, .no, .no, .no, .no, .no, .no, .no, .no] (And.intro (Eq.refl false) (And.intro (Eq.refl false) (And.intro (Eq.refl false) (And.intro (Eq.refl false) (And.intro (Eq.refl false) (And.intro (Eq.refl false) (And.intro (Eq.refl false) (And.intro (Eq.refl false) (And.intro (Eq.refl false) (And.intro (Eq.refl false) (And.intro (Eq.refl false) (And.intro (Eq.refl false) (And.intro (Eq.refl false) (And.intro (Eq.refl false) (And.intro (Eq.refl false) (And.intro (Eq.refl false) (And.intro (Eq.refl false) (And.intro (Eq.refl false) (And.intro (Eq.refl false) (And.intro (Eq.refl false) (And.intro (Eq.refl false) trivial))))))))))))))))))))) (by kernel_rfl)
theorem uSelf_33_ok (u : Unit) : FnSpec Try.prog 31 1000 [Unit.enc u, .int .u8 33] [] (Unit.enc (uSelf_33 u)) [] := by
  exact uSelf_33_p1 u

/-- (kotatsu/alu.Unit).Self -/
def uSelf_34 (u : Unit) : Unit :=
  u
theorem uSelf_34_p1 (u : Unit) : FnSpec Try.prog 31 1000 [Unit.enc u, .int .u8 34] [] (Unit.enc u) [] := by
  exact fn_of_x hG hM Try.func31 (by kernel_rfl) (by kernel_rfl) 400 [.no, .no, .no, .no, .no, .no, .no, .no, .no, .no, .no, .no, .no, .no, .no, .no, .no, .no, .no, .no, .no] (And.intro (Eq.refl false) (And.intro (Eq.refl false) (And.intro (Eq.refl false) (And.intro (Eq.refl false) (And.intro (Eq.refl false) (And.intro (Eq.refl false) (And.intro (Eq.refl false) (And.intro (Eq.refl false) (And.intro (Eq.refl false) (And.intro (Eq.refl false) (And.intro (Eq.refl false) (And.intro (Eq.refl false) (And.intro (Eq.refl false) (And.intro (Eq.refl false) (And.intro (Eq.refl false) (And.intro (Eq.refl false) (And.intro (Eq.refl false) (And.intro (Eq.refl false) (And.intro (Eq.refl false) (And.intro (Eq.refl false) (And.intro (Eq.refl false) trivial))))))))))))))))))))) (by kernel_rfl)
theorem uSelf_34_ok (u : Unit) : FnSpec Try.prog 31 1000 [Unit.enc u, .int .u8 34] [] (Unit.enc (uSelf_34 u)) [] := by
  exact uSelf_34_p1 u

/-- (kotatsu/alu.Unit).Self -/
def uSelf_35 (u : Unit) : Unit :=
  (u_ldx u u.A)
theorem uSelf_35_p1 (u : Unit) : FnSpec Try.prog 31 1000 [Unit.enc u, .int .u8 35] [] (Unit.enc (u_ldx u u.A)) [] := by
  exact fn_of_x hG hM Try.func31 (by kernel_rfl) (by kernel_rfl) 400 [.no, .no, .no, .no, .yes, .call [] [] 1000 (Unit.enc (u_ldx u u.A)) []] (And.intro (Eq.refl false) (And.intro (Eq.refl false) (And.intro (Eq.refl false) (And.intro (Eq.refl false) (And.intro (Eq.refl true) (And.intro (u_ldx_ok u u.A) trivial)))))) (by kernel_rfl)
theorem uSelf_35_ok (u : Unit) : FnSpec Try.prog 31 1000 [Unit.enc u, .int .u8 35] [] (Unit.enc (uSelf_35 u)) [] := by
  exact uSelf_35_p1 u

/-- (kotatsu/alu.Unit).Self -/
def uSelf_36 (u : Unit) : Unit :=
  (u_ldy u u.A)
theorem uSelf_36_p1 (u : Unit) : FnSpec Try.prog 31 1000 [Unit.enc u, .int .u8 36] [] (Unit.enc (u_ldy u u.A)) [] := by
  exact fn_of_x hG hM Try.func31 (by kernel_rfl) (by kernel_rfl) 400 [.no, .no, .no, .no, .no, .yes, .call [] [] 1000 (Unit.enc (u_ldy u u.A)) []] (And.intro (Eq.refl false) (And.intro (Eq.refl false) (And.intro (Eq.refl false) (And.intro (Eq.refl false) (And.intro (Eq.refl false) (And.intro (Eq.refl true) (And.intro (u_ldy_ok u u.A) trivial))))))) (by kernel_rfl)
theorem uSelf_36_ok (u : Unit) : FnSpec Try.prog 31 1000 [Unit.enc u, .int .u8 36] [] (Unit.enc (uSelf_36 u)) [] := by
  exact uSelf_36_p1 u

/-- (kotatsu/alu.Unit).Self -/
def uSelf_37 (u : Unit) : Unit :=
  (uLoad u u.X)
theorem uSelf_37_p1 (u : Unit) : FnSpec Try.prog 31 1000 [Unit.enc u, .int .u8 37] [] (Unit.enc (uLoad u u.X)) [] := by
  exact fn_of_x hG hM Try.func31 (by kernel_rfl) (by kernel_rfl) 400 [.no, .no, .no, .no, .no, .no, .yes, .call [] [] 1000 (Unit.enc (uLoad u u.X)) []] (And.intro (Eq.refl false) (And.intro (Eq.refl false) (And.intro (Eq.refl false) (And.intro (Eq.refl false) (And.intro (Eq.refl false) (And.intro (Eq.refl false) (And.intro (Eq.refl true) (And.intro (uLoad_ok u u.X) trivial)))))))) (by kernel_rfl)
theorem uSelf_37_ok (u : Unit) : FnSpec Try.prog 31 1000 [Unit.enc u, .int .u8 37] [] (Unit.enc (uSelf_37 u)) [] := by
  exact uSelf_37_p1 u

/-- (kotatsu/alu.Unit).Self -/
def uSelf_38 (u : Unit) : Unit :=
  (uLoad u u.Y)
theorem uSelf_38_p1 (u : Unit) : FnSpec Try.prog 31 1000 [Unit.enc u, .int .u8 38] [] (Unit.enc (uLoad u u.Y)) [] := by
  exact fn_of_x hG hM Try.func31 (by kernel_rfl) (by kernel_rfl) 400 [.no, .no, .no, .no, .no, .no, .no, .yes, .call [] [] 1000 (Unit.enc (uLoad u u.Y)) []] (And.intro (Eq.refl false) (And.intro (Eq.refl false) (And.intro (Eq.refl false) (And.intro (Eq.refl false) (And.intro (Eq.refl false) (And.intro (Eq.refl false) (And.intro (Eq.refl false) (And.intro (Eq.refl true) (And.intro (uLoad_ok u u.Y) trivial))))))))) (by kernel_rfl)
theorem uSelf_38_ok (u : Unit) : FnSpec Try.prog 31 1000 [Unit.enc u, .int .u8 38] [] (Unit.enc (uSelf_38 u)) [] := by
  exact uSelf_38_p1 u

/-- (kotatsu/alu.Unit).Self -/
def uSelf_39 (u : Unit) : Unit :=
  (u_ldx u u.S)
theorem uSelf_39_p1 (u : Unit) : FnSpec Try.prog 31 1000 [Unit.enc u, .int .u8 39] [] (Unit.enc (u_ldx u u.S)) [] := by
  exact fn_of_x hG hM Try.func31 (by kernel_rfl) (by kernel_rfl) 400 [.no, .no, .no, .no, .no, .no, .no, .no, .yes, .call [] [] 1000 (Unit.enc (u_ldx u u.S)) []] (And.intro (Eq.refl false) (And.intro (Eq.refl false) (And.intro (Eq.refl false) (And.intro (Eq.refl false) (And.intro (Eq.refl false) (And.intro (Eq.refl false) (And.intro (Eq.refl false) (And.intro (Eq.refl false) (And.intro (Eq.refl true) (And.intro (u_ldx_ok u u.S) trivial)))))))))) (by kernel_rfl)
theorem uSelf_39_ok (u : Unit) : FnSpec Try.prog 31 1000 [Unit.enc u, .int .u8 39] [] (Unit.enc (uSelf_39 u)) [] := by
  exact uSelf_39_p1 u

/-- (kotatsu/alu.Unit).Self -/
def uSelf_40 (u : Unit) : Unit :=
  ({ A := u.A, X := u.X, Y := u.Y, S := u.X, P := u.P } : Unit)
theorem uSelf_40_p1 (u : Unit) : FnSpec Try.prog 31 1000 [Unit.enc u, .int .u8 40] [] (Unit.enc ({ A := u.A, X := u.X, Y := u.Y, S := u.X, P := u.P } : Unit)) [] := by
  exact fn_of_x hG hM Try.func31 (by kernel_rfl) (by kernel_rfl) 400 [.no, .no, .no, .no, .no, .no, .no, .no, .no, .yes] (And.intro (Eq.refl false) (And.intro (Eq.refl false) (And.intro (Eq.refl false) (And.intro (Eq.refl false) (And.intro (Eq.refl false) (And.intro (Eq.refl false) (And.intro (Eq.refl false) (And.intro (Eq.refl false) (And.intro (Eq.refl false) (And.intro (Eq.refl true) trivial)))))))))) (by kernel_rfl)
theorem uSelf_40_ok (u : Unit) : FnSpec Try.prog 31 1000 [Unit.enc u, .int .u8 40] [] (Unit.enc (uSelf_40 u)) [] := by
  exact uSelf_40_p1 u

/-- (kotatsu/alu.Unit).Self -/
def uSelf_41 (u : Unit) : Unit :=
  (u_ldx u (IntKind.u8.wrap (u.X + 1)))
theorem uSelf_41_p1 (u : Unit) : FnSpec Try.prog 31 1000 [Unit.enc u, .int .u8 41] [] (Unit.enc (u_ldx u (IntKind.u8.wrap (u.X + 1)))) [] := by
  exact fn_of_x hG hM Try.func31 (by kernel_rfl) (by kernel_rfl) 400 [.no, .no, .no, .no, .no, .no, .no, .no, .no, .no, .yes, .call [] [] 1000 (Unit.enc (u_ldx u (IntKind.u8.wrap (u.X + 1)))) []] (And.intro (Eq.refl false) (And.intro (Eq.refl false) (And.intro (Eq.refl false) (And.intro (Eq.refl false) (And.intro (Eq.refl false) (And.intro (Eq.refl false) (And.intro (Eq.refl false) (And.intro (Eq.refl false) (And.intro (Eq.refl false) (And.intro (Eq.refl false) (And.intro (Eq.refl true) (And.intro (u_ldx_ok u (IntKind.u8.wrap (u.X + 1))) trivial)))))))))))) (by kernel_rfl)
theorem uSelf_41_ok (u : Unit) : FnSpec Try.prog 31 1000 [Unit.enc u, .int .u8 41] [] (Unit.enc (uSelf_41 u)) [] := by
  exact uSelf_41_p1 u

/-- (kotatsu/alu.Unit).Self -/
def uSelf_42 (u : Unit) : Unit :=
  (u_ldy u (IntKind.u8.wrap (u.Y + 1)))
theorem uSelf_42_p1 (u : Unit) : FnSpec Try.prog 31 1000 [Unit.enc u, .int .u8 42] [] (Unit.enc (u_ldy u (IntKind.u8.wrap (u.Y + 1)))) [] := by
  exact fn_of_x hG hM Try.func31 (by kernel_rfl) (by kernel_rfl) 400 [.no, .no, .no, .no, .no, .no, .no, .no, .no, .no, .no, .yes, .call [] [] 1000 (Unit.enc (u_ldy u (IntKind.u8.wrap (u.Y + 1)))) []] (And.intro (Eq.refl false) (And.intro (Eq.refl false) (And.intro (Eq.refl false) (And.intro (Eq.refl false) (And.intro (Eq.refl false) (And.intro (Eq.refl false) (And.intro (Eq.refl false) (And.intro (Eq.refl false) (And.intro (Eq.refl false) (And.intro (Eq.refl false) (And.intro (Eq.refl false) (And.intro (Eq.refl true) (And.intro (u_ldy_ok u (IntKind.u8.wrap (u.Y + 1))) trivial))))))))))))) (by kernel_rfl)
theorem uSelf_42_ok (u : Unit) : FnSpec Try.prog 31 1000 [Unit.enc u, .int .u8 42] [] (Unit.enc (uSelf_42 u)) [] := by
  exact uSelf_42_p1 u

/-- (kotatsu/alu.Unit).Self -/
def uSelf_43 (u : Unit) : Unit :=
  (u_ldx u (IntKind.u8.wrap (u.X - 1)))
theorem uSelf_43_p1 (u : Unit) : FnSpec Try.prog 31 1000 [Unit.enc u, .int .u8 43] [] (Unit.enc (u_ldx u (IntKind.u8.wrap (u.X - 1)))) [] := by
  exact fn_of_x hG hM Try.func31 (by kernel_rfl) (by kernel_rfl) 400 [.no, .no, .no, .no, .no, .no, .no, .no, .no, .no, .no, .no, .yes, .call [] [] 1000 (Unit.enc (u_ldx u (IntKind.u8.wrap (u.X - 1)))) []] (And.intro (Eq.refl false) (And.intro (Eq.refl false) (And.intro (Eq.refl false) (And.intro (Eq.refl false) (And.intro (Eq.refl false) (And.intro (Eq.refl false) (And.intro (Eq.refl false) (And.intro (Eq.refl false) (And.intro (Eq.refl false) (And.intro (Eq.refl false) (And.intro (Eq.refl false) (And.intro (Eq.refl false) (And.intro (Eq.refl true) (And.intro (u_ldx_ok u (IntKind.u8.wrap (u.X - 1))) trivial)))))))))))))) (by kernel_rfl)
theorem uSelf_43_ok (u : Unit) : FnSpec Try.prog 31 1000 [Unit.enc u, .int .u8 43] [] (Unit.enc (uSelf_43 u)) [] := by
  exact uSelf_43_p1 u

/-- (kotatsu/alu.Unit).Self -/
def uSelf_44 (u : Unit) : Unit :=
  (u_ldy u (IntKind.u8.wrap (u.Y - 1)))
theorem uSelf_44_p1 (u : Unit) : FnSpec Try.prog 31 1000 [Unit.enc u, .int .u8 44] [] (Unit.enc (u_ldy u (IntKind.u8.wrap (u.Y - 1)))) [] := by
  exact fn_of_x hG hM Try.func31 (by kernel_rfl) (by kernel_rfl) 400 [.no, .no, .no, .no, .no, .no, .no, .no, .no, .no, .no, .no, .no, .yes, .call [] [] 1000 (Unit.enc (u_ldy u (IntKind.u8.wrap (u.Y - 1)))) []] (And.intro (Eq.refl false) (And.intro (Eq.refl false) (And.intro (Eq.refl false) (And.intro (Eq.refl false) (And.intro (Eq.refl false) (And.intro (Eq.refl false) (And.intro (Eq.refl false) (And.intro (Eq.refl false) (And.intro (Eq.refl false) (And.intro (Eq.refl false) (And.intro (Eq.refl false) (And.intro (Eq.refl false) (And.intro (Eq.refl false) (And.intro (Eq.refl true) (And.intro (u_ldy_ok u (IntKind.u8.wrap (u.Y - 1))) trivial))))))))))))))) (by kernel_rfl)
theorem uSelf_44_ok (u : Unit) : FnSpec Try.prog 31 1000 [Unit.enc u, .int .u8 44] [] (Unit.enc (uSelf_44 u)) [] := by
  exact uSelf_44_p1 u

/-- (kotatsu/alu.Unit).Self -/
def uSelf_45 (u : Unit) : Unit :=
  (uFlag u 1 false)
theorem uSelf_45_p1 (u : Unit) : FnSpec Try.prog 31 1000 [Unit.enc u, .int .u8 45] [] (Unit.enc (uFlag u 1 false)) [] := by
  exact fn_of_x hG hM Try.func31 (by kernel_rfl) (by kernel_rfl) 400 [.no, .no, .no, .no, .no, .no, .no, .no, .no, .no, .no, .no, .no, .no, .yes, .yes, .call [] [] 1000 (Unit.enc (uFlag u 1 false)) []] (And.intro (Eq.refl false) (And.intro (Eq.refl false) (And.intro (Eq.refl false) (And.intro (Eq.refl false) (And.intro (Eq.refl false) (And.intro (Eq.refl false) (And.intro (Eq.refl false) (And.intro (Eq.refl false) (And.intro (Eq.refl false) (And.intro (Eq.refl false) (And.intro (Eq.refl false) (And.intro (Eq.refl false) (And.intro (Eq.refl false) (And.intro (Eq.refl false) (And.intro (Eq.refl true) (And.intro (Eq.refl true) (And.intro (uFlag_ok u 1 false) trivial))))))))))))))))) (by kernel_rfl)
theorem uSelf_45_ok (u : Unit) : FnSpec Try.prog 31 1000 [Unit.enc u, .int .u8 45] [] (Unit.enc (uSelf_45 u)) [] := by
  exact uSelf_45_p1 u

/-- (kotatsu/alu.Unit).Self -/
def uSelf_46 (u : Unit) : Unit :=
  (uFlag u 1 true)
theorem uSelf_46_p1 (u : Unit) : FnSpec Try.prog 31 1000 [Unit.enc u, .int .u8 46] [] (Unit.enc (uFlag u 1 true)) [] := by
  exact fn_of_x hG hM Try.func31 (by kernel_rfl) (by kernel_rfl) 400 [.no, .no, .no, .no, .no, .no, .no, .no, .no, .no, .no, .no, .no, .no, .no, .yes, .call [] [] 1000 (Unit.enc (uFlag u 1 true)) []] (And.intro (Eq.refl false) (And.intro (Eq.refl false) (And.intro (Eq.refl false) (And.intro (Eq.refl false) (And.intro (Eq.refl false) (And.intro (Eq.refl false) (And.intro (Eq.refl false) (And.intro (Eq.refl false) (And.intro (Eq.refl false) (And.intro (Eq.refl false) (And.intro (Eq.refl false) (And.intro (Eq.refl false) (And.intro (Eq.refl false) (And.intro (Eq.refl false) (And.intro (Eq.refl false) (And.intro (Eq.refl true) (And.intro (uFlag_ok u 1 true) trivial))))))))))))))))) (by kernel_rfl)
theorem uSelf_46_ok (u : Unit) : FnSpec Try.prog 31 1000 [Unit.enc u, .int .u8 46] [] (Unit.enc (uSelf_46 u)) [] := by
  exact uSelf_46_p1 u

/-- (kotatsu/alu.Unit).Self -/
def uSelf_47 (u : Unit) : Unit :=
  (uFlag u 4 false)
theorem uSelf_47_p1 (u : Unit) : FnSpec Try.prog 31 1000 [Unit.enc u, .int .u8 47] [] (Unit.enc (uFlag u 4 false)) [] := by
  exact fn_of_x hG hM Try.func31 (by kernel_rfl) (by kernel_rfl) 400 [.no, .no, .no, .no, .no, .no, .no, .no, .no, .no, .no, .no, .no, .no, .no, .no, .yes, .yes, .call [] [] 1000 (Unit.enc (uFlag u 4 false)) []] (And.intro (Eq.refl false) (And.intro (Eq.refl false) (And.intro (Eq.refl false) (And.intro (Eq.refl false) (And.intro (Eq.refl false) (And.intro (Eq.refl false) (And.intro (Eq.refl false) (And.intro (Eq.refl false) (And.intro (Eq.refl false) (And.intro (Eq.refl false) (And.intro (Eq.refl false) (And.intro (Eq.refl false) (And.intro (Eq.refl false) (And.intro (Eq.refl false) (And.intro (Eq.refl false) (And.intro (Eq.refl false) (And.intro (Eq.refl true) (And.intro (Eq.refl true) (And.intro (uFlag_ok u 4 false) trivial))))))))))))))))))) (by kernel_rfl)
theorem uSelf_47_ok (u : Unit) : FnSpec Try.prog 31 1000 [Unit.enc u, .int .u8 47] [] (Unit.enc (uSelf_47 u)) [] := by
  exact uSelf_47_p1 u

/-- (kotatsu/alu.Unit).Self -/
def uSelf_48 (u : Unit) : Unit :=
  (uFlag u 4 true)
theorem uSelf_48_p1 (u : Unit) : FnSpec Try.prog 31 1000 [Unit.enc u, .int .u8 48] [] (Unit.enc (uFlag u 4 true)) [] := by
  exact fn_of_x hG hM Try.func31 (by kernel_rfl) (by kernel_rfl) 400 [.no, .no, .no, .no, .no, .no, .no, .no, .no, .no, .no, .no, .no, .no, .no, .no, .no, .yes, .call [] [] 1000 (Unit.enc (uFlag u 4 true)) []] (And.intro (Eq.refl false) (And.intro (Eq.refl false) (And.intro (Eq.refl false) (And.intro (Eq.refl false) (And.intro (Eq.refl false) (And.intro (Eq.refl false) (And.intro (Eq.refl false) (And.intro (Eq.refl false) (And.intro (Eq.refl false) (And.intro (Eq.refl false) (And.intro (Eq.refl false) (And.intro (Eq.refl false) (And.intro (Eq.refl false) (And.intro (Eq.refl false) (And.intro (Eq.refl false) (And.intro (Eq.refl false) (And.intro (Eq.refl false) (And.intro (Eq.refl true) (And.intro (uFlag_ok u 4 true) trivial))))))))))))))))))) (by kernel_rfl)
theorem uSelf_48_ok (u : Unit) : FnSpec Try.prog 31 1000 [Unit.enc u, .int .u8 48] [] (Unit.enc (uSelf_48 u)) [] := by
  exact uSelf_48_p1 u

/-- (kotatsu/alu.Unit).Self -/
def uSelf_49 (u : Unit) : Unit :=
  (uFlag u 64 false)
theorem uSelf_49_p1 (u : Unit) : FnSpec Try.prog 31 1000 [Unit.enc u, .int .u8 49] [] (Unit.enc (uFlag u 64 false)) [] := by
  exact fn_of_x hG hM Try.func31 (by kernel_rfl) (by kernel_rfl) 400 [.no, .no, .no, .no, .no, .no, .no, .no, .no, .no, .no, .no, .no, .no, .no, .no, .no, .no, .yes, .call [] [] 1000 (Unit.enc (uFlag u 64 false)) []] (And.intro (Eq.refl false) (And.intro (Eq.refl false) (And.intro (Eq.refl false) (And.intro (Eq.refl false) (And.intro (Eq.refl false) (And.intro (Eq.refl false) (And.intro (Eq.refl false) (And.intro (Eq.refl false) (And.intro (Eq.refl false) (And.intro (Eq.refl false) (And.intro (Eq.refl false) (And.intro (Eq.refl false) (And.intro (Eq.refl false) (And.intro (Eq.refl false) (And.intro (Eq.refl false) (And.intro (Eq.refl false) (And.intro (Eq.refl false) (And.intro (Eq.refl false) (And.intro (Eq.refl true) (And.intro (uFlag_ok u 64 false) trivial)))))))))))))))))))) (by kernel_rfl)
theorem uSelf_49_ok (u : Unit) : FnSpec Try.prog 31 1000 [Unit.enc u, .int .u8 49] [] (Unit.enc (uSelf_49 u)) [] := by
  exact uSelf_49_p1 u

/-- (kotatsu/alu.Unit).Self -/
def uSelf_50 (u : Unit) : Unit :=
  (uFlag u 8 false)
theorem uSelf_50_p1 (u : Unit) : FnSpec Try.prog 31 1000 [Unit.enc u, .int .u8 50] [] (Unit.enc (uFlag u 8 false)) [] := by
  exact fn_of_x hG hM Try.func31 (by kernel_rfl) (by kernel_rfl) 400 [.no, .no, .no, .no, .no, .no, .no, .no, .no, .no, .no, .no, .no, .no, .no, .no, .no, .no, .no, .yes, .yes, .call [] [] 1000 (Unit.enc (uFlag u 8 false)) []] (And.intro (Eq.refl false) (And.intro (Eq.refl false) (And.intro (Eq.refl false) (And.intro (Eq.refl false) (And.intro (Eq.refl false) (And.intro (Eq.refl false) (And.intro (Eq.refl false) (And.intro (Eq.refl false) (And.intro (Eq.refl false) (And.intro (Eq.refl false) (And.intro (Eq.refl false) (And.intro (Eq.refl false) (And.intro (Eq.refl false) (And.intro (Eq.refl false) (And.intro (Eq.refl false) (And.intro (Eq.refl false) (And.intro (Eq.refl false) (And.intro (Eq.refl false) (And.intro (Eq.refl false) (And.intro (Eq.refl true) (And.intro (Eq.refl true) (And.intro (uFlag_ok u 8 false) trivial)))))))))))))))))))))) (by kernel_rfl)
theorem uSelf_50_ok (u : Unit) : FnSpec Try.prog 31 1000 [Unit.enc u, .int .u8 50] [] (Unit.enc (uSelf_50 u)) [] := by
  exact uSelf_50_p1 u

/-- (kotatsu/alu.Unit).Self -/
def uSelf_51 (u : Unit) : Unit :=
  (uFlag u 8 true)
theorem uSelf_51_p1 (u : Unit) : FnSpec Try.prog 31 1000 [Unit.enc u, .int .u8 51] [] (Unit.enc (uFlag u 8 true)) [] := by
  exact fn_of_x hG hM Try.func31 (by kernel_rfl) (by kernel_rfl) 400 [.no, .no, .no, .no, .no, .no, .no, .no, .no, .no, .no, .no, .no, .no, .no, .no, .no, .no, .no, .no, .yes, .call [] [] 1000 (Unit.enc (uFlag u 8 true)) []] (And.intro (Eq.refl false) (And.intro (Eq.refl false) (And.intro (Eq.refl false) (And.intro (Eq.refl false) (And.intro (Eq.refl false) (And.intro (Eq.refl false) (And.intro (Eq.refl false) (And.intro (Eq.refl false) (And.intro (Eq.refl false) (And.intro (Eq.refl false) (And.intro (Eq.refl false) (And.intro (Eq.refl false) (And.intro (Eq.refl false) (And.intro (Eq.refl false) (And.intro (Eq.refl false) (And.intro (Eq.refl false) (And.intro (Eq.refl false) (And.intro (Eq.refl false) (And.intro (Eq.refl false) (And.intro (Eq.refl false) (And.intro (Eq.refl true) (And.intro (uFlag_ok u 8 true) trivial)))))))))))))))))))))) (by kernel_rfl)
theorem uSelf_51_ok (u : Unit) : FnSpec Try.prog 31 1000 [Unit.enc u, .int .u8 51] [] (Unit.enc (uSelf_51 u)) [] := by
  exact uSelf_51_p1 u

/-- (kotatsu/alu.Unit).Self -/
def uSelf_52 (u : Unit) : Unit :=
  u
theorem uSelf_52_p1 (u : Unit) : FnSpec Try.prog 31 1000 [Unit.enc u, .int .u8 52] [] (Unit.enc u) [] := by
  exact fn_of_x hG hM Try.func31 (by kernel_rfl) (by kernel_rfl) 400 [.no, .no, .no, .no, .no, .no, .no, .no, .no, .no, .no, .no, .no, .no, .no, .no, .no, .no, .no, .no, .no] (And.intro (Eq.refl false) (And.intro (Eq.refl false) (And.intro (Eq.refl false) (And.intro (Eq.refl false) (And.intro (Eq.refl false) (And.intro (Eq.refl false) (And.intro (Eq.refl false) (And.intro (Eq.refl false) (And.intro (Eq.refl false) (And.intro (Eq.refl false) (And.intro (Eq.refl false) (And.intro (Eq.refl false) (And.intro (Eq.refl false) (And.intro (Eq.refl false) (And.intro (Eq.refl false) (And.intro (Eq.refl false) (And.intro (Eq.refl false) (And.intro (Eq.refl false) (And.intro (Eq.refl false) (And.intro (Eq.refl false) (And.intro (Eq.refl false) trivial))))))))))))))))))))) (by kernel_rfl)
theorem uSelf_52_ok (u : Unit) : FnSpec Try.prog 31 1000 [Unit.enc u, .int .u8 52] [] (Unit.enc (uSelf_52 u)) [] := by
  exact uSelf_52_p1 u

/-- (kotatsu/alu.Unit).Self -/
def uSelf_53 (u : Unit) : Unit :=
  u
theorem uSelf_53_p1 (u : Unit) : FnSpec Try.prog 31 1000 [Unit.enc u, .int .u8 53] [] (Unit.enc u) [] := by
  exact fn_of_x hG hM Try.func31 (by kernel_rfl) (by kernel_rfl) 400 [.no, .no, .no, .no, .no, .no, .no, .no, .no, .no, .no, .no, .no, .no, .no, .no, .no, .no, .no, .no, .no] (And.intro (Eq.refl false) (And.intro (Eq.refl false) (And.intro (Eq.refl false) (And.intro (Eq.refl false) (And.intro (Eq.refl false) (And.intro (Eq.refl false) (And.intro (Eq.refl false) (And.intro (Eq.refl false) (And.intro (Eq.refl false) (And.intro (Eq.refl false) (And.intro (Eq.refl false) (And.intro (Eq.refl false) (And.intro (Eq.refl false) (And.intro (Eq.refl false) (And.intro (Eq.refl false) (And.intro (Eq.refl false) (And.intro (Eq.refl false) (And.intro (Eq.refl false) (And.intro (Eq.refl false) (And.intro (Eq.refl false) (And.intro (Eq.refl false) trivial))))))))))))))))))))) (by kernel_rfl)
theorem uSelf_53_ok (u : Unit) : FnSpec Try.prog 31 1000 [Unit.enc u, .int .u8 53] [] (Unit.enc (uSelf_53 u)) [] := by
  exact uSelf_53_p1 u

/-- (kotatsu/alu.Unit).Self -/
def uSelf_54 (u : Unit) : Unit :=
  u
theorem uSelf_54_p1 (u : Unit) : FnSpec Try.prog 31 1000 [Unit.enc u, .int .u8 54] [] (Unit.enc u) [] := by
  exact fn_of_x hG hM Try.func31 (by kernel_rfl) (by kernel_rfl) 400 [.no, .no, .no, .no, .no, .no, .no, .no, .no, .no, .no, .no, .no, .no, .no, .no, .no, .no, .no, .no, .no] (And.intro (Eq.refl false) (And.intro (Eq.refl false) (And.intro (Eq.refl false) (And.intro (Eq.refl false) (And.intro (Eq.refl false) (And.intro (Eq.refl false) (And.intro (Eq.refl false) (And.intro (Eq.refl false) (And.intro (Eq.refl false) (And.intro (Eq.refl false) (And.intro (Eq.refl false) (And.intro (Eq.refl false) (And.intro (Eq.refl false) (And.intro (Eq.refl false) (And.intro (Eq.refl false) (And.intro (Eq.refl false) (And.intro (Eq.refl false) (And.intro (Eq.refl false) (And.intro (Eq.refl false) (And.intro (Eq.refl false) (And.intro (Eq.refl false) trivial))))))))))))))))))))) (by kernel_rfl)
theorem uSelf_54_ok (u : Unit) : FnSpec Try.prog 31 1000 [Unit.enc u, .int .u8 54] [] (Unit.enc (uSelf_54 u)) [] := by
  exact uSelf_54_p1 u

/-- (kotatsu/alu.Unit).Self -/
def uSelf_55 (u : Unit) : Unit :=
  u
theorem uSelf_55_p1 (u : Unit) : FnSpec Try.prog 31 1000 [Unit.enc u, .int .u8 55] [] (Unit.enc u) [] := by
  exact fn_of_x hG hM Try.func31 (by kernel_rfl) (by kernel_rfl) 400 [.no, .no, .no, .no, .no, .no, .no, .no, .no, .no, .no, .no, .no, .no, .no, .no, .no, .no, .no, .no, .no] (And.intro (Eq.refl false) (And.intro (Eq.refl false) (And.intro (Eq.refl false) (And.intro (Eq.refl false) (And.intro (Eq.refl false) (And.intro (Eq.refl false) (And.intro (Eq.refl false) (And.intro (Eq.refl false) (And.intro (Eq.refl false) (And.intro (Eq.refl false) (And.intro (Eq.refl false) (And.intro (Eq.refl false) (And.intro (Eq.refl false) (And.intro (Eq.refl false) (And.intro (Eq.refl false) (And.intro (Eq.refl false) (And.intro (Eq.refl false) (And.intro (Eq.refl false) (And.intro (Eq.refl false) (And.intro (Eq.refl false) (And.intro (Eq.refl false) trivial))))))))))))))))))))) (by kernel_rfl)
theorem uSelf_55_ok (u : Unit) : FnSpec Try.prog 31 1000 [Unit.enc u, .int .u8 55] [] (Unit.enc (uSelf_55 u)) [] := by
  exact uSelf_55_p1 u

/-- (kotatsu/alu.Unit).Self -/
def uSelf_56 (u : Unit) : Unit :=
  u
theorem uSelf_56_p1 (u : Unit) : FnSpec Try.prog 31 1000 [Unit.enc u, .int .u8 56] [] (Unit.enc u) [] := by
  exact fn_of_x hG hM Try.func31 (by kernel_rfl) (by kernel_rfl) 400 [.no, .no, .no, .no, .no, .no, .no, .no, .no, .no, .no, .no, .no, .no, .no, .no, .no, .no, .no, .no, .no] (And.intro (Eq.refl false) (And.intro (Eq.refl false) (And.intro (Eq.refl false) (And.intro (Eq.refl false) (And.intro (Eq.refl false) (And.intro (Eq.refl false) (And.intro (Eq.refl false) (And.intro (Eq.refl false) (And.intro (Eq.refl false) (And.intro (Eq.refl false) (And.intro (Eq.refl false) (And.intro (Eq.refl false) (And.intro (Eq.refl false) (And.intro (Eq.refl false) (And.intro (Eq.refl false) (And.intro (Eq.refl false) (And.intro (Eq.refl false) (And.intro (Eq.refl false) (And.intro (Eq.refl false) (And.intro (Eq.refl false) (And.intro (Eq.refl false) trivial))))))))))))))))))))) (by kernel_rfl)
theorem uSelf_56_ok (u : Unit) : FnSpec Try.prog 31 1000 [Unit.enc u, .int .u8 56] [] (Unit.enc (uSelf_56 u)) [] := by
  exact uSelf_56_p1 u

/-- (kotatsu/alu.Unit).Self -/
def uSelf_57 (u : Unit) : Unit :=
  u
theorem uSelf_57_p1 (u : Unit) : FnSpec Try.prog 31 1000 [Unit.enc u, .int .u8 57] [] (Unit.enc u) [] := by
  exact fn_of_x hG hM Try.func31 (by kernel_rfl) (by kernel_rfl) 400 [.no, .no, .no, .no, .no, .no, .no, .no, .no, .no, .no, .no, .no, .no, .no, .no, .no, .no, .no, .no, .no] (And.intro (Eq.refl false) (And.intro (Eq.refl false) (And.intro (Eq.refl false) (And.intro (Eq.refl false) (And.intro (Eq.refl false) (And.intro (Eq.refl false) (And.intro (Eq.refl false) (And.intro (Eq.refl false) (And.intro (Eq.refl false) (And.intro (Eq.refl false) (And.intro (Eq.refl false) (And.intro (Eq.refl false) (And.intro (Eq.refl false) (And.intro (Eq.refl false) (And.intro (Eq.refl false) (And.intro (Eq.refl false) (And.intro (Eq.refl false) (And.intro (Eq.refl false) (And.intro (Eq.refl false) (And.intro (Eq.refl false) (And.intro (Eq.refl false) trivial))))))))))))))))))))) (by kernel_rfl)
theorem uSelf_57_ok (u : Unit) : FnSpec Try.prog 31 1000 [Unit.enc u, .int .u8 57] [] (Unit.enc (uSelf_57 u)) [] := by
  exact uSelf_57_p1 u

/-- (kotatsu/alu.Unit).Self -/
def uSelf_58 (u : Unit) : Unit :=
  u
theorem uSelf_58_p1 (u : Unit) : FnSpec Try.prog 31 1000 [Unit.enc u, .int .u8 58] [] (Unit.enc u) [] := by
  exact fn_of_x hG hM Try.func31 (by kernel_rfl) (by kernel_rfl) 400 [.no, .no, .no, .no, .no, .no, .no, .no, .no, .no, .no, .no, .no, .no, .no, .no, .no, .no, .no, .no, .no] (And.intro (Eq.refl false) (And.intro (Eq.refl false) (And.intro (Eq.refl false) (And.intro (Eq.refl false) (And.intro (Eq.refl false) (And.intro (Eq.refl false) (And.intro (Eq.refl false) (And.intro (Eq.refl false) (And.intro (Eq.refl false) (And.intro (Eq.refl false) (And.intro (Eq.refl false) (And.intro (Eq.refl false) (And.intro (Eq.refl false) (And.intro (Eq.refl false) (And.intro (Eq.refl false) (And.intro (Eq.refl false) (And.intro (Eq.refl false) (And.intro (Eq.refl false) (And.intro (Eq.refl false) (And.intro (Eq.refl false) (And.intro (Eq.refl false) trivial))))))))))))))))))))) (by kernel_rfl)
theorem uSelf_58_ok (u : Unit) : FnSpec Try.prog 31 1000 [Unit.enc u, .int .u8 58] [] (Unit.enc (uSelf_58 u)) [] := by
  exact uSelf_58_p1 u

/-- (kotatsu/alu.Unit).Self -/
def uSelf_59 (u : Unit) : Unit :=
  u
theorem uSelf_59_p1 (u : Unit) : FnSpec Try.prog 31 1000 [Unit.enc u, .int .u8 59] [] (Unit.enc u) [] := by
  exact fn_of_x hG hM Try.func31 (by kernel_rfl) (by kernel_rfl) 400 [.no, .no, .no, .no, .no, .no, .no, .no, .no, .no, .no, .no, .no, .no, .no, .no, .no, .no, .no, .no, .no] (And.intro (Eq.refl false) (And.intro (Eq.refl false) (And.intro (Eq.refl false) (And.intro (Eq.refl false) (And.intro (Eq.refl false) (And.intro (Eq.refl false) (And.intro (Eq.refl false) (And.intro (Eq.refl false) (And.intro (Eq.refl false) (And.intro (Eq.refl false) (And.intro (Eq.refl false) (And.intro (Eq.refl false) (And.intro (Eq.refl false) (And.intro (Eq.refl false) (And.intro (Eq.refl false) (And.intro (Eq.refl false) (And.intro (Eq.refl false) (And.intro (Eq.refl false) (And.intro (Eq.refl false) (And.intro (Eq.refl false) (And.intro (Eq.refl false) trivial))))))))))))))))))))) (by kernel_rfl)
theorem uSelf_59_ok (u : Unit) : FnSpec Try.prog 31 1000 [Unit.enc u, .int .u8 59] [] (Unit.enc (uSelf_59 u)) [] := by
  exact uSelf_59_p1 u

/-- (kotatsu/alu.Unit).Self -/
def uSelf_60 (u : Unit) : Unit :=
  u
theorem uSelf_60_p1 (u : Unit) : FnSpec Try.prog 31 1000 [Unit.enc u, .int .u8 60] [] (Unit.enc u) [] := by
  exact fn_of_x hG hM Try.func31 (by kernel_rfl) (by kernel_rfl) 400 [.no, .no, .no, .no, .no, .no, .no, .no, .no, .no, .no, .no, .no, .no, .no, .no, .no, .no, .no, .no, .no] (And.intro (Eq.refl false) (And.intro (Eq.refl false) (And.intro (Eq.refl false) (And.intro (Eq.refl false) (And.intro (Eq.refl false) (And.intro (Eq.refl false) (And.intro (Eq.refl false) (And.intro (Eq.refl false) (And.intro (Eq.refl false) (And.intro (Eq.refl false) (And.intro (Eq.refl false) (And.intro (Eq.refl false) (And.intro (Eq.refl false) (And.intro (Eq.refl false) (And.intro (Eq.refl false) (And.intro (Eq.refl false) (And.intro (Eq.refl false) (And.intro (Eq.refl false) (And.intro (Eq.refl false) (And.intro (Eq.refl false) (And.intro (Eq.refl false) trivial))))))))))))))))))))) (by kernel_rfl)
theorem uSelf_60_ok (u : Unit) : FnSpec Try.prog 31 1000 [Unit.enc u, .int .u8 60] [] (Unit.enc (uSelf_60 u)) [] := by
  exact uSelf_60_p1 u

/-- (kotatsu/alu.Unit).Self -/
def uSelf_61 (u : Unit) : Unit :=
  u
theorem uSelf_61_p1 (u : Unit) : FnSpec Try.prog 31 1000 [Unit.enc u, .int .u8 61] [] (Unit.enc u) [] := by
  exact fn_of_x hG hM Try.func31 (by kernel_rfl) (by kernel_rfl) 400 [.no, .no, .no, .no, .no, .no, .no, .no, .no, .no, .no, .no, .no, .no, .no, .no, .no, .no, .no, .no, .no] (And.intro (Eq.refl false) (And.intro (Eq.refl false) (And.intro (Eq.refl false) (And.intro (Eq.refl false) (And.intro (Eq.refl false) (And.intro (Eq.refl false) (And.intro (Eq.refl false) (And.intro (Eq.refl false) (And.intro (Eq.refl false) (And.intro (Eq.refl false) (And.intro (Eq.refl false) (And.intro (Eq.refl false) (And.intro (Eq.refl false) (And.intro (Eq.refl false) (And.intro (Eq.refl false) (And.intro (Eq.refl false) (And.intro (Eq.refl false) (And.intro (Eq.refl false) (And.intro (Eq.refl false) (And.intro (Eq.refl false) (And.intro (Eq.refl false) trivial))))))))))))))))))))) (by kernel_rfl)
theorem uSelf_61_ok (u : Unit) : FnSpec Try.prog 31 1000 [Unit.enc u, .int .u8 61] [] (Unit.enc (uSelf_61 u)) [] := by
  exact uSelf_61_p1 u

/-- (kotatsu/alu.Unit).Self -/
def uSelf_62 (u : Unit) : Unit :=
  u
theorem uSelf_62_p1 (u : Unit) : FnSpec Try.prog 31 1000 [Unit.enc u, .int .u8 62] [] (Unit.enc u) [] := by
  exact fn_of_x hG hM Try.func31 (by kernel_rfl) (by kernel_rfl) 400 [.no, .no, .no, .no, .no, .no, .no, .no, .no, .no, .no, .no, .no, .no, .no, .no, .no, .no, .no, .no, .no] (And.intro (Eq.refl false) (And.intro (Eq.refl false) (And.intro (Eq.refl false) (And.intro (Eq.refl false) (And.intro (Eq.refl false) (And.intro (Eq.refl false) (And.intro (Eq.refl false) (And.intro (Eq.refl false) (And.intro (Eq.refl false) (And.intro (Eq.refl false) (And.intro (Eq.refl false) (And.intro (Eq.refl false) (And.intro (Eq.refl false) (And.intro (Eq.refl false) (And.intro (Eq.refl false) (And.intro (Eq.refl false) (And.intro (Eq.refl false) (And.intro (Eq.refl false) (And.intro (Eq.refl false) (And.intro (Eq.refl false) (And.intro (Eq.refl false) trivial))))))))))))))))))))) (by kernel_rfl)
theorem uSelf_62_ok (u : Unit) : FnSpec Try.prog 31 1000 [Unit.enc u, .int .u8 62] [] (Unit.enc (uSelf_62 u)) [] := by
  exact uSelf_62_p1 u

/-- (kotatsu/alu.Unit).Self -/
def uSelf_63 (u : Unit) : Unit :=
  u
theorem uSelf_63_p1 (u : Unit) : FnSpec Try.prog 31 1000 [Unit.enc u, .int .u8 63] [] (Unit.enc u) [] := by
  exact fn_of_x hG hM Try.func31 (by kernel_rfl) (by kernel_rfl) 400 [.no, .no, .no, .no, .no, .no, .no, .no, .no, .no, .no, .no, .no, .no, .no, .no, .no, .no, .no, .no, .no] (And.intro (Eq.refl false) (And.intro (Eq.refl false) (And.intro (Eq.refl false) (And.intro (Eq.refl false) (And.intro (Eq.refl false) (And.intro (Eq.refl false) (And.intro (Eq.refl false) (And.intro (Eq.refl false) (And.intro (Eq.refl false) (And.intro (Eq.refl false) (And.intro (Eq.refl false) (And.intro (Eq.refl false) (And.intro (Eq.refl false) (And.intro (Eq.refl false) (And.intro (Eq.refl false) (And.intro (Eq.refl false) (And.intro (Eq.refl false) (And.intro (Eq.refl false) (And.intro (Eq.refl false) (And.intro (Eq.refl false) (And.intro (Eq.refl false) trivial))))))))))))))))))))) (by kernel_rfl)
theorem uSelf_63_ok (u : Unit) : FnSpec Try.prog 31 1000 [Unit.enc u, .int .u8 63] [] (Unit.enc (uSelf_63 u)) [] := by
  exact uSelf_63_p1 u

/-- (kotatsu/alu.Unit).Self -/
def uSelf_64 (u : Unit) : Unit :=
  u
theorem uSelf_64_p1 (u : Unit) : FnSpec Try.prog 31 1000 [Unit.enc u, .int .u8 64] [] (Unit.enc u) [] := by
  exact fn_of_x hG hM Try.func31 (by kernel_rfl) (by kernel_rfl) 400 [.no, .no, .no, .no, .no, .no, .no, .no, .no, .no, .no, .no, .no, .no, .no, .no, .no, .no, .no, .no, .no] (And.intro (Eq.refl false) (And.intro (Eq.refl false) (And.intro (Eq.refl false) (And.intro (Eq.refl false) (And.intro (Eq.refl false) (And.intro (Eq.refl false) (And.intro (Eq.refl false) (And.intro (Eq.refl false) (And.intro (Eq.refl false) (And.intro (Eq.refl false) (And.intro (Eq.refl false) (And.intro (Eq.refl false) (And.intro (Eq.refl false) (And.intro (Eq.refl false) (And.intro (Eq.refl false) (And.intro (Eq.refl false) (And.intro (Eq.refl false) (And.intro (Eq.refl false) (And.intro (Eq.refl false) (And.intro (Eq.refl false) (And.intro (Eq.refl false) trivial))))))))))))))))))))) (by kernel_rfl)
theorem uSelf_64_ok (u : Unit) : FnSpec Try.prog 31 1000 [Unit.enc u, .int .u8 64] [] (Unit.enc (uSelf_64 u)) [] := by
  exact uSelf_64_p1 u

/-- (kotatsu/alu.Unit).Self -/
def uSelf_65 (u : Unit) : Unit :=
  u
theorem uSelf_65_p1 (u : Unit) : FnSpec Try.prog 31 1000 [Unit.enc u, .int .u8 65] [] (Unit.enc u) [] := by
  exact fn_of_x hG hM Try.func31 (by kernel_rfl) (by kernel_rfl) 400 [.no, .no, .no, .no, .no, .no, .no, .no, .no, .no, .no, .no, .no, .no, .no, .no, .no, .no, .no, .no, .no] (And.intro (Eq.refl false) (And.intro (Eq.refl false) (And.intro (Eq.refl false) (And.intro (Eq.refl false) (And.intro (Eq.refl false) (And.intro (Eq.refl false) (And.intro (Eq.refl false) (And.intro (Eq.refl false) (And.intro (Eq.refl false) (And.intro (Eq.refl false) (And.intro (Eq.refl false) (And.intro (Eq.refl false) (And.intro (Eq.refl false) (And.intro (Eq.refl false) (And.intro (Eq.refl false) (And.intro (Eq.refl false) (And.intro (Eq.refl false) (And.intro (Eq.refl false) (And.intro (Eq.refl false) (And.intro (Eq.refl false) (And.intro (Eq.refl false) trivial))))))))))))))))))))) (by kernel_rfl)
theorem uSelf_65_ok (u : Unit) : FnSpec Try.prog 31 1000 [Unit.enc u, .int .u8 65] [] (Unit.enc (uSelf_65 u)) [] := by
  exact uSelf_65_p1 u

/-- (kotatsu/alu.Unit).Self -/
def uSelf_66 (u : Unit) : Unit :=
  u
theorem uSelf_66_p1 (u : Unit) : FnSpec Try.prog 31 1000 [Unit.enc u, .int .u8 66] [] (Unit.enc u) [] := by
  exact fn_of_x hG hM Try.func31 (by kernel_rfl) (by kernel_rfl) 400 [.no, .no, .no, .no, .no, .no, .no, .no, .no, .no, .no, .no, .no, .no, .no, .no, .no, .no, .no, .no, .no] (And.intro (Eq.refl false) (And.intro (Eq.refl false) (And.intro (Eq.refl false) (And.intro (Eq.refl false) (And.intro (Eq.refl false) (And.intro (Eq.refl false) (And.intro (Eq.refl false) (And.intro (Eq.refl false) (And.intro (Eq.refl false) (And.intro (Eq.refl false) (And.intro (Eq.refl false) (And.intro (Eq.refl false) (And.intro (Eq.refl false) (And.intro (Eq.refl false) (And.intro (Eq.refl false) (And.intro (Eq.refl false) (And.intro (Eq.refl false) (And.intro (Eq.refl false) (And.intro (Eq.refl false) (And.intro (Eq.refl false) (And.intro (Eq.refl false) trivial))))))))))))))))))))) (by kernel_rfl)
theorem uSelf_66_ok (u : Unit) : FnSpec Try.prog 31 1000 [Unit.enc u, .int .u8 66] [] (Unit.enc (uSelf_66 u)) [] := by
  exact uSelf_66_p1 u

/-- (kotatsu/alu.Unit).Self -/
def uSelf_67 (u : Unit) : Unit :=
  u
theorem uSelf_67_p1 (u : Unit) : FnSpec Try.prog 31 1000 [Unit.enc u, .int .u8 67] [] (Unit.enc u) [] := by
  exact fn_of_x hG hM Try.func31 (by kernel_rfl) (by kernel_rfl) 400 [.no, .no, .no, .no, .no, .no, .no, .no, .no, .no, .no, .no, .no, .no, .no, .no, .no, .no, .no, .no, .no] (And.intro (Eq.refl false) (And.intro (Eq.refl false) (And.intro (Eq.refl false) (And.intro (Eq.refl false) (And.intro (Eq.refl false) (And.intro (Eq.refl false) (And.intro (Eq.refl false) (And.intro (Eq.refl false) (And.intro (Eq.refl false) (And.intro (Eq.refl false) (And.intro (Eq.refl false) (And.intro (Eq.refl false) (And.intro (Eq.refl false) (And.intro (Eq.refl false) (And.intro (Eq.refl false) (And.intro (Eq.refl false) (And.intro (Eq.refl false) (And.intro (Eq.refl false) (And.intro (Eq.refl false) (And.intro (Eq.refl false) (And.intro (Eq.refl false) trivial))))))))))))))))))))) (by kernel_rfl)
theorem uSelf_67_ok (u : Unit) : FnSpec Try.prog 31 1000 [Unit.enc u, .int .u8 67] [] (Unit.enc (uSelf_67 u)) [] := by
  exact uSelf_67_p1 u

/-- (kotatsu/alu.Unit).Self -/
def uSelf_68 (u : Unit) : Unit :=
  u
theorem uSelf_68_p1 (u : Unit) : FnSpec Try.prog 31 1000 [Unit.enc u, .int .u8 68] [] (Unit.enc u) [] := by
  exact fn_of_x hG hM Try.func31 (by kernel_rfl) (by kernel_rfl) 400 [.no, .no, .no, .no, .no, .no, .no, .no, .no, .no, .no, .no, .no, .no, .no, .no, .no, .no, .no, .no, .no] (And.intro (Eq.refl false) (And.intro (Eq.refl false) (And.intro (Eq.refl false) (And.intro (Eq.refl false) (And.intro (Eq.refl false) (And.intro (Eq.refl false) (And.intro (Eq.refl false) (And.intro (Eq.refl false) (And.intro (Eq.refl false) (And.intro (Eq.refl false) (And.intro (Eq.refl false) (And.intro (Eq.refl false) (And.intro (Eq.refl false) (And.intro (Eq.refl false) (And.intro (Eq.refl false) (And.intro (Eq.refl false) (And.intro (Eq.refl false) (And.intro (Eq.refl false) (And.intro (Eq.refl false) (And.intro (Eq.refl false) (And.intro (Eq.refl false) trivial))))))))))))))))))))) (by kernel_rfl)
theorem uSelf_68_ok (u : Unit) : FnSpec Try.prog 31 1000 [Unit.enc u, .int .u8 68] [] (Unit.enc (uSelf_68 u)) [] := by
  exact uSelf_68_p1 u

/-- (kotatsu/alu.Unit).Self -/
def uSelf_69 (u : Unit) : Unit :=
  u
theorem uSelf_69_p1 (u : Unit) : FnSpec Try.prog 31 1000 [Unit.enc u, .int .u8 69] [] (Unit.enc u) [] := by
  exact fn_of_x hG hM Try.func31 (by kernel_rfl) (by kernel_rfl) 400 [.no, .no, .no, .no, .no, .no, .no, .no, .no, .no, .no, .no, .no, .no, .no, .no, .no, .no, .no, .no, .no] (And.intro (Eq.refl false) (And.intro (Eq.refl false) (And.intro (Eq.refl false) (And.intro (Eq.refl false) (And.intro (Eq.refl false) (And.intro (Eq.refl false) (And.intro (Eq.refl false) (And.intro (Eq.refl false) (And.intro (Eq.refl false) (And.intro (Eq.refl false) (And.intro (Eq.refl false) (And.intro (Eq.refl false) (And.intro (Eq.refl false) (And.intro (Eq.refl false) (And.intro (Eq.refl false) (And.intro (Eq.refl false) (And.intro (Eq.refl false) (And.intro (Eq.refl false) (And.intro (Eq.refl false) (And.intro (Eq.refl false) (And.intro (Eq.refl false) trivial))))))))))))))))))))) (by kernel_rfl)
theorem uSelf_69_ok (u : Unit) : FnSpec Try.prog 31 1000 [Unit.enc u, .int .u8 69] [] (Unit.enc (uSelf_69 u)) [] := by
  exact uSelf_69_p1 u

/-- (kotatsu/alu.Unit).Self -/
def uSelf_hi (u : Unit) (op : Int) : Unit :=
  u
theorem uSelf_hi_p1 (u : Unit) (op : Int) (h : 70 ≤ op) : FnSpec Try.prog 31 1000 [Unit.enc u, .int .u8 op] [] (Unit.enc u) [] := by
  exact fn_of_x hG hM Try.func31 (by kernel_rfl) (by kernel_rfl) 400 [.no, .no, .no, .no, .no, .no, .no, .no, .no, .no, .no, .no, .no, .no, .no, .no, .no, .no, .no, .no, .no] (And.intro (beq_no (by omega) : ((op : Int) == 19) = false) (And.intro (beq_no (by omega) : ((op : Int) == 20) = false) (And.intro (beq_no (by omega) : ((op : Int) == 21) = false) (And.intro (beq_no (by omega) : ((op : Int) == 22) = false) (And.intro (beq_no (by omega) : ((op : Int) == 35) = false) (And.intro (beq_no (by omega) : ((op : Int) == 36) = false) (And.intro (beq_no (by omega) : ((op : Int) == 37) = false) (And.intro (beq_no (by omega) : ((op : Int) == 38) = false) (And.intro (beq_no (by omega) : ((op : Int) == 39) = false) (And.intro (beq_no (by omega) : ((op : Int) == 40) = false) (And.intro (beq_no (by omega) : ((op : Int) == 41) = false) (And.intro (beq_no (by omega) : ((op : Int) == 42) = false) (And.intro (beq_no (by omega) : ((op : Int) == 43) = false) (And.intro (beq_no (by omega) : ((op : Int) == 44) = false) (And.intro (beq_no (by omega) : ((op : Int) == 45) = false) (And.intro (beq_no (by omega) : ((op : Int) == 46) = false) (And.intro (beq_no (by omega) : ((op : Int) == 47) = false) (And.intro (beq_no (by omega) : ((op : Int) == 48) = false) (And.intro (beq_no (by omega) : ((op : Int) == 49) = false) (And.intro (beq_no (by omega) : ((op : Int) == 50) = false) (And.intro (beq_no (by omega) : ((op : Int) == 51) = false) trivial))))))))))))))))))))) (by kernel_rfl)
theorem uSelf_hi_ok (u : Unit) (op : Int) (h : 70 ≤ op) : FnSpec Try.prog 31 1000 [Unit.enc u, .int .u8 op] [] (Unit.enc (uSelf_hi u op)) [] := by
  exact uSelf_hi_p1 u op h

/-- (kotatsu/alu.Unit).Store -/
def uStore_0 (u : Unit) : Int :=
  0
theorem uStore_0_p1 (u : Unit) : FnSpec Try.prog 25 1000 [Unit.enc u, .int .u8 0] [] (.int .u8 0) [] := by
  exact fn_of_x hG hM Try.func25 (by kernel_rfl) (by kernel_rfl) 400 [.no, .no, .no, .no] (And.intro (Eq.refl false) (And.intro (Eq.refl false) (And.intro (Eq.refl false) (And.intro (Eq.refl false) trivial)))) (by kernel_rfl)
theorem uStore_0_ok (u : Unit) : FnSpec Try.prog 25 1000 [Unit.enc u, .int .u8 0] [] (.int .u8 (uStore_0 u)) [] := by
  exact uStore_0_p1 u

/-- (kotatsu/alu.Unit).Store -/
def uStore_1 (u : Unit) : Int :=
  0
theorem uStore_1_p1 (u : Unit) : FnSpec Try.prog 25 1000 [Unit.enc u, .int .u8 1] [] (.int .u8 0) [] := by
  exact fn_of_x hG hM Try.func25 (by kernel_rfl) (by kernel_rfl) 400 [.no, .no, .no, .no] (And.intro (Eq.refl false) (And.intro (Eq.refl false) (And.intro (Eq.refl false) (And.intro (Eq.refl false) trivial)))) (by kernel_rfl)
theorem uStore_1_ok (u : Unit) : FnSpec Try.prog 25 1000 [Unit.enc u, .int .u8 1] [] (.int .u8 (uStore_1 u)) [] := by
  exact uStore_1_p1 u

/-- (kotatsu/alu.Unit).Store -/
def uStore_2 (u : Unit) : Int :=
  0
theorem uStore_2_p1 (u : Unit) : FnSpec Try.prog 25 1000 [Unit.enc u, .int .u8 2] [] (.int .u8 0) [] := by
  exact fn_of_x hG hM Try.func25 (by kernel_rfl) (by kernel_rfl) 400 [.no, .no, .no, .no] (And.intro (Eq.refl false) (And.intro (Eq.refl false) (And.intro (Eq.refl false) (And.intro (Eq.refl false) trivial)))) (by kernel_rfl)
theorem uStore_2_ok (u : Unit) : FnSpec Try.prog 25 1000 [Unit.enc u, .int .u8 2] [] (.int .u8 (uStore_2 u)) [] := by
  exact uStore_2_p1 u

/-- (kotatsu/alu.Unit).Store -/
def uStore_3 (u : Unit) : Int :=
  0
theorem uStore_3_p1 (u : Unit) : FnSpec Try.prog 25 1000 [Unit.enc u, .int .u8 3] [] (.int .u8 0) [] := by
  exact fn_of_x hG hM Try.func25 (by kernel_rfl) (by kernel_rfl) 400 [.no, .no, .no, .no] (And.intro (Eq.refl false) (And.intro (Eq.refl false) (And.intro (Eq.refl false) (And.intro (Eq.refl false) trivial)))) (by kernel_rfl)
theorem uStore_3_ok (u : Unit) : FnSpec Try.prog 25 1000 [Unit.enc u, .int .u8 3] [] (.int .u8 (uStore_3 u)) [] := by
  exact uStore_3_p1 u

/-- (kotatsu/alu.Unit).Store -/
def uStore_4 (u : Unit) : Int :=
  0
theorem uStore_4_p1 (u : Unit) : FnSpec Try.prog 25 1000 [Unit.enc u, .int .u8 4] [] (.int .u8 0) [] := by
  exact fn_of_x hG hM Try.func25 (by kernel_rfl) (by kernel_rfl) 400 [.no, .no, .no, .no] (And.intro (Eq.refl false) (And.intro (Eq.refl false) (And.intro (Eq.refl false) (And.intro (Eq.refl false) trivial)))) (by kernel_rfl)
theorem uStore_4_ok (u : Unit) : FnSpec Try.prog 25 1000 [Unit.enc u, .int .u8 4] [] (.int .u8 (uStore_4 u)) [] := by
  exact uStore_4_p1 u

/-- (kotatsu/alu.Unit).Store -/
def uStore_5 (u : Unit) : Int :=
  0
theorem uStore_5_p1 (u : Unit) : FnSpec Try.prog 25 1000 [Unit.enc u, .int .u8 5] [] (.int .u8 0) [] := by
  exact fn_of_x hG hM Try.func25 (by kernel_rfl) (by kernel_rfl) 400 [.no, .no, .no, .no] (And.intro (Eq.refl false) (And.intro (Eq.refl false) (And.intro (Eq.refl false) (And.intro (Eq.refl false) trivial)))) (by kernel_rfl)
theorem uStore_5_ok (u : Unit) : FnSpec Try.prog 25 1000 [Unit.enc u, .int .u8 5] [] (.int .u8 (uStore_5 u)) [] := by
  exact uStore_5_p1 u

/-- (kotatsu/alu.Unit).Store -/
def uStore_6 (u : Unit) : Int :=
  0
theorem uStore_6_p1 (u : Unit) : FnSpec Try.prog 25 1000 [Unit.enc u, .int .u8 6] [] (.int .u8 0) [] := by
  exact fn_of_x hG hM Try.func25 (by kernel_rfl) (by kernel_rfl) 400 [.no, .no, .no, .no] (And.intro (Eq.refl false) (And.intro (Eq.refl false) (And.intro (Eq.refl false) (And.intro (Eq.refl false) trivial)))) (by kernel_rfl)
theorem uStore_6_ok (u : Unit) : FnSpec Try.prog 25 1000 [Unit.enc u, .int .u8 6] [] (.int .u8 (uStore_6 u)) [] := by
  exact uStore_6_p1 u

/-- (kotatsu/alu.Unit).Store -/
def uStore_7 (u : Unit) : Int :=
  0
theorem uStore_7_p1 (u : Unit) : FnSpec Try.prog 25 1000 [Unit.enc u, .int .u8 7] [] (.int .u8 0) [] := by
  exact fn_of_x hG hM Try.func25 (by kernel_rfl) (by kernel_rfl) 400 [.no, .no, .no, .no] (And.intro (Eq.refl false) (And.intro (Eq.refl false) (And.intro (Eq.refl false) (And.intro (Eq.refl false) trivial)))) (by kernel_rfl)
theorem uStore_7_ok (u : Unit) : FnSpec Try.prog 25 1000 [Unit.enc u, .int .u8 7] [] (.int .u8 (uStore_7 u)) [] := by
  exact uStore_7_p1 u

/-- (kotatsu/alu.Unit).Store -/
def uStore_8 (u : Unit) : Int :=
  0
theorem uStore_8_p1 (u : Unit) : FnSpec Try.prog 25 1000 [Unit.enc u, .int .u8 8] [] (.int .u8 0) [] := by
  exact fn_of_x hG hM Try.func25 (by kernel_rfl) (by kernel_rfl) 400 [.no, .no, .no, .no] (And.intro (Eq.refl false) (And.intro (Eq.refl false) (And.intro (Eq.refl false) (And.intro (Eq.refl false) trivial)))) (by kernel_rfl)
theorem uStore_8_ok (u : Unit) : FnSpec Try.prog 25 1000 [Unit.enc u, .int .u8 8] [] (.int .u8 (uStore_8 u)) [] := by
  exact uStore_8_p1 u

/-- (kotatsu/alu.Unit).Store -/
def uStore_9 (u : Unit) : Int :=
  0
theorem uStore_9_p1 (u : Unit) : FnSpec Try.prog 25 1000 [Unit.enc u, .int .u8 9] [] (.int .u8 0) [] := by
  exact fn_of_x hG hM Try.func25 (by kernel_rfl) (by kernel_rfl) 400 [.no, .no, .no, .no] (And.intro (Eq.refl false) (And.intro (Eq.refl false) (And.intro (Eq.refl false) (And.intro (Eq.refl false) trivial)))) (by kernel_rfl)
theorem uStore_9_ok (u : Unit) : FnSpec Try.prog 25 1000 [Unit.enc u, .int .u8 9] [] (.int .u8 (uStore_9 u)) [] := by
  exact uStore_9_p1 u

/-- (kotatsu/alu.Unit).Store -/
def uStore_10 (u : Unit) : Int :=
  0
theorem uStore_10_p1 (u : Unit) : FnSpec Try.prog 25 1000 [Unit.enc u, .int .u8 10] [] (.int .u8 0) [] := by
  exact fn_of_x hG hM Try.func25 (by kernel_rfl) (by kernel_rfl) 400 [.no, .no, .no, .no] (And.intro (Eq.refl false) (And.intro (Eq.refl false) (And.intro (Eq.refl false) (And.intro (Eq.refl false) trivial)))) (by kernel_rfl)
theorem uStore_10_ok (u : Unit) : FnSpec Try.prog 25 1000 [Unit.enc u, .int .u8 10] [] (.int .u8 (uStore_10 u)) [] := by
  exact uStore_10_p1 u

/-- (kotatsu/alu.Unit).Store -/
def uStore_11 (u : Unit) : Int :=
  0
theorem uStore_11_p1 (u : Unit) : FnSpec Try.prog 25 1000 [Unit.enc u, .int .u8 11] [] (.int .u8 0) [] := by
  exact fn_of_x hG hM Try.func25 (by kernel_rfl) (by kernel_rfl) 400 [.no, .no, .no, .no] (And.intro (Eq.refl false) (And.intro (Eq.refl false) (And.intro (Eq.refl false) (And.intro (Eq.refl false) trivial)))) (by kernel_rfl)
theorem uStore_11_ok (u : Unit) : FnSpec Try.prog 25 1000 [Unit.enc u, .int .u8 11] [] (.int .u8 (uStore_11 u)) [] := by
  exact uStore_11_p1 u

/-- (kotatsu/alu.Unit).Store -/
def uStore_12 (u : Unit) : Int :=
  0
theorem uStore_12_p1 (u : Unit) : FnSpec Try.prog 25 1000 [Unit.enc u, .int .u8 12] [] (.int .u8 0) [] := by
  exact fn_of_x hG hM Try.func25 (by kernel_rfl) (by kernel_rfl) 400 [.no, .no, .no, .no] (And.intro (Eq.refl false) (And.intro (Eq.refl false) (And.intro (Eq.refl false) (And.intro (Eq.refl false) trivial)))) (by kernel_rfl)
theorem uStore_12_ok (u : Unit) : FnSpec Try.prog 25 1000 [Unit.enc u, .int .u8 12] [] (.int .u8 (uStore_12 u)) [] := by
  exact uStore_12_p1 u

/-- (kotatsu/alu.Unit).Store -/
def uStore_13 (u : Unit) : Int :=
  0
theorem uStore_13_p1 (u : Unit) : FnSpec Try.prog 25 1000 [Unit.enc u, .int .u8 13] [] (.int .u8 0) [] := by
  exact fn_of_x hG hM Try.func25 (by kernel_rfl) (by kernel_rfl) 400 [.no, .no, .no, .no] (And.intro (Eq.refl false) (And.intro (Eq.refl false) (And.intro (Eq.refl false) (And.intro (Eq.refl false) trivial)))) (by kernel_rfl)
theorem uStore_13_ok (u : Unit) : FnSpec Try.prog 25 1000 [Unit.enc u, .int .u8 13] [] (.int .u8 (uStore_13 u)) [] := by
  exact uStore_13_p1 u

/-- (kotatsu/alu.Unit).Store -/
def uStore_14 (u : Unit) : Int :=
  0
theorem uStore_14_p1 (u : Unit) : FnSpec Try.prog 25 1000 [Unit.enc u, .int .u8 14] [] (.int .u8 0) [] := by
  exact fn_of_x hG hM Try.func25 (by kernel_rfl) (by kernel_rfl) 400 [.no, .no, .no, .no] (And.intro (Eq.refl false) (And.intro (Eq.refl false) (And.intro (Eq.refl false) (And.intro (Eq.refl false) trivial)))) (by kernel_rfl)
theorem uStore_14_ok (u : Unit) : FnSpec Try.prog 25 1000 [Unit.enc u, .int .u8 14] [] (.int .u8 (uStore_14 u)) [] := by
  exact uStore_14_p1 u

/-- (kotatsu/alu.Unit).Store -/
def uStore_15 (u : Unit) : Int :=
  0
theorem uStore_15_p1 (u : Unit) : FnSpec Try.prog 25 1000 [Unit.enc u, .int .u8 15] [] (.int .u8 0) [] := by
  exact fn_of_x hG hM Try.func25 (by kernel_rfl) (by kernel_rfl) 400 [.no, .no, .no, .no] (And.intro (Eq.refl false) (And.intro (Eq.refl false) (And.intro (Eq.refl false) (And.intro (Eq.refl false) trivial)))) (by kernel_rfl)
theorem uStore_15_ok (u : Unit) : FnSpec Try.prog 25 1000 [Unit.enc u, .int .u8 15] [] (.int .u8 (uStore_15 u)) [] := by
  exact uStore_15_p1 u

/-- (kotatsu/alu.Unit).Store -/
def uStore_16 (u : Unit) : Int :=
  0
theorem uStore_16_p1 (u : Unit) : FnSpec Try.prog 25 1000 [Unit.enc u, .int .u8 16] [] (.int .u8 0) [] := by
  exact fn_of_x hG hM Try.func25 (by kernel_rfl) (by kernel_rfl) 400 [.no, .no, .no, .no] (And.intro (Eq.refl false) (And.intro (Eq.refl false) (And.intro (Eq.refl false) (And.intro (Eq.refl false) trivial)))) (by kernel_rfl)
theorem uStore_16_ok (u : Unit) : FnSpec Try.prog 25 1000 [Unit.enc u, .int .u8 16] [] (.int .u8 (uStore_16 u)) [] := by
  exact uStore_16_p1 u

/-- (kotatsu/alu.Unit).Store -/
def uStore_17 (u : Unit) : Int :=
  0
theorem uStore_17_p1 (u : Unit) : FnSpec Try.prog 25 1000 [Unit.enc u, .int .u8 17] [] (.int .u8 0) [] := by
  exact fn_of_x hG hM Try.func25 (by kernel_rfl) (by kernel_rfl) 400 [.no, .no, .no, .no] (And.intro (Eq.refl false) (And.intro (Eq.refl false) (And.intro (Eq.refl false) (And.intro (Eq.refl false) trivial)))) (by kernel_rfl)
theorem uStore_17_ok (u : Unit) : FnSpec Try.prog 25 1000 [Unit.enc u, .int .u8 17] [] (.int .u8 (uStore_17 u)) [] := by
  exact uStore_17_p1 u

/-- (kotatsu/alu.Unit).Store -/
def uStore_18 (u : Unit) : Int :=
  0
theorem uStore_18_p1 (u : Unit) : FnSpec Try.prog 25 1000 [Unit.enc u, .int .u8 18] [] (.int .u8 0) [] := by
  exact fn_of_x hG hM Try.func25 (by kernel_rfl) (by kernel_rfl) 400 [.no, .no, .no, .no] (And.intro (Eq.refl false) (And.intro (Eq.refl false) (And.intro (Eq.refl false) (And.intro (Eq.refl false) trivial)))) (by kernel_rfl)
theorem uStore_18_ok (u : Unit) : FnSpec Try.prog 25 1000 [Unit.enc u, .int .u8 18] [] (.int .u8 (uStore_18 u)) [] := by
  exact uStore_18_p1 u

/-- (kotatsu/alu.Unit).Store -/
def uStore_19 (u : Unit) : Int :=
  0
theorem uStore_19_p1 (u : Unit) : FnSpec Try.prog 25 1000 [Unit.enc u, .int .u8 19] [] (.int .u8 0) [] := by
  exact fn_of_x hG hM Try.func25 (by kernel_rfl) (by kernel_rfl) 400 [.no, .no, .no, .no] (And.intro (Eq.refl false) (And.intro (Eq.refl false) (And.intro (Eq.refl false) (And.intro (Eq.refl false) trivial)))) (by kernel_rfl)
theorem uStore_19_ok (u : Unit) : FnSpec Try.prog 25 1000 [Unit.enc u, .int .u8 19] [] (.int .u8 (uStore_19 u)) [] := by
  exact uStore_19_p1 u

/-- (kotatsu/alu.Unit).Store -/
def uStore_20 (u : Unit) : Int :=
  0
theorem uStore_20_p1 (u : Unit) : FnSpec Try.prog 25 1000 [Unit.enc u, .int .u8 20] [] (.int .u8 0) [] := by
  exact fn_of_x hG hM Try.func25 (by kernel_rfl) (by kernel_rfl) 400 [.no, .no, .no, .no] (And.intro (Eq.refl false) (And.intro (Eq.refl false) (And.intro (Eq.refl false) (And.intro (Eq.refl false) trivial)))) (by kernel_rfl)
theorem uStore_20_ok (u : Unit) : FnSpec Try.prog 25 1000 [Unit.enc u, .int .u8 20] [] (.int .u8 (uStore_20 u)) [] := by
  exact uStore_20_p1 u

/-- (kotatsu/alu.Unit).Store -/
def uStore_21 (u : Unit) : Int :=
  0
theorem uStore_21_p1 (u : Unit) : FnSpec Try.prog 25 1000 [Unit.enc u, .int .u8 21] [] (.int .u8 0) [] := by
  exact fn_of_x hG hM Try.func25 (by kernel_rfl) (by kernel_rfl) 400 [.no, .no, .no, .no] (And.intro (Eq.refl false) (And.intro (Eq.refl false) (And.intro (Eq.refl false) (And.intro (Eq.refl false) trivial)))) (by kernel_rfl)
theorem uStore_21_ok (u : Unit) : FnSpec Try.prog 25 1000 [Unit.enc u, .int .u8 21] [] (.int .u8 (uStore_21 u)) [] := by
  exact uStore_21_p1 u

/-- (kotatsu/alu.Unit).Store -/
def uStore_22 (u : Unit) : Int :=
  0
theorem uStore_22_p1 (u : Unit) : FnSpec Try.prog 25 1000 [Unit.enc u, .int .u8 22] [] (.int .u8 0) [] := by
  exact fn_of_x hG hM Try.func25 (by kernel_rfl) (by kernel_rfl) 400 [.no, .no, .no, .no] (And.intro (Eq.refl false) (And.intro (Eq.refl false) (And.intro (Eq.refl false) (And.intro (Eq.refl false) trivial)))) (by kernel_rfl)
theorem uStore_22_ok (u : Unit) : FnSpec Try.prog 25 1000 [Unit.enc u, .int .u8 22] [] (.int .u8 (uStore_22 u)) [] := by
  exact uStore_22_p1 u

/-- (kotatsu/alu.Unit).Store -/
def uStore_23 (u : Unit) : Int :=
  0
theorem uStore_23_p1 (u : Unit) : FnSpec Try.prog 25 1000 [Unit.enc u, .int .u8 23] [] (.int .u8 0) [] := by
  exact fn_of_x hG hM Try.func25 (by kernel_rfl) (by kernel_rfl) 400 [.no, .no, .no, .no] (And.intro (Eq.refl false) (And.intro (Eq.refl false) (And.intro (Eq.refl false) (And.intro (Eq.refl false) trivial)))) (by kernel_rfl)
theorem uStore_23_ok (u : Unit) : FnSpec Try.prog 25 1000 [Unit.enc u, .int .u8 23] [] (.int .u8 (uStore_23 u)) [] := by
  exact uStore_23_p1 u

/-- (kotatsu/alu.Unit).Store -/
def uStore_24 (u : Unit) : Int :=
  0
theorem uStore_24_p1 (u : Unit) : FnSpec Try.prog 25 1000 [Unit.enc u, .int .u8 24] [] (.int .u8 0) [] := by
  exact fn_of_x hG hM Try.func25 (by kernel_rfl) (by kernel_rfl) 400 [.no, .no, .no, .no] (And.intro (Eq.refl false) (And.intro (Eq.refl false) (And.intro (Eq.refl false) (And.intro (Eq.refl false) trivial)))) (by kernel_rfl)
theorem uStore_24_ok (u : Unit) : FnSpec Try.prog 25 1000 [Unit.enc u, .int .u8 24] [] (.int .u8 (uStore_24 u)) [] := by
  exact uStore_24_p1 u

/-- (kotatsu/alu.Unit).Store -/
def uStore_25 (u : Unit) : Int :=
  0
theorem uStore_25_p1 (u : Unit) : FnSpec Try.prog 25 1000 [Unit.enc u, .int .u8 25] [] (.int .u8 0) [] := by
  exact fn_of_x hG hM Try.func25 (by kernel_rfl) (by kernel_rfl) 400 [.no, .no, .no, .no] (And.intro (Eq.refl false) (And.intro (Eq.refl false) (And.intro (Eq.refl false) (And.intro (Eq.refl false) trivial)))) (by kernel_rfl)
theorem uStore_25_ok (u : Unit) : FnSpec Try.prog 25 1000 [Unit.enc u, .int .u8 25] [] (.int .u8 (uStore_25 u)) [] := by
  exact uStore_25_p1 u

/-- (kotatsu/alu.Unit).Store -/
def uStore_26 (u : Unit) : Int :=
  0
theorem uStore_26_p1 (u : Unit) : FnSpec Try.prog 25 1000 [Unit.enc u, .int .u8 26] [] (.int .u8 0) [] := by
  exact fn_of_x hG hM Try.func25 (by kernel_rfl) (by kernel_rfl) 400 [.no, .no, .no, .no] (And.intro (Eq.refl false) (And.intro (Eq.refl false) (And.intro (Eq.refl false) (And.intro (Eq.refl false) trivial)))) (by kernel_rfl)
theorem uStore_26_ok (u : Unit) : FnSpec Try.prog 25 1000 [Unit.enc u, .int .u8 26] [] (.int .u8 (uStore_26 u)) [] := by
  exact uStore_26_p1 u

/-- (kotatsu/alu.Unit).Store -/
def uStore_27 (u : Unit) : Int :=
  0
theorem uStore_27_p1 (u : Unit) : FnSpec Try.prog 25 1000 [Unit.enc u, .int .u8 27] [] (.int .u8 0) [] := by
  exact fn_of_x hG hM Try.func25 (by kernel_rfl) (by kernel_rfl) 400 [.no, .no, .no, .no] (And.intro (Eq.refl false) (And.intro (Eq.refl false) (And.intro (Eq.refl false) (And.intro (Eq.refl false) trivial)))) (by kernel_rfl)
theorem uStore_27_ok (u : Unit) : FnSpec Try.prog 25 1000 [Unit.enc u, .int .u8 27] [] (.int .u8 (uStore_27 u)) [] := by
  exact uStore_27_p1 u

/-- (kotatsu/alu.Unit).Store -/
def uStore_28 (u : Unit) : Int :=
  0
theorem uStore_28_p1 (u : Unit) : FnSpec Try.prog 25 1000 [Unit.enc u, .int .u8 28] [] (.int .u8 0) [] := by
  exact fn_of_x hG hM Try.func25 (by kernel_rfl) (by kernel_rfl) 400 [.no, .no, .no, .no] (And.intro (Eq.refl false) (And.intro (Eq.refl false) (And.intro (Eq.refl false) (And.intro (Eq.refl false) trivial)))) (by kernel_rfl)
theorem uStore_28_ok (u : Unit) : FnSpec Try.prog 25 1000 [Unit.enc u, .int .u8 28] [] (.int .u8 (uStore_28 u)) [] := by
  exact uStore_28_p1 u

/-- (kotatsu/alu.Unit).Store -/
def uStore_29 (u : Unit) : Int :=
  0
theorem uStore_29_p1 (u : Unit) : FnSpec Try.prog 25 1000 [Unit.enc u, .int .u8 29] [] (.int .u8 0) [] := by
  exact fn_of_x hG hM Try.func25 (by kernel_rfl) (by kernel_rfl) 400 [.no, .no, .no, .no] (And.intro (Eq.refl false) (And.intro (Eq.refl false) (And.intro (Eq.refl false) (And.intro (Eq.refl false) trivial)))) (by kernel_rfl)
theorem uStore_29_ok (u : Unit) : FnSpec Try.prog 25 1000 [Unit.enc u, .int .u8 29] [] (.int .u8 (uStore_29 u)) [] := by
  exact uStore_29_p1 u

/-- (kotatsu/alu.Unit).Store -/
def uStore_30 (u : Unit) : Int :=
  0
theorem uStore_30_p1 (u : Unit) : FnSpec Try.prog 25 1000 [Unit.enc u, .int .u8 30] [] (.int .u8 0) [] := by
  exact fn_of_x hG hM Try.func25 (by kernel_rfl) (by kernel_rfl) 400 [.no, .no, .no, .no] (And.intro (Eq.refl false) (And.intro (Eq.refl false) (And.intro (Eq.refl false) (And.intro (Eq.refl false) trivial)))) (by kernel_rfl)
theorem uStore_30_ok (u : Unit) : FnSpec Try.prog 25 1000 [Unit.enc u, .int .u8 30] [] (.int .u8 (uStore_30 u)) [] := by
  exact uStore_30_p1 u

/-- (kotatsu/alu.Unit).Store -/
def uStore_31 (u : Unit) : Int :=
  u.A
theorem uStore_31_p1 (u : Unit) : FnSpec Try.prog 25 1000 [Unit.enc u, .int .u8 31] [] (.int .u8 u.A) [] := by
  exact fn_of_x hG hM Try.func25 (by kernel_rfl) (by kernel_rfl) 400 [.yes] (And.intro (Eq.refl true) trivial) (by kernel_rfl)
theorem uStore_31_ok (u : Unit) : FnSpec Try.prog 25 1000 [Unit.enc u, .int .u8 31] [] (.int .u8 (uStore_31 u)) [] := by
  exact uStore_31_p1 u

/-- (kotatsu/alu.Unit).Store -/
def uStore_32 (u : Unit) : Int :=
  u.X
theorem uStore_32_p1 (u : Unit) : FnSpec Try.prog 25 1000 [Unit.enc u, .int .u8 32] [] (.int .u8 u.X) [] := by
  exact fn_of_x hG hM Try.func25 (by kernel_rfl) (by kernel_rfl) 400 [.no, .yes] (And.intro (Eq.refl false) (And.intro (Eq.refl true) trivial)) (by kernel_rfl)
theorem uStore_32_ok (u : Unit) : FnSpec Try.prog 25 1000 [Unit.enc u, .int .u8 32] [] (.int .u8 (uStore_32 u)) [] := by
  exact uStore_32_p1 u

/-- (kotatsu/alu.Unit).Store -/
def uStore_33 (u : Unit) : Int :=
  u.Y
theorem uStore_33_p1 (u : Unit) : FnSpec Try.prog 25 1000 [Unit.enc u, .int .u8 33] [] (.int .u8 u.Y) [] := by
  exact fn_of_x hG hM Try.func25 (by kernel_rfl) (by kernel_rfl) 400 [.no, .no, .yes] (And.intro (Eq.refl false) (And.intro (Eq.refl false) (And.intro (Eq.refl true) trivial))) (by kernel_rfl)
theorem uStore_33_ok (u : Unit) : FnSpec Try.prog 25 1000 [Unit.enc u, .int .u8 33] [] (.int .u8 (uStore_33 u)) [] := by
  exact uStore_33_p1 u

/-- (kotatsu/alu.Unit).Store -/
def uStore_34 (u : Unit) : Int :=
  (bAnd .u8 u.A u.X)
theorem uStore_34_p1 (u : Unit) : FnSpec Try.prog 25 1000 [Unit.enc u, .int .u8 34] [] (.int .u8 (bAnd .u8 u.A u.X)) [] := by
  exact fn_of_x hG hM Try.func25 (by kernel_rfl) (by kernel_rfl) 400 [.no, .no, .no, .yes] (And.intro (Eq.refl false) (And.intro (Eq.refl false) (And.intro (Eq.refl false) (And.intro (Eq.refl true) trivial)))) (by kernel_rfl)
theorem uStore_34_ok (u : Unit) : FnSpec Try.prog 25 1000 [Unit.enc u, .int .u8 34] [] (.int .u8 (uStore_34 u)) [] := by
  exact uStore_34_p1 u

/-- (kotatsu/alu.Unit).Store -/
def uStore_35 (u : Unit) : Int :=
  0
theorem uStore_35_p1 (u : Unit) : FnSpec Try.prog 25 1000 [Unit.enc u, .int .u8 35] [] (.int .u8 0) [] := by
  exact fn_of_x hG hM Try.func25 (by kernel_rfl) (by kernel_rfl) 400 [.no, .no, .no, .no] (And.intro (Eq.refl false) (And.intro (Eq.refl false) (And.intro (Eq.refl false) (And.intro (Eq.refl false) trivial)))) (by kernel_rfl)
theorem uStore_35_ok (u : Unit) : FnSpec Try.prog 25 1000 [Unit.enc u, .int .u8 35] [] (.int .u8 (uStore_35 u)) [] := by
  exact uStore_35_p1 u

/-- (kotatsu/alu.Unit).Store -/
def uStore_36 (u : Unit) : Int :=
  0
theorem uStore_36_p1 (u : Unit) : FnSpec Try.prog 25 1000 [Unit.enc u, .int .u8 36] [] (.int .u8 0) [] := by
  exact fn_of_x hG hM Try.func25 (by kernel_rfl) (by kernel_rfl) 400 [.no, .no, .no, .no] (And.intro (Eq.refl false) (And.intro (Eq.refl false) (And.intro (Eq.refl false) (And.intro (Eq.refl false) trivial)))) (by kernel_rfl)
theorem uStore_36_ok (u : Unit) : FnSpec Try.prog 25 1000 [Unit.enc u, .int .u8 36] [] (.int .u8 (uStore_36 u)) [] := by
  exact uStore_36_p1 u

/-- (kotatsu/alu.Unit).Store -/
def uStore_37 (u : Unit) : Int :=
  0
theorem uStore_37_p1 (u : Unit) : FnSpec Try.prog 25 1000 [Unit.enc u, .int .u8 37] [] (.int .u8 0) [] := by
  exact fn_of_x hG hM Try.func25 (by kernel_rfl) (by kernel_rfl) 400 [.no, .no, .no, .no] (And.intro (Eq.refl false) (And.intro (Eq.refl false) (And.intro (Eq.refl false) (And.intro (Eq.refl false) trivial)))) (by kernel_rfl)
theorem uStore_37_ok (u : Unit) : FnSpec Try.prog 25 1000 [Unit.enc u, .int .u8 37] [] (.int .u8 (uStore_37 u)) [] := by
  exact uStore_37_p1 u

/-- (kotatsu/alu.Unit).Store -/
def uStore_38 (u : Unit) : Int :=
  0
theorem uStore_38_p1 (u : Unit) : FnSpec Try.prog 25 1000 [Unit.enc u, .int .u8 38] [] (.int .u8 0) [] := by
  exact fn_of_x hG hM Try.func25 (by kernel_rfl) (by kernel_rfl) 400 [.no, .no, .no, .no] (And.intro (Eq.refl false) (And.intro (Eq.refl false) (And.intro (Eq.refl false) (And.intro (Eq.refl false) trivial)))) (by kernel_rfl)
theorem uStore_38_ok (u : Unit) : FnSpec Try.prog 25 1000 [Unit.enc u, .int .u8 38] [] (.int .u8 (uStore_38 u)) [] := by
  exact uStore_38_p1 u

/-- (kotatsu/alu.Unit).Store -/
def uStore_39 (u : Unit) : Int :=
  0
theorem uStore_39_p1 (u : Unit) : FnSpec Try.prog 25 1000 [Unit.enc u, .int .u8 39] [] (.int .u8 0) [] := by
  exact fn_of_x hG hM Try.func25 (by kernel_rfl) (by kernel_rfl) 400 [.no, .no, .no, .no] (And.intro (Eq.refl false) (And.intro (Eq.refl false) (And.intro (Eq.refl false) (And.intro (Eq.refl false) trivial)))) (by kernel_rfl)
theorem uStore_39_ok (u : Unit) : FnSpec Try.prog 25 1000 [Unit.enc u, .int .u8 39] [] (.int .u8 (uStore_39 u)) [] := by
  exact uStore_39_p1 u

/-- (kotatsu/alu.Unit).Store -/
def uStore_40 (u : Unit) : Int :=
  0
theorem uStore_40_p1 (u : Unit) : FnSpec Try.prog 25 1000 [Unit.enc u, .int .u8 40] [] (.int .u8 0) [] := by
  exact fn_of_x hG hM Try.func25 (by kernel_rfl) (by kernel_rfl) 400 [.no, .no, .no, .no] (And.intro (Eq.refl false) (And.intro (Eq.refl false) (And.intro (Eq.refl false) (And.intro (Eq.refl false) trivial)))) (by kernel_rfl)
theorem uStore_40_ok (u : Unit) : FnSpec Try.prog 25 1000 [Unit.enc u, .int .u8 40] [] (.int .u8 (uStore_40 u)) [] := by
  exact uStore_40_p1 u

/-- (kotatsu/alu.Unit).Store -/
def uStore_41 (u : Unit) : Int :=
  0
theorem uStore_41_p1 (u : Unit) : FnSpec Try.prog 25 1000 [Unit.enc u, .int .u8 41] [] (.int .u8 0) [] := by
  exact fn_of_x hG hM Try.func25 (by kernel_rfl) (by kernel_rfl) 400 [.no, .no, .no, .no] (And.intro (Eq.refl false) (And.intro (Eq.refl false) (And.intro (Eq.refl false) (And.intro (Eq.refl false) trivial)))) (by kernel_rfl)
theorem uStore_41_ok (u : Unit) : FnSpec Try.prog 25 1000 [Unit.enc u, .int .u8 41] [] (.int .u8 (uStore_41 u)) [] := by
  exact uStore_41_p1 u

/-- (kotatsu/alu.Unit).Store -/
def uStore_42 (u : Unit) : Int :=
  0
theorem uStore_42_p1 (u : Unit) : FnSpec Try.prog 25 1000 [Unit.enc u, .int .u8 42] [] (.int .u8 0) [] := by
  exact fn_of_x hG hM Try.func25 (by kernel_rfl) (by kernel_rfl) 400 [.no, .no, .no, .no] (And.intro (Eq.refl false) (And.intro (Eq.refl false) (And.intro (Eq.refl false) (And.intro (Eq.refl false) trivial)))) (by kernel_rfl)
theorem uStore_42_ok (u : Unit) : FnSpec Try.prog 25 1000 [Unit.enc u, .int .u8 42] [] (.int .u8 (uStore_42 u)) [] := by
  exact uStore_42_p1 u

/-- (kotatsu/alu.Unit).Store -/
def uStore_43 (u : Unit) : Int :=
  0
theorem uStore_43_p1 (u : Unit) : FnSpec Try.prog 25 1000 [Unit.enc u, .int .u8 43] [] (.int .u8 0) [] := by
  exact fn_of_x hG hM Try.func25 (by kernel_rfl) (by kernel_rfl) 400 [.no, .no, .no, .no] (And.intro (Eq.refl false) (And.intro (Eq.refl false) (And.intro (Eq.refl false) (And.intro (Eq.refl false) trivial)))) (by kernel_rfl)
theorem uStore_43_ok (u : Unit) : FnSpec Try.prog 25 1000 [Unit.enc u, .int .u8 43] [] (.int .u8 (uStore_43 u)) [] := by
  exact uStore_43_p1 u

/-- (kotatsu/alu.Unit).Store -/
def uStore_44 (u : Unit) : Int :=
  0
theorem uStore_44_p1 (u : Unit) : FnSpec Try.prog 25 1000 [Unit.enc u, .int .u8 44] [] (.int .u8 0) [] := by
  exact fn_of_x hG hM Try.func25 (by kernel_rfl) (by kernel_rfl) 400 [.no, .no, .no, .no] (And.intro (Eq.refl false) (And.intro (Eq.refl false) (And.intro (Eq.refl false) (And.intro (Eq.refl false) trivial)))) (by kernel_rfl)
theorem uStore_44_ok (u : Unit) : FnSpec Try.prog 25 1000 [Unit.enc u, .int .u8 44] [] (.int .u8 (uStore_44 u)) [] := by
  exact uStore_44_p1 u

/-- (kotatsu/alu.Unit).Store -/
def uStore_45 (u : Unit) : Int :=
  0
theorem uStore_45_p1 (u : Unit) : FnSpec Try.prog 25 1000 [Unit.enc u, .int .u8 45] [] (.int .u8 0) [] := by
  exact fn_of_x hG hM Try.func25 (by kernel_rfl) (by kernel_rfl) 400 [.no, .no, .no, .no] (And.intro (Eq.refl false) (And.intro (Eq.refl false) (And.intro (Eq.refl false) (And.intro (Eq.refl false) trivial)))) (by kernel_rfl)
theorem uStore_45_ok (u : Unit) : FnSpec Try.prog 25 1000 [Unit.enc u, .int .u8 45] [] (.int .u8 (uStore_45 u)) [] := by
  exact uStore_45_p1 u

/-- (kotatsu/alu.Unit).Store -/
def uStore_46 (u : Unit) : Int :=
  0
theorem uStore_46_p1 (u : Unit) : FnSpec Try.prog 25 1000 [Unit.enc u, .int .u8 46] [] (.int .u8 0) [] := by
  exact fn_of_x hG hM Try.func25 (by kernel_rfl) (by kernel_rfl) 400 [.no, .no, .no, .no] (And.intro (Eq.refl false) (And.intro (Eq.refl false) (And.intro (Eq.refl false) (And.intro (Eq.refl false) trivial)))) (by kernel_rfl)
theorem uStore_46_ok (u : Unit) : FnSpec Try.prog 25 1000 [Unit.enc u, .int .u8 46] [] (.int .u8 (uStore_46 u)) [] := by
  exact uStore_46_p1 u

/-- (kotatsu/alu.Unit).Store -/
def uStore_47 (u : Unit) : Int :=
  0
theorem uStore_47_p1 (u : Unit) : FnSpec Try.prog 25 1000 [Unit.enc u, .int .u8 47] [] (.int .u8 0) [] := by
  exact fn_of_x hG hM Try.func25 (by kernel_rfl) (by kernel_rfl) 400 [.no, .no, .no, .no] (And.intro (Eq.refl false) (And.intro (Eq.refl false) (And.intro (Eq.refl false) (And.intro (Eq.refl false) trivial)))) (by kernel_rfl)
theorem uStore_47_ok (u : Unit) : FnSpec Try.prog 25 1000 [Unit.enc u, .int .u8 47] [] (.int .u8 (uStore_47 u)) [] := by
  exact uStore_47_p1 u

/-- (kotatsu/alu.Unit).Store -/
def uStore_48 (u : Unit) : Int :=
  0
theorem uStore_48_p1 (u : Unit) : FnSpec Try.prog 25 1000 [Unit.enc u, .int .u8 48] [] (.int .u8 0) [] := by
  exact fn_of_x hG hM Try.func25 (by kernel_rfl) (by kernel_rfl) 400 [.no, .no, .no, .no] (And.intro (Eq.refl false) (And.intro (Eq.refl false) (And.intro (Eq.refl false) (And.intro (Eq.refl false) trivial)))) (by kernel_rfl)
theorem uStore_48_ok (u : Unit) : FnSpec Try.prog 25 1000 [Unit.enc u, .int .u8 48] [] (.int .u8 (uStore_48 u)) [] := by
  exact uStore_48_p1 u

/-- (kotatsu/alu.Unit).Store -/
def uStore_49 (u : Unit) : Int :=
  0
theorem uStore_49_p1 (u : Unit) : FnSpec Try.prog 25 1000 [Unit.enc u, .int .u8 49] [] (.int .u8 0) [] := by
  exact fn_of_x hG hM Try.func25 (by kernel_rfl) (by kernel_rfl) 400 [.no, .no, .no, .no] (And.intro (Eq.refl false) (And.intro (Eq.refl false) (And.intro (Eq.refl false) (And.intro (Eq.refl false) trivial)))) (by kernel_rfl)
theorem uStore_49_ok (u : Unit) : FnSpec Try.prog 25 1000 [Unit.enc u, .int .u8 49] [] (.int .u8 (uStore_49 u)) [] := by
  exact uStore_49_p1 u

/-- (kotatsu/alu.Unit).Store -/
def uStore_50 (u : Unit) : Int :=
  0
theorem uStore_50_p1 (u : Unit) : FnSpec Try.prog 25 1000 [Unit.enc u, .int .u8 50] [] (.int .u8 0) [] := by
  exact fn_of_x hG hM Try.func25 (by kernel_rfl) (by kernel_rfl) 400 [.no, .no, .no, .no] (And.intro (Eq.refl false) (And.intro (Eq.refl false) (And.intro (Eq.refl false) (And.intro (Eq.refl false) trivial)))) (by kernel_rfl)
theorem uStore_50_ok (u : Unit) : FnSpec Try.prog 25 1000 [Unit.enc u, .int .u8 50] [] (.int .u8 (uStore_50 u)) [] := by
  exact uStore_50_p1 u

/-- (kotatsu/alu.Unit).Store -/
def uStore_51 (u : Unit) : Int :=
  0
theorem uStore_51_p1 (u : Unit) : FnSpec Try.prog 25 1000 [Unit.enc u, .int .u8 51] [] (.int .u8 0) [] := by
  exact fn_of_x hG hM Try.func25 (by kernel_rfl) (by kernel_rfl) 400 [.no, .no, .no, .no] (And.intro (Eq.refl false) (And.intro (Eq.refl false) (And.intro (Eq.refl false) (And.intro (Eq.refl false) trivial)))) (by kernel_rfl)
theorem uStore_51_ok (u : Unit) : FnSpec Try.prog 25 1000 [Unit.enc u, .int .u8 51] [] (.int .u8 (uStore_51 u)) [] := by
  exact uStore_51_p1 u

/-- (kotatsu/alu.Unit).Store -/
def uStore_52 (u : Unit) : Int :=
  0
theorem uStore_52_p1 (u : Unit) : FnSpec Try.prog 25 1000 [Unit.enc u, .int .u8 52] [] (.int .u8 0) [] := by
  exact fn_of_x hG hM Try.func25 (by kernel_rfl) (by kernel_rfl) 400 [.no, .no, .no, .no] (And.intro (Eq.refl false) (And.intro (Eq.refl false) (And.intro (Eq.refl false) (And.intro (Eq.refl false) trivial)))) (by kernel_rfl)
theorem uStore_52_ok (u : Unit) : FnSpec Try.prog 25 1000 [Unit.enc u, .int .u8 52] [] (.int .u8 (uStore_52 u)) [] := by
  exact uStore_52_p1 u

/-- (kotatsu/alu.Unit).Store -/
def uStore_53 (u : Unit) : Int :=
  0
theorem uStore_53_p1 (u : Unit) : FnSpec Try.prog 25 1000 [Unit.enc u, .int .u8 53] [] (.int .u8 0) [] := by
  exact fn_of_x hG hM Try.func25 (by kernel_rfl) (by kernel_rfl) 400 [.no, .no, .no, .no] (And.intro (Eq.refl false) (And.intro (Eq.refl false) (And.intro (Eq.refl false) (And.intro (Eq.refl false) trivial)))) (by kernel_rfl)
theorem uStore_53_ok (u : Unit) : FnSpec Try.prog 25 1000 [Unit.enc u, .int .u8 53] [] (.int .u8 (uStore_53 u)) [] := by
  exact uStore_53_p1 u

/-- (kotatsu/alu.Unit).Store -/
def uStore_54 (u : Unit) : Int :=
  0
theorem uStore_54_p1 (u : Unit) : FnSpec Try.prog 25 1000 [Unit.enc u, .int .u8 54] [] (.int .u8 0) [] := by
  exact fn_of_x hG hM Try.func25 (by kernel_rfl) (by kernel_rfl) 400 [.no, .no, .no, .no] (And.intro (Eq.refl false) (And.intro (Eq.refl false) (And.intro (Eq.refl false) (And.intro (Eq.refl false) trivial)))) (by kernel_rfl)
theorem uStore_54_ok (u : Unit) : FnSpec Try.prog 25 1000 [Unit.enc u, .int .u8 54] [] (.int .u8 (uStore_54 u)) [] := by
  exact uStore_54_p1 u

/-- (kotatsu/alu.Unit).Store -/
def uStore_55 (u : Unit) : Int :=
  0
theorem uStore_55_p1 (u : Unit) : FnSpec Try.prog 25 1000 [Unit.enc u, .int .u8 55] [] (.int .u8 0) [] := by
  exact fn_of_x hG hM Try.func25 (by kernel_rfl) (by kernel_rfl) 400 [.no, .no, .no, .no] (And.intro (Eq.refl false) (And.intro (Eq.refl false) (And.intro (Eq.refl false) (And.intro (Eq.refl false) trivial)))) (by kernel_rfl)
theorem uStore_55_ok (u : Unit) : FnSpec Try.prog 25 1000 [Unit.enc u, .int .u8 55] [] (.int .u8 (uStore_55 u)) [] := by
  exact uStore_55_p1 u

/-- (kotatsu/alu.Unit).Store -/
def uStore_56 (u : Unit) : Int :=
  0
theorem uStore_56_p1 (u : Unit) : FnSpec Try.prog 25 1000 [Unit.enc u, .int .u8 56] [] (.int .u8 0) [] := by
  exact fn_of_x hG hM Try.func25 (by kernel_rfl) (by kernel_rfl) 400 [.no, .no, .no, .no] (And.intro (Eq.refl false) (And.intro (Eq.refl false) (And.intro (Eq.refl false) (And.intro (Eq.refl false) trivial)))) (by kernel_rfl)
theorem uStore_56_ok (u : Unit) : FnSpec Try.prog 25 1000 [Unit.enc u, .int .u8 56] [] (.int .u8 (uStore_56 u)) [] := by
  exact uStore_56_p1 u

/-- (kotatsu/alu.Unit).Store -/
def uStore_57 (u : Unit) : Int :=
  0
theorem uStore_57_p1 (u : Unit) : FnSpec Try.prog 25 1000 [Unit.enc u, .int .u8 57] [] (.int .u8 0) [] := by
  exact fn_of_x hG hM Try.func25 (by kernel_rfl) (by kernel_rfl) 400 [.no, .no, .no, .no] (And.intro (Eq.refl false) (And.intro (Eq.refl false) (And.intro (Eq.refl false) (And.intro (Eq.refl false) trivial)))) (by kernel_rfl)
theorem uStore_57_ok (u : Unit) : FnSpec Try.prog 25 1000 [Unit.enc u, .int .u8 57] [] (.int .u8 (uStore_57 u)) [] := by
  exact uStore_57_p1 u

/-- (kotatsu/alu.Unit).Store -/
def uStore_58 (u : Unit) : Int :=
  0
theorem uStore_58_p1 (u : Unit) : FnSpec Try.prog 25 1000 [Unit.enc u, .int .u8 58] [] (.int .u8 0) [] := by
  exact fn_of_x hG hM Try.func25 (by kernel_rfl) (by kernel_rfl) 400 [.no, .no, .no, .no] (And.intro (Eq.refl false) (And.intro (Eq.refl false) (And.intro (Eq.refl false) (And.intro (Eq.refl false) trivial)))) (by kernel_rfl)
theorem uStore_58_ok (u : Unit) : FnSpec Try.prog 25 1000 [Unit.enc u, .int .u8 58] [] (.int .u8 (uStore_58 u)) [] := by
  exact uStore_58_p1 u

/-- (kotatsu/alu.Unit).Store -/
def uStore_59 (u : Unit) : Int :=
  0
theorem uStore_59_p1 (u : Unit) : FnSpec Try.prog 25 1000 [Unit.enc u, .int .u8 59] [] (.int .u8 0) [] := by
  exact fn_of_x hG hM Try.func25 (by kernel_rfl) (by kernel_rfl) 400 [.no, .no, .no, .no] (And.intro (Eq.refl false) (And.intro (Eq.refl false) (And.intro (Eq.refl false) (And.intro (Eq.refl false) trivial)))) (by kernel_rfl)
theorem uStore_59_ok (u : Unit) : FnSpec Try.prog 25 1000 [Unit.enc u, .int .u8 59] [] (.int .u8 (uStore_59 u)) [] := by
  exact uStore_59_p1 u

/-- (kotatsu/alu.Unit).Store -/
def uStore_60 (u : Unit) : Int :=
  0
theorem uStore_60_p1 (u : Unit) : FnSpec Try.prog 25 1000 [Unit.enc u, .int .u8 60] [] (.int .u8 0) [] := by
  exact fn_of_x hG hM Try.func25 (by kernel_rfl) (by kernel_rfl) 400 [.no, .no, .no, .no] (And.intro (Eq.refl false) (And.intro (Eq.refl false) (And.intro (Eq.refl false) (And.intro (Eq.refl false) trivial)))) (by kernel_rfl)
theorem uStore_60_ok (u : Unit) : FnSpec Try.prog 25 1000 [Unit.enc u, .int .u8 60] [] (.int .u8 (uStore_60 u)) [] := by
  exact uStore_60_p1 u

/-- (kotatsu/alu.Unit).Store -/
def uStore_61 (u : Unit) : Int :=
  0
theorem uStore_61_p1 (u : Unit) : FnSpec Try.prog 25 1000 [Unit.enc u, .int .u8 61] [] (.int .u8 0) [] := by
  exact fn_of_x hG hM Try.func25 (by kernel_rfl) (by kernel_rfl) 400 [.no, .no, .no, .no] (And.intro (Eq.refl false) (And.intro (Eq.refl false) (And.intro (Eq.refl false) (And.intro (Eq.refl false) trivial)))) (by kernel_rfl)
theorem uStore_61_ok (u : Unit) : FnSpec Try.prog 25 1000 [Unit.enc u, .int .u8 61] [] (.int .u8 (uStore_61 u)) [] := by
  exact uStore_61_p1 u

/-- (kotatsu/alu.Unit).Store -/
def uStore_62 (u : Unit) : Int :=
  0
theorem uStore_62_p1 (u : Unit) : FnSpec Try.prog 25 1000 [Unit.enc u, .int .u8 62] [] (.int .u8 0) [] := by
  exact fn_of_x hG hM Try.func25 (by kernel_rfl) (by kernel_rfl) 400 [.no, .no, .no, .no] (And.intro (Eq.refl false) (And.intro (Eq.refl false) (And.intro (Eq.refl false) (And.intro (Eq.refl false) trivial)))) (by kernel_rfl)
theorem uStore_62_ok (u : Unit) : FnSpec Try.prog 25 1000 [Unit.enc u, .int .u8 62] [] (.int .u8 (uStore_62 u)) [] := by
  exact uStore_62_p1 u

/-- (kotatsu/alu.Unit).Store -/
def uStore_63 (u : Unit) : Int :=
  0
theorem uStore_63_p1 (u : Unit) : FnSpec Try.prog 25 1000 [Unit.enc u, .int .u8 63] [] (.int .u8 0) [] := by
  exact fn_of_x hG hM Try.func25 (by kernel_rfl) (by kernel_rfl) 400 [.no, .no, .no, .no] (And.intro (Eq.refl false) (And.intro (Eq.refl false) (And.intro (Eq.refl false) (And.intro (Eq.refl false) trivial)))) (by kernel_rfl)
theorem uStore_63_ok (u : Unit) : FnSpec Try.prog 25 1000 [Unit.enc u, .int .u8 63] [] (.int .u8 (uStore_63 u)) [] := by
  exact uStore_63_p1 u

/-- (kotatsu/alu.Unit).Store -/
def uStore_64 (u : Unit) : Int :=
  0
theorem uStore_64_p1 (u : Unit) : FnSpec Try.prog 25 1000 [Unit.enc u, .int .u8 64] [] (.int .u8 0) [] := by
  exact fn_of_x hG hM Try.func25 (by kernel_rfl) (by kernel_rfl) 400 [.no, .no, .no, .no] (And.intro (Eq.refl false) (And.intro (Eq.refl false) (And.intro (Eq.refl false) (And.intro (Eq.refl false) trivial)))) (by kernel_rfl)
theorem uStore_64_ok (u : Unit) : FnSpec Try.prog 25 1000 [Unit.enc u, .int .u8 64] [] (.int .u8 (uStore_64 u)) [] := by
  exact uStore_64_p1 u

/-- (kotatsu/alu.Unit).Store -/
def uStore_65 (u : Unit) : Int :=
  0
theorem uStore_65_p1 (u : Unit) : FnSpec Try.prog 25 1000 [Unit.enc u, .int .u8 65] [] (.int .u8 0) [] := by
  exact fn_of_x hG hM Try.func25 (by kernel_rfl) (by kernel_rfl) 400 [.no, .no, .no, .no] (And.intro (Eq.refl false) (And.intro (Eq.refl false) (And.intro (Eq.refl false) (And.intro (Eq.refl false) trivial)))) (by kernel_rfl)
theorem uStore_65_ok (u : Unit) : FnSpec Try.prog 25 1000 [Unit.enc u, .int .u8 65] [] (.int .u8 (uStore_65 u)) [] := by
  exact uStore_65_p1 u

/-- (kotatsu/alu.Unit).Store -/
def uStore_66 (u : Unit) : Int :=
  0
theorem uStore_66_p1 (u : Unit) : FnSpec Try.prog 25 1000 [Unit.enc u, .int .u8 66] [] (.int .u8 0) [] := by
  exact fn_of_x hG hM Try.func25 (by kernel_rfl) (by kernel_rfl) 400 [.no, .no, .no, .no] (And.intro (Eq.refl false) (And.intro (Eq.refl false) (And.intro (Eq.refl false) (And.intro (Eq.refl false) trivial)))) (by kernel_rfl)
theorem uStore_66_ok (u : Unit) : FnSpec Try.prog 25 1000 [Unit.enc u, .int .u8 66] [] (.int .u8 (uStore_66 u)) [] := by
  exact uStore_66_p1 u

/-- (kotatsu/alu.Unit).Store -/
def uStore_67 (u : Unit) : Int :=
  0
theorem uStore_67_p1 (u : Unit) : FnSpec Try.prog 25 1000 [Unit.enc u, .int .u8 67] [] (.int .u8 0) [] := by
  exact fn_of_x hG hM Try.func25 (by kernel_rfl) (by kernel_rfl) 400 [.no, .no, .no, .no] (And.intro (Eq.refl false) (And.intro (Eq.refl false) (And.intro (Eq.refl false) (And.intro (Eq.refl false) trivial)))) (by kernel_rfl)
theorem uStore_67_ok (u : Unit) : FnSpec Try.prog 25 1000 [Unit.enc u, .int .u8 67] [] (.int .u8 (uStore_67 u)) [] := by
  exact uStore_67_p1 u

/-- (kotatsu/alu.Unit).Store -/
def uStore_68 (u : Unit) : Int :=
  0
theorem uStore_68_p1 (u : Unit) : FnSpec Try.prog 25 1000 [Unit.enc u, .int .u8 68] [] (.int .u8 0) [] := by
  exact fn_of_x hG hM Try.func25 (by kernel_rfl) (by kernel_rfl) 400 [.no, .no, .no, .no] (And.intro (Eq.refl false) (And.intro (Eq.refl false) (And.intro (Eq.refl false) (And.intro (Eq.refl false) trivial)))) (by kernel_rfl)
theorem uStore_68_ok (u : Unit) : FnSpec Try.prog 25 1000 [Unit.enc u, .int .u8 68] [] (.int .u8 (uStore_68 u)) [] := by
  exact uStore_68_p1 u

/-- (kotatsu/alu.Unit).Store -/
def uStore_69 (u : Unit) : Int :=
  0
theorem uStore_69_p1 (u : Unit) : FnSpec Try.prog 25 1000 [Unit.enc u, .int .u8 69] [] (.int .u8 0) [] := by
  exact fn_of_x hG hM Try.func25 (by kernel_rfl) (by kernel_rfl) 400 [.no, .no, .no, .no] (And.intro (Eq.refl false) (And.intro (Eq.refl false) (And.intro (Eq.refl false) (And.intro (Eq.refl false) trivial)))) (by kernel_rfl)
theorem uStore_69_ok (u : Unit) : FnSpec Try.prog 25 1000 [Unit.enc u, .int .u8 69] [] (.int .u8 (uStore_69 u)) [] := by
  exact uStore_69_p1 u

/-- (kotatsu/alu.Unit).Store -/
def uStore_hi (u : Unit) (op : Int) : Int :=
  0
theorem uStore_hi_p1 (u : Unit) (op : Int) (h : 70 ≤ op) : FnSpec Try.prog 25 1000 [Unit.enc u, .int .u8 op] [] (.int .u8 0) [] := by
  exact fn_of_x hG hM Try.func25 (by kernel_rfl) (by kernel_rfl) 400 [.no, .no, .no, .no] (And.intro (beq_no (by omega) : ((op : Int) == 31) = false) (And.intro (beq_no (by omega) : ((op : Int) == 32) = false) (And.intro (beq_no (by omega) : ((op : Int) == 33) = false) (And.intro (beq_no (by omega) : ((op : Int) == 34) = false) trivial)))) (by kernel_rfl)
theorem uStore_hi_ok (u : Unit) (op : Int) (h : 70 ≤ op) : FnSpec Try.prog 25 1000 [Unit.enc u, .int .u8 op] [] (.int .u8 (uStore_hi u op)) [] := by
  exact uStore_hi_p1 u op h

/-- kotatsu/alu.Kind -/
def aKind_hi (op : Int) : Int :=
  0
theorem aKind_hi_p1 (op : Int) (h : 70 ≤ op) : FnSpec Try.prog 23 1000 [.int .u8 op] [] (.int .u8 0) [] := by
  exact fn_of_x hG hM Try.func23 (by kernel_rfl) (by kernel_rfl) 400 [.no, .no, .no, .no, .no, .no] (And.intro (decide_eq_false (by omega) : (decide ((op : Int) ≤ 18)) = false) (And.intro (decide_eq_false (by omega) : (decide ((op : Int) ≤ 30)) = false) (And.intro (decide_eq_false (by omega) : (decide ((op : Int) ≤ 34)) = false) (And.intro (decide_eq_false (by omega) : (decide ((op : Int) ≤ 51)) = false) (And.intro (decide_eq_false (by omega) : (decide ((op : Int) ≤ 59)) = false) (And.intro (decide_eq_false (by omega) : (decide ((op : Int) ≤ 69)) = false) trivial)))))) (by kernel_rfl)
theorem aKind_hi_ok (op : Int) (h : 70 ≤ op) : FnSpec Try.prog 23 1000 [.int .u8 op] [] (.int .u8 (aKind_hi op)) [] := by
  exact aKind_hi_p1 op h

end Go.Proofs.Ytfjeifmenlnkkaa
