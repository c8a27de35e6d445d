/-
  The core: which cycles a code has, class by class. Written by gen_core.py. No condition.
-/
import Derived.Test.YtmnhmplcpijanaaGreatCD
namespace Go.Proofs.YtmnhmplcpijanaaGreat
open Go VX
set_option linter.unusedVariables false
set_option linter.unusedSimpArgs false
set_option maxRecDepth 100000

/-- (*kotatsu/core.Core).address -/
def c_addr_0 (c : Core) : Unit :=
  ()
theorem c_addr_0_ok (c : Core) (hm : c.c.Mode = 0) : FnSpec Tryz.prog 58 1001 [.pointer (some ⟨1000, 0, none⟩)] [(1000, Core.blk c)] (.slice none 0 0) [(1000, Core.blk c)] := by
  exact fn_of_x hG hM Tryz.func58 (by kernel_rfl) (by kernel_rfl) 400 [.eq 10 (.int .u8 0), .no, .no, .no, .no, .no, .eq 17 (.int .u8 0), .no, .no, .no, .eq 25 (.int .u8 0), .no, .no, .no, .no, .no, .no, .no, .no] (J (congrArg (Value.int .u8) hm : Value.int .u8 c.c.Mode = Value.int .u8 0) (J (Eq.refl false) (J (Eq.refl false) (J (Eq.refl false) (J (Eq.refl false) (J (Eq.refl false) (J (congrArg (Value.int .u8) hm : Value.int .u8 c.c.Mode = Value.int .u8 0) (J (Eq.refl false) (J (Eq.refl false) (J (Eq.refl false) (J (congrArg (Value.int .u8) hm : Value.int .u8 c.c.Mode = Value.int .u8 0) (J (Eq.refl false) (J (Eq.refl false) (J (Eq.refl false) (J (Eq.refl false) (J (Eq.refl false) (J (Eq.refl false) (J (Eq.refl false) (J (Eq.refl false) trivial))))))))))))))))))) (by kernel_rfl)

/-- (*kotatsu/core.Core).address -/
def c_addr_1 (c : Core) : Unit :=
  ()
theorem c_addr_1_ok (c : Core) (hm : c.c.Mode = 1) : FnSpec Tryz.prog 58 1001 [.pointer (some ⟨1000, 0, none⟩)] [(1000, Core.blk c)] (.slice none 0 0) [(1000, Core.blk c)] := by
  exact fn_of_x hG hM Tryz.func58 (by kernel_rfl) (by kernel_rfl) 400 [.eq 10 (.int .u8 1), .no, .no, .no, .no, .no, .eq 17 (.int .u8 1), .no, .no, .no, .eq 25 (.int .u8 1), .no, .no, .no, .no, .no, .no, .no, .no] (J (congrArg (Value.int .u8) hm : Value.int .u8 c.c.Mode = Value.int .u8 1) (J (Eq.refl false) (J (Eq.refl false) (J (Eq.refl false) (J (Eq.refl false) (J (Eq.refl false) (J (congrArg (Value.int .u8) hm : Value.int .u8 c.c.Mode = Value.int .u8 1) (J (Eq.refl false) (J (Eq.refl false) (J (Eq.refl false) (J (congrArg (Value.int .u8) hm : Value.int .u8 c.c.Mode = Value.int .u8 1) (J (Eq.refl false) (J (Eq.refl false) (J (Eq.refl false) (J (Eq.refl false) (J (Eq.refl false) (J (Eq.refl false) (J (Eq.refl false) (J (Eq.refl false) trivial))))))))))))))))))) (by kernel_rfl)

theorem c_addr_2_p1 (c : Core) (hm : c.c.Mode = 2) : FnSpec Tryz.prog 58 1001 [.pointer (some ⟨1000, 0, none⟩)] [(1000, Core.blk c)] (.slice (some ⟨1002, 0, none⟩) 1 2) [(1000, Core.blk c), (1002, ⟨[.one (.func (.func 38) ⟨[]⟩ ⟨[]⟩), .one (.func (.func 86) ⟨[]⟩ ⟨[]⟩)], 85, false⟩)] := by
  exact fn_of_x hG hM Tryz.func58 (by kernel_rfl) (by kernel_rfl) 400 [.eq 10 (.int .u8 2), .no, .no, .no, .no, .no, .eq 17 (.int .u8 2), .no, .no, .no, .eq 25 (.int .u8 2), .yes] (J (congrArg (Value.int .u8) hm : Value.int .u8 c.c.Mode = Value.int .u8 2) (J (Eq.refl false) (J (Eq.refl false) (J (Eq.refl false) (J (Eq.refl false) (J (Eq.refl false) (J (congrArg (Value.int .u8) hm : Value.int .u8 c.c.Mode = Value.int .u8 2) (J (Eq.refl false) (J (Eq.refl false) (J (Eq.refl false) (J (congrArg (Value.int .u8) hm : Value.int .u8 c.c.Mode = Value.int .u8 2) (J (Eq.refl true) trivial)))))))))))) (by kernel_rfl)

theorem c_addr_3_p1 (c : Core) (hm : c.c.Mode = 3) : FnSpec Tryz.prog 58 1001 [.pointer (some ⟨1000, 0, none⟩)] [(1000, Core.blk c)] (.slice (some ⟨1002, 0, none⟩) 2 2) [(1000, Core.blk c), (1002, ⟨[.one (.func (.func 38) ⟨[]⟩ ⟨[]⟩), .one (.func (.func 86) ⟨[]⟩ ⟨[]⟩), .one (.func (.func 87) ⟨[]⟩ ⟨[]⟩), .one (.func (.func 81) ⟨[]⟩ ⟨[]⟩)], 85, false⟩)] := by
  exact fn_of_x hG hM Tryz.func58 (by kernel_rfl) (by kernel_rfl) 400 [.eq 10 (.int .u8 3), .no, .no, .no, .no, .no, .eq 17 (.int .u8 3), .no, .no, .no, .eq 25 (.int .u8 3), .no, .yes, .yes] (J (congrArg (Value.int .u8) hm : Value.int .u8 c.c.Mode = Value.int .u8 3) (J (Eq.refl false) (J (Eq.refl false) (J (Eq.refl false) (J (Eq.refl false) (J (Eq.refl false) (J (congrArg (Value.int .u8) hm : Value.int .u8 c.c.Mode = Value.int .u8 3) (J (Eq.refl false) (J (Eq.refl false) (J (Eq.refl false) (J (congrArg (Value.int .u8) hm : Value.int .u8 c.c.Mode = Value.int .u8 3) (J (Eq.refl false) (J (Eq.refl true) (J (Eq.refl true) trivial)))))))))))))) (by kernel_rfl)

theorem c_addr_4_p1 (c : Core) (hm : c.c.Mode = 4) : FnSpec Tryz.prog 58 1001 [.pointer (some ⟨1000, 0, none⟩)] [(1000, Core.blk c)] (.slice (some ⟨1002, 0, none⟩) 2 2) [(1000, Core.blk c), (1002, ⟨[.one (.func (.func 38) ⟨[]⟩ ⟨[]⟩), .one (.func (.func 86) ⟨[]⟩ ⟨[]⟩), .one (.func (.func 87) ⟨[]⟩ ⟨[]⟩), .one (.func (.func 83) ⟨[]⟩ ⟨[]⟩)], 85, false⟩)] := by
  exact fn_of_x hG hM Tryz.func58 (by kernel_rfl) (by kernel_rfl) 400 [.eq 10 (.int .u8 4), .yes, .yes, .yes, .yes, .yes, .yes, .yes, .yes, .eq 25 (.int .u8 4), .no, .no, .yes] (J (congrArg (Value.int .u8) hm : Value.int .u8 c.c.Mode = Value.int .u8 4) (J (Eq.refl true) (J (Eq.refl true) (J (Eq.refl true) (J (Eq.refl true) (J (Eq.refl true) (J (Eq.refl true) (J (Eq.refl true) (J (Eq.refl true) (J (congrArg (Value.int .u8) hm : Value.int .u8 c.c.Mode = Value.int .u8 4) (J (Eq.refl false) (J (Eq.refl false) (J (Eq.refl true) trivial))))))))))))) (by kernel_rfl)

theorem c_addr_5_p1 (c : Core) (hm : c.c.Mode = 5) (hk : aKind c.c.Op ≠ 6) : FnSpec Tryz.prog 58 1001 [.pointer (some ⟨1000, 0, none⟩)] [(1000, Core.blk c)] (.slice (some ⟨1002, 0, none⟩) 2 2) [(1000, Core.blk c), (1002, ⟨[.one (.func (.func 38) ⟨[]⟩ ⟨[]⟩), .one (.func (.func 88) ⟨[]⟩ ⟨[]⟩), .one (.func (.func 38) ⟨[]⟩ ⟨[]⟩), .one (.func (.func 89) ⟨[]⟩ ⟨[]⟩)], 85, false⟩)] := by
  exact fn_of_x hG hM Tryz.func58 (by kernel_rfl) (by kernel_rfl) 400 [.eq 10 (.int .u8 5), .no, .no, .no, .no, .no, .eq 17 (.int .u8 5), .no, .no, .no, .eq 25 (.int .u8 5), .no, .no, .no, .yes, .call [] [] 1000 (.int .u8 (aKind c.c.Op)) [], .yes] (J (congrArg (Value.int .u8) hm : Value.int .u8 c.c.Mode = Value.int .u8 5) (J (Eq.refl false) (J (Eq.refl false) (J (Eq.refl false) (J (Eq.refl false) (J (Eq.refl false) (J (congrArg (Value.int .u8) hm : Value.int .u8 c.c.Mode = Value.int .u8 5) (J (Eq.refl false) (J (Eq.refl false) (J (Eq.refl false) (J (congrArg (Value.int .u8) hm : Value.int .u8 c.c.Mode = Value.int .u8 5) (J (Eq.refl false) (J (Eq.refl false) (J (Eq.refl false) (J (Eq.refl true) (J (aKind_ok c.c.Op) (J (show (((aKind c.c.Op) : Int) != 6) = true from by simpa using hk) trivial))))))))))))))))) (by kernel_rfl)

/-- (*kotatsu/core.Core).address -/
def c_addr_5f (c : Core) : Unit :=
  ()
theorem c_addr_5f_ok (c : Core) (hm : c.c.Mode = 5) (hk : aKind c.c.Op = 6) : FnSpec Tryz.prog 58 1001 [.pointer (some ⟨1000, 0, none⟩)] [(1000, Core.blk c)] (.slice none 0 0) [(1000, Core.blk c)] := by
  exact fn_of_x hG hM Tryz.func58 (by kernel_rfl) (by kernel_rfl) 400 [.eq 10 (.int .u8 5), .no, .no, .no, .no, .no, .eq 17 (.int .u8 5), .no, .no, .no, .eq 25 (.int .u8 5), .no, .no, .no, .yes, .call [] [] 1000 (.int .u8 (aKind c.c.Op)) [], .no] (J (congrArg (Value.int .u8) hm : Value.int .u8 c.c.Mode = Value.int .u8 5) (J (Eq.refl false) (J (Eq.refl false) (J (Eq.refl false) (J (Eq.refl false) (J (Eq.refl false) (J (congrArg (Value.int .u8) hm : Value.int .u8 c.c.Mode = Value.int .u8 5) (J (Eq.refl false) (J (Eq.refl false) (J (Eq.refl false) (J (congrArg (Value.int .u8) hm : Value.int .u8 c.c.Mode = Value.int .u8 5) (J (Eq.refl false) (J (Eq.refl false) (J (Eq.refl false) (J (Eq.refl true) (J (aKind_ok c.c.Op) (J (show (((aKind c.c.Op) : Int) != 6) = false from by simpa using hk) trivial))))))))))))))))) (by kernel_rfl)

theorem c_addr_6_p1 (c : Core) (hm : c.c.Mode = 6) : FnSpec Tryz.prog 58 1001 [.pointer (some ⟨1000, 0, none⟩)] [(1000, Core.blk c)] (.slice (some ⟨1002, 0, none⟩) 3 2) [(1000, Core.blk c), (1002, ⟨[.one (.func (.func 38) ⟨[]⟩ ⟨[]⟩), .one (.func (.func 88) ⟨[]⟩ ⟨[]⟩), .one (.func (.func 38) ⟨[]⟩ ⟨[]⟩), .one (.func (.func 82) ⟨[]⟩ ⟨[]⟩), .one (.func (.func 85) ⟨[]⟩ ⟨[]⟩), .one (.func (.func 43) ⟨[]⟩ ⟨[]⟩)], 85, false⟩)] := by
  exact fn_of_x hG hM Tryz.func58 (by kernel_rfl) (by kernel_rfl) 400 [.eq 10 (.int .u8 6), .no, .no, .no, .no, .no, .eq 17 (.int .u8 6), .no, .no, .no, .eq 25 (.int .u8 6), .no, .no, .no, .no, .yes, .yes] (J (congrArg (Value.int .u8) hm : Value.int .u8 c.c.Mode = Value.int .u8 6) (J (Eq.refl false) (J (Eq.refl false) (J (Eq.refl false) (J (Eq.refl false) (J (Eq.refl false) (J (congrArg (Value.int .u8) hm : Value.int .u8 c.c.Mode = Value.int .u8 6) (J (Eq.refl false) (J (Eq.refl false) (J (Eq.refl false) (J (congrArg (Value.int .u8) hm : Value.int .u8 c.c.Mode = Value.int .u8 6) (J (Eq.refl false) (J (Eq.refl false) (J (Eq.refl false) (J (Eq.refl false) (J (Eq.refl true) (J (Eq.refl true) trivial))))))))))))))))) (by kernel_rfl)

theorem c_addr_7_p1 (c : Core) (hm : c.c.Mode = 7) : FnSpec Tryz.prog 58 1001 [.pointer (some ⟨1000, 0, none⟩)] [(1000, Core.blk c)] (.slice (some ⟨1002, 0, none⟩) 3 2) [(1000, Core.blk c), (1002, ⟨[.one (.func (.func 38) ⟨[]⟩ ⟨[]⟩), .one (.func (.func 88) ⟨[]⟩ ⟨[]⟩), .one (.func (.func 38) ⟨[]⟩ ⟨[]⟩), .one (.func (.func 84) ⟨[]⟩ ⟨[]⟩), .one (.func (.func 85) ⟨[]⟩ ⟨[]⟩), .one (.func (.func 43) ⟨[]⟩ ⟨[]⟩)], 85, false⟩)] := by
  exact fn_of_x hG hM Tryz.func58 (by kernel_rfl) (by kernel_rfl) 400 [.eq 10 (.int .u8 7), .no, .no, .no, .no, .no, .eq 17 (.int .u8 7), .no, .no, .yes, .eq 25 (.int .u8 7), .no, .no, .no, .no, .no, .yes] (J (congrArg (Value.int .u8) hm : Value.int .u8 c.c.Mode = Value.int .u8 7) (J (Eq.refl false) (J (Eq.refl false) (J (Eq.refl false) (J (Eq.refl false) (J (Eq.refl false) (J (congrArg (Value.int .u8) hm : Value.int .u8 c.c.Mode = Value.int .u8 7) (J (Eq.refl false) (J (Eq.refl false) (J (Eq.refl true) (J (congrArg (Value.int .u8) hm : Value.int .u8 c.c.Mode = Value.int .u8 7) (J (Eq.refl false) (J (Eq.refl false) (J (Eq.refl false) (J (Eq.refl false) (J (Eq.refl false) (J (Eq.refl true) trivial))))))))))))))))) (by kernel_rfl)

theorem c_addr_8_p1 (c : Core) (hm : c.c.Mode = 8) : FnSpec Tryz.prog 58 1001 [.pointer (some ⟨1000, 0, none⟩)] [(1000, Core.blk c)] (.slice (some ⟨1002, 0, none⟩) 4 2) [(1000, Core.blk c), (1002, ⟨[.one (.func (.func 38) ⟨[]⟩ ⟨[]⟩), .one (.func (.func 86) ⟨[]⟩ ⟨[]⟩), .one (.func (.func 87) ⟨[]⟩ ⟨[]⟩), .one (.func (.func 81) ⟨[]⟩ ⟨[]⟩), .one (.func (.func 87) ⟨[]⟩ ⟨[]⟩), .one (.func (.func 90) ⟨[]⟩ ⟨[]⟩), .one (.func (.func 87) ⟨[]⟩ ⟨[]⟩), .one (.func (.func 91) ⟨[]⟩ ⟨[]⟩)], 85, false⟩)] := by
  exact fn_of_x hG hM Tryz.func58 (by kernel_rfl) (by kernel_rfl) 400 [.eq 10 (.int .u8 8), .no, .no, .no, .no, .no, .eq 17 (.int .u8 8), .no, .no, .no, .eq 25 (.int .u8 8), .no, .no, .no, .no, .no, .no, .yes] (J (congrArg (Value.int .u8) hm : Value.int .u8 c.c.Mode = Value.int .u8 8) (J (Eq.refl false) (J (Eq.refl false) (J (Eq.refl false) (J (Eq.refl false) (J (Eq.refl false) (J (congrArg (Value.int .u8) hm : Value.int .u8 c.c.Mode = Value.int .u8 8) (J (Eq.refl false) (J (Eq.refl false) (J (Eq.refl false) (J (congrArg (Value.int .u8) hm : Value.int .u8 c.c.Mode = Value.int .u8 8) (J (Eq.refl false) (J (Eq.refl false) (J (Eq.refl false) (J (Eq.refl false) (J (Eq.refl false) (J (Eq.refl false) (J (Eq.refl true) trivial)))))))))))))))))) (by kernel_rfl)

theorem c_addr_9_p1 (c : Core) (hm : c.c.Mode = 9) : FnSpec Tryz.prog 58 1001 [.pointer (some ⟨1000, 0, none⟩)] [(1000, Core.blk c)] (.slice (some ⟨1002, 0, none⟩) 4 2) [(1000, Core.blk c), (1002, ⟨[.one (.func (.func 38) ⟨[]⟩ ⟨[]⟩), .one (.func (.func 86) ⟨[]⟩ ⟨[]⟩), .one (.func (.func 87) ⟨[]⟩ ⟨[]⟩), .one (.func (.func 90) ⟨[]⟩ ⟨[]⟩), .one (.func (.func 87) ⟨[]⟩ ⟨[]⟩), .one (.func (.func 92) ⟨[]⟩ ⟨[]⟩), .one (.func (.func 85) ⟨[]⟩ ⟨[]⟩), .one (.func (.func 43) ⟨[]⟩ ⟨[]⟩)], 85, false⟩)] := by
  exact fn_of_x hG hM Tryz.func58 (by kernel_rfl) (by kernel_rfl) 400 [.eq 10 (.int .u8 9), .no, .no, .no, .no, .no, .eq 17 (.int .u8 9), .no, .no, .no, .eq 25 (.int .u8 9), .no, .no, .no, .no, .no, .no, .no, .yes] (J (congrArg (Value.int .u8) hm : Value.int .u8 c.c.Mode = Value.int .u8 9) (J (Eq.refl false) (J (Eq.refl false) (J (Eq.refl false) (J (Eq.refl false) (J (Eq.refl false) (J (congrArg (Value.int .u8) hm : Value.int .u8 c.c.Mode = Value.int .u8 9) (J (Eq.refl false) (J (Eq.refl false) (J (Eq.refl false) (J (congrArg (Value.int .u8) hm : Value.int .u8 c.c.Mode = Value.int .u8 9) (J (Eq.refl false) (J (Eq.refl false) (J (Eq.refl false) (J (Eq.refl false) (J (Eq.refl false) (J (Eq.refl false) (J (Eq.refl false) (J (Eq.refl true) trivial))))))))))))))))))) (by kernel_rfl)

/-- (*kotatsu/core.Core).address -/
def c_addr_10 (c : Core) : Unit :=
  ()
theorem c_addr_10_ok (c : Core) (hm : c.c.Mode = 10) : FnSpec Tryz.prog 58 1001 [.pointer (some ⟨1000, 0, none⟩)] [(1000, Core.blk c)] (.slice none 0 0) [(1000, Core.blk c)] := by
  exact fn_of_x hG hM Tryz.func58 (by kernel_rfl) (by kernel_rfl) 400 [.eq 10 (.int .u8 10), .no, .no, .no, .no, .no, .eq 17 (.int .u8 10), .no, .no, .no, .eq 25 (.int .u8 10), .no, .no, .no, .no, .no, .no, .no, .no] (J (congrArg (Value.int .u8) hm : Value.int .u8 c.c.Mode = Value.int .u8 10) (J (Eq.refl false) (J (Eq.refl false) (J (Eq.refl false) (J (Eq.refl false) (J (Eq.refl false) (J (congrArg (Value.int .u8) hm : Value.int .u8 c.c.Mode = Value.int .u8 10) (J (Eq.refl false) (J (Eq.refl false) (J (Eq.refl false) (J (congrArg (Value.int .u8) hm : Value.int .u8 c.c.Mode = Value.int .u8 10) (J (Eq.refl false) (J (Eq.refl false) (J (Eq.refl false) (J (Eq.refl false) (J (Eq.refl false) (J (Eq.refl false) (J (Eq.refl false) (J (Eq.refl false) trivial))))))))))))))))))) (by kernel_rfl)

/-- (*kotatsu/core.Core).address -/
def c_addr_11 (c : Core) : Unit :=
  ()
theorem c_addr_11_ok (c : Core) (hm : c.c.Mode = 11) : FnSpec Tryz.prog 58 1001 [.pointer (some ⟨1000, 0, none⟩)] [(1000, Core.blk c)] (.slice none 0 0) [(1000, Core.blk c)] := by
  exact fn_of_x hG hM Tryz.func58 (by kernel_rfl) (by kernel_rfl) 400 [.eq 10 (.int .u8 11), .no, .no, .no, .no, .no, .eq 17 (.int .u8 11), .no, .no, .no, .eq 25 (.int .u8 11), .no, .no, .no, .no, .no, .no, .no, .no] (J (congrArg (Value.int .u8) hm : Value.int .u8 c.c.Mode = Value.int .u8 11) (J (Eq.refl false) (J (Eq.refl false) (J (Eq.refl false) (J (Eq.refl false) (J (Eq.refl false) (J (congrArg (Value.int .u8) hm : Value.int .u8 c.c.Mode = Value.int .u8 11) (J (Eq.refl false) (J (Eq.refl false) (J (Eq.refl false) (J (congrArg (Value.int .u8) hm : Value.int .u8 c.c.Mode = Value.int .u8 11) (J (Eq.refl false) (J (Eq.refl false) (J (Eq.refl false) (J (Eq.refl false) (J (Eq.refl false) (J (Eq.refl false) (J (Eq.refl false) (J (Eq.refl false) trivial))))))))))))))))))) (by kernel_rfl)

/-- (*kotatsu/core.Core).flow -/
def c_flow_60 (c : Core) : Unit :=
  ()
theorem c_flow_60_ok (c : Core) (ho : c.c.Op = 60) (hm : c.c.Mode = 5) : FnSpec Tryz.prog 95 1001 [.pointer (some ⟨1000, 0, none⟩)] [(1000, Core.blk c)] (cycV ([(38, 88), (38, 60)])) [(1000, Core.blk c)] := by
  exact fn_of_x hG hM Tryz.func95 (by kernel_rfl) (by kernel_rfl) 400 [.eq 11 (.int .u8 60), .yes, .eq 18 (.int .u8 5), .no, .born] (J (congrArg (Value.int .u8) ho : Value.int .u8 c.c.Op = Value.int .u8 60) (J (Eq.refl true) (J (congrArg (Value.int .u8) hm : Value.int .u8 c.c.Mode = Value.int .u8 5) (J (Eq.refl false) trivial)))) (by kernel_rfl)

/-- (*kotatsu/core.Core).flow -/
def c_flow_60i (c : Core) : Unit :=
  ()
theorem c_flow_60i_ok (c : Core) (ho : c.c.Op = 60) (hm : c.c.Mode = 11) : FnSpec Tryz.prog 95 1001 [.pointer (some ⟨1000, 0, none⟩)] [(1000, Core.blk c)] (cycV ([(38, 88), (38, 89), (87, 90), (87, 60)])) [(1000, Core.blk c)] := by
  exact fn_of_x hG hM Tryz.func95 (by kernel_rfl) (by kernel_rfl) 400 [.eq 11 (.int .u8 60), .yes, .eq 18 (.int .u8 11), .yes, .born] (J (congrArg (Value.int .u8) ho : Value.int .u8 c.c.Op = Value.int .u8 60) (J (Eq.refl true) (J (congrArg (Value.int .u8) hm : Value.int .u8 c.c.Mode = Value.int .u8 11) (J (Eq.refl true) trivial)))) (by kernel_rfl)

/-- (*kotatsu/core.Core).flow -/
def c_flow_61 (c : Core) : Unit :=
  ()
theorem c_flow_61_ok (c : Core) (ho : c.c.Op = 61) : FnSpec Tryz.prog 95 1001 [.pointer (some ⟨1000, 0, none⟩)] [(1000, Core.blk c)] (cycV ([(38, 88), (44, 43), (77, 45), (78, 45), (38, 60)])) [(1000, Core.blk c)] := by
  exact fn_of_x hG hM Tryz.func95 (by kernel_rfl) (by kernel_rfl) 400 [.eq 11 (.int .u8 61), .no, .yes, .born] (J (congrArg (Value.int .u8) ho : Value.int .u8 c.c.Op = Value.int .u8 61) (J (Eq.refl false) (J (Eq.refl true) trivial))) (by kernel_rfl)

/-- (*kotatsu/core.Core).flow -/
def c_flow_62 (c : Core) : Unit :=
  ()
theorem c_flow_62_ok (c : Core) (ho : c.c.Op = 62) : FnSpec Tryz.prog 95 1001 [.pointer (some ⟨1000, 0, none⟩)] [(1000, Core.blk c)] (cycV ([(38, 43), (44, 120), (44, 121), (44, 60), (38, 122)])) [(1000, Core.blk c)] := by
  exact fn_of_x hG hM Tryz.func95 (by kernel_rfl) (by kernel_rfl) 400 [.eq 11 (.int .u8 62), .no, .no, .yes, .born] (J (congrArg (Value.int .u8) ho : Value.int .u8 c.c.Op = Value.int .u8 62) (J (Eq.refl false) (J (Eq.refl false) (J (Eq.refl true) trivial)))) (by kernel_rfl)

/-- (*kotatsu/core.Core).flow -/
def c_flow_63 (c : Core) : Unit :=
  ()
theorem c_flow_63_ok (c : Core) (ho : c.c.Op = 63) : FnSpec Tryz.prog 95 1001 [.pointer (some ⟨1000, 0, none⟩)] [(1000, Core.blk c)] (cycV ([(38, 43), (44, 120), (44, 123), (44, 121), (44, 60)])) [(1000, Core.blk c)] := by
  exact fn_of_x hG hM Tryz.func95 (by kernel_rfl) (by kernel_rfl) 400 [.eq 11 (.int .u8 63), .no, .no, .no, .yes, .born] (J (congrArg (Value.int .u8) ho : Value.int .u8 c.c.Op = Value.int .u8 63) (J (Eq.refl false) (J (Eq.refl false) (J (Eq.refl false) (J (Eq.refl true) trivial))))) (by kernel_rfl)

/-- (*kotatsu/core.Core).flow -/
def c_flow_64 (c : Core) : Core :=
  ({ c with vector := 65534 } : Core)
theorem c_flow_64_ok (c : Core) (ho : c.c.Op = 64) : FnSpec Tryz.prog 95 1001 [.pointer (some ⟨1000, 0, none⟩)] [(1000, Core.blk c)] (cycV ([(38, 122), (77, 45), (78, 45), (125, 45), (46, 47), (46, 48)])) [(1000, Core.blk (c_flow_64 c))] := by
  unfold c_flow_64
  exact fn_of_x hG hM Tryz.func95 (by kernel_rfl) (by kernel_rfl) 400 [.eq 11 (.int .u8 64), .no, .no, .no, .no, .no, .no, .no, .no, .yes, .born] (J (congrArg (Value.int .u8) ho : Value.int .u8 c.c.Op = Value.int .u8 64) (J (Eq.refl false) (J (Eq.refl false) (J (Eq.refl false) (J (Eq.refl false) (J (Eq.refl false) (J (Eq.refl false) (J (Eq.refl false) (J (Eq.refl false) (J (Eq.refl true) trivial)))))))))) (by kernel_rfl)

theorem c_flow_64_w (c : Core) (w_c : Core.ok c) (ho : c.c.Op = 64) : Core.ok (c_flow_64 c) := by
  unfold c_flow_64
  exact (⟨w_c.r, w_c.was, w_c.c, w_c.at_, w_c.near, (by decide : rng 65536 65534), w_c.low, w_c.m⟩ : Core.ok ({ c with vector := 65534 } : Core))

/-- (*kotatsu/core.Core).flow -/
def c_flow_65 (c : Core) : Unit :=
  ()
theorem c_flow_65_ok (c : Core) (ho : c.c.Op = 65) : FnSpec Tryz.prog 95 1001 [.pointer (some ⟨1000, 0, none⟩)] [(1000, Core.blk c)] (cycV ([(38, 43), (124, 45)])) [(1000, Core.blk c)] := by
  exact fn_of_x hG hM Tryz.func95 (by kernel_rfl) (by kernel_rfl) 400 [.eq 11 (.int .u8 65), .no, .no, .no, .no, .yes, .born] (J (congrArg (Value.int .u8) ho : Value.int .u8 c.c.Op = Value.int .u8 65) (J (Eq.refl false) (J (Eq.refl false) (J (Eq.refl false) (J (Eq.refl false) (J (Eq.refl true) trivial)))))) (by kernel_rfl)

/-- (*kotatsu/core.Core).flow -/
def c_flow_66 (c : Core) : Unit :=
  ()
theorem c_flow_66_ok (c : Core) (ho : c.c.Op = 66) : FnSpec Tryz.prog 95 1001 [.pointer (some ⟨1000, 0, none⟩)] [(1000, Core.blk c)] (cycV ([(38, 43), (125, 45)])) [(1000, Core.blk c)] := by
  exact fn_of_x hG hM Tryz.func95 (by kernel_rfl) (by kernel_rfl) 400 [.eq 11 (.int .u8 66), .no, .no, .no, .no, .no, .yes, .born] (J (congrArg (Value.int .u8) ho : Value.int .u8 c.c.Op = Value.int .u8 66) (J (Eq.refl false) (J (Eq.refl false) (J (Eq.refl false) (J (Eq.refl false) (J (Eq.refl false) (J (Eq.refl true) trivial))))))) (by kernel_rfl)

/-- (*kotatsu/core.Core).flow -/
def c_flow_67 (c : Core) : Unit :=
  ()
theorem c_flow_67_ok (c : Core) (ho : c.c.Op = 67) : FnSpec Tryz.prog 95 1001 [.pointer (some ⟨1000, 0, none⟩)] [(1000, Core.blk c)] (cycV ([(38, 43), (44, 120), (44, 126)])) [(1000, Core.blk c)] := by
  exact fn_of_x hG hM Tryz.func95 (by kernel_rfl) (by kernel_rfl) 400 [.eq 11 (.int .u8 67), .no, .no, .no, .no, .no, .no, .yes, .born] (J (congrArg (Value.int .u8) ho : Value.int .u8 c.c.Op = Value.int .u8 67) (J (Eq.refl false) (J (Eq.refl false) (J (Eq.refl false) (J (Eq.refl false) (J (Eq.refl false) (J (Eq.refl false) (J (Eq.refl true) trivial)))))))) (by kernel_rfl)

/-- (*kotatsu/core.Core).flow -/
def c_flow_68 (c : Core) : Unit :=
  ()
theorem c_flow_68_ok (c : Core) (ho : c.c.Op = 68) : FnSpec Tryz.prog 95 1001 [.pointer (some ⟨1000, 0, none⟩)] [(1000, Core.blk c)] (cycV ([(38, 43), (44, 120), (44, 127)])) [(1000, Core.blk c)] := by
  exact fn_of_x hG hM Tryz.func95 (by kernel_rfl) (by kernel_rfl) 400 [.eq 11 (.int .u8 68), .no, .no, .no, .no, .no, .no, .no, .yes, .born] (J (congrArg (Value.int .u8) ho : Value.int .u8 c.c.Op = Value.int .u8 68) (J (Eq.refl false) (J (Eq.refl false) (J (Eq.refl false) (J (Eq.refl false) (J (Eq.refl false) (J (Eq.refl false) (J (Eq.refl false) (J (Eq.refl true) trivial))))))))) (by kernel_rfl)

/-- (*kotatsu/core.Core).flow -/
def c_flow_69 (c : Core) : Core :=
  ({ c with jam := true } : Core)
theorem c_flow_69_ok (c : Core) (ho : c.c.Op = 69) : FnSpec Tryz.prog 95 1001 [.pointer (some ⟨1000, 0, none⟩)] [(1000, Core.blk c)] (cycV ([(128, 129)])) [(1000, Core.blk (c_flow_69 c))] := by
  unfold c_flow_69
  exact fn_of_x hG hM Tryz.func95 (by kernel_rfl) (by kernel_rfl) 400 [.eq 11 (.int .u8 69), .no, .no, .no, .no, .no, .no, .no, .no, .no, .born] (J (congrArg (Value.int .u8) ho : Value.int .u8 c.c.Op = Value.int .u8 69) (J (Eq.refl false) (J (Eq.refl false) (J (Eq.refl false) (J (Eq.refl false) (J (Eq.refl false) (J (Eq.refl false) (J (Eq.refl false) (J (Eq.refl false) (J (Eq.refl false) trivial)))))))))) (by kernel_rfl)

theorem c_flow_69_w (c : Core) (w_c : Core.ok c) (ho : c.c.Op = 69) : Core.ok (c_flow_69 c) := by
  unfold c_flow_69
  exact (⟨w_c.r, w_c.was, w_c.c, w_c.at_, w_c.near, w_c.vector, w_c.low, w_c.m⟩ : Core.ok ({ c with jam := true } : Core))

/-- (*kotatsu/core.Core).rest -/
def c_rest_st (c : Core) : Unit :=
  ()
theorem c_rest_st_ok (c : Core) (hk : aKind c.c.Op = 3) : FnSpec Tryz.prog 59 1001 [.pointer (some ⟨1000, 0, none⟩)] [(1000, Core.blk c)] (cycV ([(93, 43)])) [(1000, Core.blk c)] := by
  exact fn_of_x hG hM Tryz.func59 (by kernel_rfl) (by kernel_rfl) 400 [.call [] [] 1000 (.int .u8 (aKind c.c.Op)) [], .yes, .born] (J (aKind_ok c.c.Op) (J (show (((aKind c.c.Op) : Int) == 3) = true from by rw [hk]; rfl) trivial)) (by kernel_rfl)

/-- (*kotatsu/core.Core).rest -/
def c_rest_br (c : Core) : Unit :=
  ()
theorem c_rest_br_ok (c : Core) (hk : aKind c.c.Op = 5) : FnSpec Tryz.prog 59 1001 [.pointer (some ⟨1000, 0, none⟩)] [(1000, Core.blk c)] (cycV ([(38, 94)])) [(1000, Core.blk c)] := by
  exact fn_of_x hG hM Tryz.func59 (by kernel_rfl) (by kernel_rfl) 400 [.call [] [] 1000 (.int .u8 (aKind c.c.Op)) [], .no, .yes, .born] (J (aKind_ok c.c.Op) (J (show (((aKind c.c.Op) : Int) == 3) = false from by rw [hk]; rfl) (J (show (((aKind c.c.Op) : Int) == 5) = true from by rw [hk]; rfl) trivial))) (by kernel_rfl)

/-- (*kotatsu/core.Core).rest -/
def c_rest_imp1 (c : Core) : Unit :=
  ()
theorem c_rest_imp1_ok (c : Core) (hm : c.c.Mode = 0) (hk : aKind c.c.Op = 1) : FnSpec Tryz.prog 59 1001 [.pointer (some ⟨1000, 0, none⟩)] [(1000, Core.blk c)] (cycV ([(38, 96)])) [(1000, Core.blk c)] := by
  exact fn_of_x hG hM Tryz.func59 (by kernel_rfl) (by kernel_rfl) 400 [.call [] [] 1000 (.int .u8 (aKind c.c.Op)) [], .no, .no, .no, .eq 26 (.int .u8 0), .yes, .born] (J (aKind_ok c.c.Op) (J (show (((aKind c.c.Op) : Int) == 3) = false from by rw [hk]; rfl) (J (show (((aKind c.c.Op) : Int) == 5) = false from by rw [hk]; rfl) (J (show (((aKind c.c.Op) : Int) == 6) = false from by rw [hk]; rfl) (J (congrArg (Value.int .u8) hm : Value.int .u8 c.c.Mode = Value.int .u8 0) (J (Eq.refl true) trivial)))))) (by kernel_rfl)

/-- (*kotatsu/core.Core).rest -/
def c_rest_imp2 (c : Core) : Unit :=
  ()
theorem c_rest_imp2_ok (c : Core) (hm : c.c.Mode = 0) (hk : aKind c.c.Op = 2) : FnSpec Tryz.prog 59 1001 [.pointer (some ⟨1000, 0, none⟩)] [(1000, Core.blk c)] (cycV ([(38, 96)])) [(1000, Core.blk c)] := by
  exact fn_of_x hG hM Tryz.func59 (by kernel_rfl) (by kernel_rfl) 400 [.call [] [] 1000 (.int .u8 (aKind c.c.Op)) [], .no, .no, .no, .eq 26 (.int .u8 0), .yes, .born] (J (aKind_ok c.c.Op) (J (show (((aKind c.c.Op) : Int) == 3) = false from by rw [hk]; rfl) (J (show (((aKind c.c.Op) : Int) == 5) = false from by rw [hk]; rfl) (J (show (((aKind c.c.Op) : Int) == 6) = false from by rw [hk]; rfl) (J (congrArg (Value.int .u8) hm : Value.int .u8 c.c.Mode = Value.int .u8 0) (J (Eq.refl true) trivial)))))) (by kernel_rfl)

/-- (*kotatsu/core.Core).rest -/
def c_rest_imp4 (c : Core) : Unit :=
  ()
theorem c_rest_imp4_ok (c : Core) (hm : c.c.Mode = 0) (hk : aKind c.c.Op = 4) : FnSpec Tryz.prog 59 1001 [.pointer (some ⟨1000, 0, none⟩)] [(1000, Core.blk c)] (cycV ([(38, 96)])) [(1000, Core.blk c)] := by
  exact fn_of_x hG hM Tryz.func59 (by kernel_rfl) (by kernel_rfl) 400 [.call [] [] 1000 (.int .u8 (aKind c.c.Op)) [], .no, .no, .no, .eq 26 (.int .u8 0), .yes, .born] (J (aKind_ok c.c.Op) (J (show (((aKind c.c.Op) : Int) == 3) = false from by rw [hk]; rfl) (J (show (((aKind c.c.Op) : Int) == 5) = false from by rw [hk]; rfl) (J (show (((aKind c.c.Op) : Int) == 6) = false from by rw [hk]; rfl) (J (congrArg (Value.int .u8) hm : Value.int .u8 c.c.Mode = Value.int .u8 0) (J (Eq.refl true) trivial)))))) (by kernel_rfl)

/-- (*kotatsu/core.Core).rest -/
def c_rest_imm (c : Core) : Unit :=
  ()
theorem c_rest_imm_ok (c : Core) (hm : c.c.Mode = 1) (hk : aKind c.c.Op = 1) : FnSpec Tryz.prog 59 1001 [.pointer (some ⟨1000, 0, none⟩)] [(1000, Core.blk c)] (cycV ([(38, 97)])) [(1000, Core.blk c)] := by
  exact fn_of_x hG hM Tryz.func59 (by kernel_rfl) (by kernel_rfl) 400 [.call [] [] 1000 (.int .u8 (aKind c.c.Op)) [], .no, .no, .no, .eq 26 (.int .u8 1), .no, .eq 35 (.int .u8 1), .yes, .born] (J (aKind_ok c.c.Op) (J (show (((aKind c.c.Op) : Int) == 3) = false from by rw [hk]; rfl) (J (show (((aKind c.c.Op) : Int) == 5) = false from by rw [hk]; rfl) (J (show (((aKind c.c.Op) : Int) == 6) = false from by rw [hk]; rfl) (J (congrArg (Value.int .u8) hm : Value.int .u8 c.c.Mode = Value.int .u8 1) (J (Eq.refl false) (J (congrArg (Value.int .u8) hm : Value.int .u8 c.c.Mode = Value.int .u8 1) (J (Eq.refl true) trivial)))))))) (by kernel_rfl)

/-- (*kotatsu/core.Core).rest -/
def c_rest_r2 (c : Core) : Unit :=
  ()
theorem c_rest_r2_ok (c : Core) (hm : c.c.Mode = 2) (hk : aKind c.c.Op = 1) : FnSpec Tryz.prog 59 1001 [.pointer (some ⟨1000, 0, none⟩)] [(1000, Core.blk c)] (cycV ([(87, 101)])) [(1000, Core.blk c)] := by
  exact fn_of_x hG hM Tryz.func59 (by kernel_rfl) (by kernel_rfl) 400 [.call [] [] 1000 (.int .u8 (aKind c.c.Op)) [], .no, .no, .no, .eq 26 (.int .u8 2), .no, .eq 35 (.int .u8 2), .no, .call [] [] 1000 (.int .u8 (aKind c.c.Op)) [], .no, .born] (J (aKind_ok c.c.Op) (J (show (((aKind c.c.Op) : Int) == 3) = false from by rw [hk]; rfl) (J (show (((aKind c.c.Op) : Int) == 5) = false from by rw [hk]; rfl) (J (show (((aKind c.c.Op) : Int) == 6) = false from by rw [hk]; rfl) (J (congrArg (Value.int .u8) hm : Value.int .u8 c.c.Mode = Value.int .u8 2) (J (Eq.refl false) (J (congrArg (Value.int .u8) hm : Value.int .u8 c.c.Mode = Value.int .u8 2) (J (Eq.refl false) (J (aKind_ok c.c.Op) (J (show (((aKind c.c.Op) : Int) == 2) = false from by rw [hk]; rfl) trivial)))))))))) (by kernel_rfl)

/-- (*kotatsu/core.Core).rest -/
def c_rest_c2 (c : Core) : Unit :=
  ()
theorem c_rest_c2_ok (c : Core) (hm : c.c.Mode = 2) (hk : aKind c.c.Op = 2) : FnSpec Tryz.prog 59 1001 [.pointer (some ⟨1000, 0, none⟩)] [(1000, Core.blk c)] (cycV ([(87, 98), (99, 100), (99, 43)])) [(1000, Core.blk c)] := by
  exact fn_of_x hG hM Tryz.func59 (by kernel_rfl) (by kernel_rfl) 400 [.call [] [] 1000 (.int .u8 (aKind c.c.Op)) [], .no, .no, .no, .eq 26 (.int .u8 2), .no, .eq 35 (.int .u8 2), .no, .call [] [] 1000 (.int .u8 (aKind c.c.Op)) [], .yes, .born] (J (aKind_ok c.c.Op) (J (show (((aKind c.c.Op) : Int) == 3) = false from by rw [hk]; rfl) (J (show (((aKind c.c.Op) : Int) == 5) = false from by rw [hk]; rfl) (J (show (((aKind c.c.Op) : Int) == 6) = false from by rw [hk]; rfl) (J (congrArg (Value.int .u8) hm : Value.int .u8 c.c.Mode = Value.int .u8 2) (J (Eq.refl false) (J (congrArg (Value.int .u8) hm : Value.int .u8 c.c.Mode = Value.int .u8 2) (J (Eq.refl false) (J (aKind_ok c.c.Op) (J (show (((aKind c.c.Op) : Int) == 2) = true from by rw [hk]; rfl) trivial)))))))))) (by kernel_rfl)

/-- (*kotatsu/core.Core).rest -/
def c_rest_r3 (c : Core) : Unit :=
  ()
theorem c_rest_r3_ok (c : Core) (hm : c.c.Mode = 3) (hk : aKind c.c.Op = 1) : FnSpec Tryz.prog 59 1001 [.pointer (some ⟨1000, 0, none⟩)] [(1000, Core.blk c)] (cycV ([(87, 101)])) [(1000, Core.blk c)] := by
  exact fn_of_x hG hM Tryz.func59 (by kernel_rfl) (by kernel_rfl) 400 [.call [] [] 1000 (.int .u8 (aKind c.c.Op)) [], .no, .no, .no, .eq 26 (.int .u8 3), .no, .eq 35 (.int .u8 3), .no, .call [] [] 1000 (.int .u8 (aKind c.c.Op)) [], .no, .born] (J (aKind_ok c.c.Op) (J (show (((aKind c.c.Op) : Int) == 3) = false from by rw [hk]; rfl) (J (show (((aKind c.c.Op) : Int) == 5) = false from by rw [hk]; rfl) (J (show (((aKind c.c.Op) : Int) == 6) = false from by rw [hk]; rfl) (J (congrArg (Value.int .u8) hm : Value.int .u8 c.c.Mode = Value.int .u8 3) (J (Eq.refl false) (J (congrArg (Value.int .u8) hm : Value.int .u8 c.c.Mode = Value.int .u8 3) (J (Eq.refl false) (J (aKind_ok c.c.Op) (J (show (((aKind c.c.Op) : Int) == 2) = false from by rw [hk]; rfl) trivial)))))))))) (by kernel_rfl)

/-- (*kotatsu/core.Core).rest -/
def c_rest_c3 (c : Core) : Unit :=
  ()
theorem c_rest_c3_ok (c : Core) (hm : c.c.Mode = 3) (hk : aKind c.c.Op = 2) : FnSpec Tryz.prog 59 1001 [.pointer (some ⟨1000, 0, none⟩)] [(1000, Core.blk c)] (cycV ([(87, 98), (99, 100), (99, 43)])) [(1000, Core.blk c)] := by
  exact fn_of_x hG hM Tryz.func59 (by kernel_rfl) (by kernel_rfl) 400 [.call [] [] 1000 (.int .u8 (aKind c.c.Op)) [], .no, .no, .no, .eq 26 (.int .u8 3), .no, .eq 35 (.int .u8 3), .no, .call [] [] 1000 (.int .u8 (aKind c.c.Op)) [], .yes, .born] (J (aKind_ok c.c.Op) (J (show (((aKind c.c.Op) : Int) == 3) = false from by rw [hk]; rfl) (J (show (((aKind c.c.Op) : Int) == 5) = false from by rw [hk]; rfl) (J (show (((aKind c.c.Op) : Int) == 6) = false from by rw [hk]; rfl) (J (congrArg (Value.int .u8) hm : Value.int .u8 c.c.Mode = Value.int .u8 3) (J (Eq.refl false) (J (congrArg (Value.int .u8) hm : Value.int .u8 c.c.Mode = Value.int .u8 3) (J (Eq.refl false) (J (aKind_ok c.c.Op) (J (show (((aKind c.c.Op) : Int) == 2) = true from by rw [hk]; rfl) trivial)))))))))) (by kernel_rfl)

/-- (*kotatsu/core.Core).rest -/
def c_rest_r4 (c : Core) : Unit :=
  ()
theorem c_rest_r4_ok (c : Core) (hm : c.c.Mode = 4) (hk : aKind c.c.Op = 1) : FnSpec Tryz.prog 59 1001 [.pointer (some ⟨1000, 0, none⟩)] [(1000, Core.blk c)] (cycV ([(87, 101)])) [(1000, Core.blk c)] := by
  exact fn_of_x hG hM Tryz.func59 (by kernel_rfl) (by kernel_rfl) 400 [.call [] [] 1000 (.int .u8 (aKind c.c.Op)) [], .no, .no, .no, .eq 26 (.int .u8 4), .no, .eq 35 (.int .u8 4), .no, .call [] [] 1000 (.int .u8 (aKind c.c.Op)) [], .no, .born] (J (aKind_ok c.c.Op) (J (show (((aKind c.c.Op) : Int) == 3) = false from by rw [hk]; rfl) (J (show (((aKind c.c.Op) : Int) == 5) = false from by rw [hk]; rfl) (J (show (((aKind c.c.Op) : Int) == 6) = false from by rw [hk]; rfl) (J (congrArg (Value.int .u8) hm : Value.int .u8 c.c.Mode = Value.int .u8 4) (J (Eq.refl false) (J (congrArg (Value.int .u8) hm : Value.int .u8 c.c.Mode = Value.int .u8 4) (J (Eq.refl false) (J (aKind_ok c.c.Op) (J (show (((aKind c.c.Op) : Int) == 2) = false from by rw [hk]; rfl) trivial)))))))))) (by kernel_rfl)

/-- (*kotatsu/core.Core).rest -/
def c_rest_c4 (c : Core) : Unit :=
  ()
theorem c_rest_c4_ok (c : Core) (hm : c.c.Mode = 4) (hk : aKind c.c.Op = 2) : FnSpec Tryz.prog 59 1001 [.pointer (some ⟨1000, 0, none⟩)] [(1000, Core.blk c)] (cycV ([(87, 98), (99, 100), (99, 43)])) [(1000, Core.blk c)] := by
  exact fn_of_x hG hM Tryz.func59 (by kernel_rfl) (by kernel_rfl) 400 [.call [] [] 1000 (.int .u8 (aKind c.c.Op)) [], .no, .no, .no, .eq 26 (.int .u8 4), .no, .eq 35 (.int .u8 4), .no, .call [] [] 1000 (.int .u8 (aKind c.c.Op)) [], .yes, .born] (J (aKind_ok c.c.Op) (J (show (((aKind c.c.Op) : Int) == 3) = false from by rw [hk]; rfl) (J (show (((aKind c.c.Op) : Int) == 5) = false from by rw [hk]; rfl) (J (show (((aKind c.c.Op) : Int) == 6) = false from by rw [hk]; rfl) (J (congrArg (Value.int .u8) hm : Value.int .u8 c.c.Mode = Value.int .u8 4) (J (Eq.refl false) (J (congrArg (Value.int .u8) hm : Value.int .u8 c.c.Mode = Value.int .u8 4) (J (Eq.refl false) (J (aKind_ok c.c.Op) (J (show (((aKind c.c.Op) : Int) == 2) = true from by rw [hk]; rfl) trivial)))))))))) (by kernel_rfl)

/-- (*kotatsu/core.Core).rest -/
def c_rest_r5 (c : Core) : Unit :=
  ()
theorem c_rest_r5_ok (c : Core) (hm : c.c.Mode = 5) (hk : aKind c.c.Op = 1) : FnSpec Tryz.prog 59 1001 [.pointer (some ⟨1000, 0, none⟩)] [(1000, Core.blk c)] (cycV ([(87, 101)])) [(1000, Core.blk c)] := by
  exact fn_of_x hG hM Tryz.func59 (by kernel_rfl) (by kernel_rfl) 400 [.call [] [] 1000 (.int .u8 (aKind c.c.Op)) [], .no, .no, .no, .eq 26 (.int .u8 5), .no, .eq 35 (.int .u8 5), .no, .call [] [] 1000 (.int .u8 (aKind c.c.Op)) [], .no, .born] (J (aKind_ok c.c.Op) (J (show (((aKind c.c.Op) : Int) == 3) = false from by rw [hk]; rfl) (J (show (((aKind c.c.Op) : Int) == 5) = false from by rw [hk]; rfl) (J (show (((aKind c.c.Op) : Int) == 6) = false from by rw [hk]; rfl) (J (congrArg (Value.int .u8) hm : Value.int .u8 c.c.Mode = Value.int .u8 5) (J (Eq.refl false) (J (congrArg (Value.int .u8) hm : Value.int .u8 c.c.Mode = Value.int .u8 5) (J (Eq.refl false) (J (aKind_ok c.c.Op) (J (show (((aKind c.c.Op) : Int) == 2) = false from by rw [hk]; rfl) trivial)))))))))) (by kernel_rfl)

/-- (*kotatsu/core.Core).rest -/
def c_rest_c5 (c : Core) : Unit :=
  ()
theorem c_rest_c5_ok (c : Core) (hm : c.c.Mode = 5) (hk : aKind c.c.Op = 2) : FnSpec Tryz.prog 59 1001 [.pointer (some ⟨1000, 0, none⟩)] [(1000, Core.blk c)] (cycV ([(87, 98), (99, 100), (99, 43)])) [(1000, Core.blk c)] := by
  exact fn_of_x hG hM Tryz.func59 (by kernel_rfl) (by kernel_rfl) 400 [.call [] [] 1000 (.int .u8 (aKind c.c.Op)) [], .no, .no, .no, .eq 26 (.int .u8 5), .no, .eq 35 (.int .u8 5), .no, .call [] [] 1000 (.int .u8 (aKind c.c.Op)) [], .yes, .born] (J (aKind_ok c.c.Op) (J (show (((aKind c.c.Op) : Int) == 3) = false from by rw [hk]; rfl) (J (show (((aKind c.c.Op) : Int) == 5) = false from by rw [hk]; rfl) (J (show (((aKind c.c.Op) : Int) == 6) = false from by rw [hk]; rfl) (J (congrArg (Value.int .u8) hm : Value.int .u8 c.c.Mode = Value.int .u8 5) (J (Eq.refl false) (J (congrArg (Value.int .u8) hm : Value.int .u8 c.c.Mode = Value.int .u8 5) (J (Eq.refl false) (J (aKind_ok c.c.Op) (J (show (((aKind c.c.Op) : Int) == 2) = true from by rw [hk]; rfl) trivial)))))))))) (by kernel_rfl)

/-- (*kotatsu/core.Core).rest -/
def c_rest_r6 (c : Core) : Unit :=
  ()
theorem c_rest_r6_ok (c : Core) (hm : c.c.Mode = 6) (hk : aKind c.c.Op = 1) : FnSpec Tryz.prog 59 1001 [.pointer (some ⟨1000, 0, none⟩)] [(1000, Core.blk c)] (cycV ([(87, 101)])) [(1000, Core.blk c)] := by
  exact fn_of_x hG hM Tryz.func59 (by kernel_rfl) (by kernel_rfl) 400 [.call [] [] 1000 (.int .u8 (aKind c.c.Op)) [], .no, .no, .no, .eq 26 (.int .u8 6), .no, .eq 35 (.int .u8 6), .no, .call [] [] 1000 (.int .u8 (aKind c.c.Op)) [], .no, .born] (J (aKind_ok c.c.Op) (J (show (((aKind c.c.Op) : Int) == 3) = false from by rw [hk]; rfl) (J (show (((aKind c.c.Op) : Int) == 5) = false from by rw [hk]; rfl) (J (show (((aKind c.c.Op) : Int) == 6) = false from by rw [hk]; rfl) (J (congrArg (Value.int .u8) hm : Value.int .u8 c.c.Mode = Value.int .u8 6) (J (Eq.refl false) (J (congrArg (Value.int .u8) hm : Value.int .u8 c.c.Mode = Value.int .u8 6) (J (Eq.refl false) (J (aKind_ok c.c.Op) (J (show (((aKind c.c.Op) : Int) == 2) = false from by rw [hk]; rfl) trivial)))))))))) (by kernel_rfl)

/-- (*kotatsu/core.Core).rest -/
def c_rest_c6 (c : Core) : Unit :=
  ()
theorem c_rest_c6_ok (c : Core) (hm : c.c.Mode = 6) (hk : aKind c.c.Op = 2) : FnSpec Tryz.prog 59 1001 [.pointer (some ⟨1000, 0, none⟩)] [(1000, Core.blk c)] (cycV ([(87, 98), (99, 100), (99, 43)])) [(1000, Core.blk c)] := by
  exact fn_of_x hG hM Tryz.func59 (by kernel_rfl) (by kernel_rfl) 400 [.call [] [] 1000 (.int .u8 (aKind c.c.Op)) [], .no, .no, .no, .eq 26 (.int .u8 6), .no, .eq 35 (.int .u8 6), .no, .call [] [] 1000 (.int .u8 (aKind c.c.Op)) [], .yes, .born] (J (aKind_ok c.c.Op) (J (show (((aKind c.c.Op) : Int) == 3) = false from by rw [hk]; rfl) (J (show (((aKind c.c.Op) : Int) == 5) = false from by rw [hk]; rfl) (J (show (((aKind c.c.Op) : Int) == 6) = false from by rw [hk]; rfl) (J (congrArg (Value.int .u8) hm : Value.int .u8 c.c.Mode = Value.int .u8 6) (J (Eq.refl false) (J (congrArg (Value.int .u8) hm : Value.int .u8 c.c.Mode = Value.int .u8 6) (J (Eq.refl false) (J (aKind_ok c.c.Op) (J (show (((aKind c.c.Op) : Int) == 2) = true from by rw [hk]; rfl) trivial)))))))))) (by kernel_rfl)

/-- (*kotatsu/core.Core).rest -/
def c_rest_r7 (c : Core) : Unit :=
  ()
theorem c_rest_r7_ok (c : Core) (hm : c.c.Mode = 7) (hk : aKind c.c.Op = 1) : FnSpec Tryz.prog 59 1001 [.pointer (some ⟨1000, 0, none⟩)] [(1000, Core.blk c)] (cycV ([(87, 101)])) [(1000, Core.blk c)] := by
  exact fn_of_x hG hM Tryz.func59 (by kernel_rfl) (by kernel_rfl) 400 [.call [] [] 1000 (.int .u8 (aKind c.c.Op)) [], .no, .no, .no, .eq 26 (.int .u8 7), .no, .eq 35 (.int .u8 7), .no, .call [] [] 1000 (.int .u8 (aKind c.c.Op)) [], .no, .born] (J (aKind_ok c.c.Op) (J (show (((aKind c.c.Op) : Int) == 3) = false from by rw [hk]; rfl) (J (show (((aKind c.c.Op) : Int) == 5) = false from by rw [hk]; rfl) (J (show (((aKind c.c.Op) : Int) == 6) = false from by rw [hk]; rfl) (J (congrArg (Value.int .u8) hm : Value.int .u8 c.c.Mode = Value.int .u8 7) (J (Eq.refl false) (J (congrArg (Value.int .u8) hm : Value.int .u8 c.c.Mode = Value.int .u8 7) (J (Eq.refl false) (J (aKind_ok c.c.Op) (J (show (((aKind c.c.Op) : Int) == 2) = false from by rw [hk]; rfl) trivial)))))))))) (by kernel_rfl)

/-- (*kotatsu/core.Core).rest -/
def c_rest_c7 (c : Core) : Unit :=
  ()
theorem c_rest_c7_ok (c : Core) (hm : c.c.Mode = 7) (hk : aKind c.c.Op = 2) : FnSpec Tryz.prog 59 1001 [.pointer (some ⟨1000, 0, none⟩)] [(1000, Core.blk c)] (cycV ([(87, 98), (99, 100), (99, 43)])) [(1000, Core.blk c)] := by
  exact fn_of_x hG hM Tryz.func59 (by kernel_rfl) (by kernel_rfl) 400 [.call [] [] 1000 (.int .u8 (aKind c.c.Op)) [], .no, .no, .no, .eq 26 (.int .u8 7), .no, .eq 35 (.int .u8 7), .no, .call [] [] 1000 (.int .u8 (aKind c.c.Op)) [], .yes, .born] (J (aKind_ok c.c.Op) (J (show (((aKind c.c.Op) : Int) == 3) = false from by rw [hk]; rfl) (J (show (((aKind c.c.Op) : Int) == 5) = false from by rw [hk]; rfl) (J (show (((aKind c.c.Op) : Int) == 6) = false from by rw [hk]; rfl) (J (congrArg (Value.int .u8) hm : Value.int .u8 c.c.Mode = Value.int .u8 7) (J (Eq.refl false) (J (congrArg (Value.int .u8) hm : Value.int .u8 c.c.Mode = Value.int .u8 7) (J (Eq.refl false) (J (aKind_ok c.c.Op) (J (show (((aKind c.c.Op) : Int) == 2) = true from by rw [hk]; rfl) trivial)))))))))) (by kernel_rfl)

/-- (*kotatsu/core.Core).rest -/
def c_rest_r8 (c : Core) : Unit :=
  ()
theorem c_rest_r8_ok (c : Core) (hm : c.c.Mode = 8) (hk : aKind c.c.Op = 1) : FnSpec Tryz.prog 59 1001 [.pointer (some ⟨1000, 0, none⟩)] [(1000, Core.blk c)] (cycV ([(87, 101)])) [(1000, Core.blk c)] := by
  exact fn_of_x hG hM Tryz.func59 (by kernel_rfl) (by kernel_rfl) 400 [.call [] [] 1000 (.int .u8 (aKind c.c.Op)) [], .no, .no, .no, .eq 26 (.int .u8 8), .no, .eq 35 (.int .u8 8), .no, .call [] [] 1000 (.int .u8 (aKind c.c.Op)) [], .no, .born] (J (aKind_ok c.c.Op) (J (show (((aKind c.c.Op) : Int) == 3) = false from by rw [hk]; rfl) (J (show (((aKind c.c.Op) : Int) == 5) = false from by rw [hk]; rfl) (J (show (((aKind c.c.Op) : Int) == 6) = false from by rw [hk]; rfl) (J (congrArg (Value.int .u8) hm : Value.int .u8 c.c.Mode = Value.int .u8 8) (J (Eq.refl false) (J (congrArg (Value.int .u8) hm : Value.int .u8 c.c.Mode = Value.int .u8 8) (J (Eq.refl false) (J (aKind_ok c.c.Op) (J (show (((aKind c.c.Op) : Int) == 2) = false from by rw [hk]; rfl) trivial)))))))))) (by kernel_rfl)

/-- (*kotatsu/core.Core).rest -/
def c_rest_c8 (c : Core) : Unit :=
  ()
theorem c_rest_c8_ok (c : Core) (hm : c.c.Mode = 8) (hk : aKind c.c.Op = 2) : FnSpec Tryz.prog 59 1001 [.pointer (some ⟨1000, 0, none⟩)] [(1000, Core.blk c)] (cycV ([(87, 98), (99, 100), (99, 43)])) [(1000, Core.blk c)] := by
  exact fn_of_x hG hM Tryz.func59 (by kernel_rfl) (by kernel_rfl) 400 [.call [] [] 1000 (.int .u8 (aKind c.c.Op)) [], .no, .no, .no, .eq 26 (.int .u8 8), .no, .eq 35 (.int .u8 8), .no, .call [] [] 1000 (.int .u8 (aKind c.c.Op)) [], .yes, .born] (J (aKind_ok c.c.Op) (J (show (((aKind c.c.Op) : Int) == 3) = false from by rw [hk]; rfl) (J (show (((aKind c.c.Op) : Int) == 5) = false from by rw [hk]; rfl) (J (show (((aKind c.c.Op) : Int) == 6) = false from by rw [hk]; rfl) (J (congrArg (Value.int .u8) hm : Value.int .u8 c.c.Mode = Value.int .u8 8) (J (Eq.refl false) (J (congrArg (Value.int .u8) hm : Value.int .u8 c.c.Mode = Value.int .u8 8) (J (Eq.refl false) (J (aKind_ok c.c.Op) (J (show (((aKind c.c.Op) : Int) == 2) = true from by rw [hk]; rfl) trivial)))))))))) (by kernel_rfl)

/-- (*kotatsu/core.Core).rest -/
def c_rest_r9 (c : Core) : Unit :=
  ()
theorem c_rest_r9_ok (c : Core) (hm : c.c.Mode = 9) (hk : aKind c.c.Op = 1) : FnSpec Tryz.prog 59 1001 [.pointer (some ⟨1000, 0, none⟩)] [(1000, Core.blk c)] (cycV ([(87, 101)])) [(1000, Core.blk c)] := by
  exact fn_of_x hG hM Tryz.func59 (by kernel_rfl) (by kernel_rfl) 400 [.call [] [] 1000 (.int .u8 (aKind c.c.Op)) [], .no, .no, .no, .eq 26 (.int .u8 9), .no, .eq 35 (.int .u8 9), .no, .call [] [] 1000 (.int .u8 (aKind c.c.Op)) [], .no, .born] (J (aKind_ok c.c.Op) (J (show (((aKind c.c.Op) : Int) == 3) = false from by rw [hk]; rfl) (J (show (((aKind c.c.Op) : Int) == 5) = false from by rw [hk]; rfl) (J (show (((aKind c.c.Op) : Int) == 6) = false from by rw [hk]; rfl) (J (congrArg (Value.int .u8) hm : Value.int .u8 c.c.Mode = Value.int .u8 9) (J (Eq.refl false) (J (congrArg (Value.int .u8) hm : Value.int .u8 c.c.Mode = Value.int .u8 9) (J (Eq.refl false) (J (aKind_ok c.c.Op) (J (show (((aKind c.c.Op) : Int) == 2) = false from by rw [hk]; rfl) trivial)))))))))) (by kernel_rfl)

/-- (*kotatsu/core.Core).rest -/
def c_rest_c9 (c : Core) : Unit :=
  ()
theorem c_rest_c9_ok (c : Core) (hm : c.c.Mode = 9) (hk : aKind c.c.Op = 2) : FnSpec Tryz.prog 59 1001 [.pointer (some ⟨1000, 0, none⟩)] [(1000, Core.blk c)] (cycV ([(87, 98), (99, 100), (99, 43)])) [(1000, Core.blk c)] := by
  exact fn_of_x hG hM Tryz.func59 (by kernel_rfl) (by kernel_rfl) 400 [.call [] [] 1000 (.int .u8 (aKind c.c.Op)) [], .no, .no, .no, .eq 26 (.int .u8 9), .no, .eq 35 (.int .u8 9), .no, .call [] [] 1000 (.int .u8 (aKind c.c.Op)) [], .yes, .born] (J (aKind_ok c.c.Op) (J (show (((aKind c.c.Op) : Int) == 3) = false from by rw [hk]; rfl) (J (show (((aKind c.c.Op) : Int) == 5) = false from by rw [hk]; rfl) (J (show (((aKind c.c.Op) : Int) == 6) = false from by rw [hk]; rfl) (J (congrArg (Value.int .u8) hm : Value.int .u8 c.c.Mode = Value.int .u8 9) (J (Eq.refl false) (J (congrArg (Value.int .u8) hm : Value.int .u8 c.c.Mode = Value.int .u8 9) (J (Eq.refl false) (J (aKind_ok c.c.Op) (J (show (((aKind c.c.Op) : Int) == 2) = true from by rw [hk]; rfl) trivial)))))))))) (by kernel_rfl)

/-- (*kotatsu/core.Core).rest -/
def c_rest_60 (c : Core) : Unit :=
  ()
theorem c_rest_60_ok (c : Core) (ho : c.c.Op = 60) (hm : c.c.Mode = 5) (hk : aKind c.c.Op = 6) : FnSpec Tryz.prog 59 1001 [.pointer (some ⟨1000, 0, none⟩)] [(1000, Core.blk c)] (cycV ([(38, 88), (38, 60)])) [(1000, Core.blk c)] := by
  exact fn_of_x hG hM Tryz.func59 (by kernel_rfl) (by kernel_rfl) 400 [.call [] [] 1000 (.int .u8 (aKind c.c.Op)) [], .no, .no, .yes, .call [(1000, 1000)] [] 1001 (cycV ([(38, 88), (38, 60)])) [(1000, Core.blk c)]] (J (aKind_ok c.c.Op) (J (show (((aKind c.c.Op) : Int) == 3) = false from by rw [hk]; rfl) (J (show (((aKind c.c.Op) : Int) == 5) = false from by rw [hk]; rfl) (J (show (((aKind c.c.Op) : Int) == 6) = true from by rw [hk]; rfl) (J (c_flow_60_ok c ho hm) trivial))))) (by kernel_rfl)

/-- (*kotatsu/core.Core).rest -/
def c_rest_60i (c : Core) : Unit :=
  ()
theorem c_rest_60i_ok (c : Core) (ho : c.c.Op = 60) (hm : c.c.Mode = 11) (hk : aKind c.c.Op = 6) : FnSpec Tryz.prog 59 1001 [.pointer (some ⟨1000, 0, none⟩)] [(1000, Core.blk c)] (cycV ([(38, 88), (38, 89), (87, 90), (87, 60)])) [(1000, Core.blk c)] := by
  exact fn_of_x hG hM Tryz.func59 (by kernel_rfl) (by kernel_rfl) 400 [.call [] [] 1000 (.int .u8 (aKind c.c.Op)) [], .no, .no, .yes, .call [(1000, 1000)] [] 1001 (cycV ([(38, 88), (38, 89), (87, 90), (87, 60)])) [(1000, Core.blk c)]] (J (aKind_ok c.c.Op) (J (show (((aKind c.c.Op) : Int) == 3) = false from by rw [hk]; rfl) (J (show (((aKind c.c.Op) : Int) == 5) = false from by rw [hk]; rfl) (J (show (((aKind c.c.Op) : Int) == 6) = true from by rw [hk]; rfl) (J (c_flow_60i_ok c ho hm) trivial))))) (by kernel_rfl)

/-- (*kotatsu/core.Core).rest -/
def c_rest_61 (c : Core) : Unit :=
  ()
theorem c_rest_61_ok (c : Core) (ho : c.c.Op = 61) (hk : aKind c.c.Op = 6) : FnSpec Tryz.prog 59 1001 [.pointer (some ⟨1000, 0, none⟩)] [(1000, Core.blk c)] (cycV ([(38, 88), (44, 43), (77, 45), (78, 45), (38, 60)])) [(1000, Core.blk c)] := by
  exact fn_of_x hG hM Tryz.func59 (by kernel_rfl) (by kernel_rfl) 400 [.call [] [] 1000 (.int .u8 (aKind c.c.Op)) [], .no, .no, .yes, .call [(1000, 1000)] [] 1001 (cycV ([(38, 88), (44, 43), (77, 45), (78, 45), (38, 60)])) [(1000, Core.blk c)]] (J (aKind_ok c.c.Op) (J (show (((aKind c.c.Op) : Int) == 3) = false from by rw [hk]; rfl) (J (show (((aKind c.c.Op) : Int) == 5) = false from by rw [hk]; rfl) (J (show (((aKind c.c.Op) : Int) == 6) = true from by rw [hk]; rfl) (J (c_flow_61_ok c ho) trivial))))) (by kernel_rfl)

/-- (*kotatsu/core.Core).rest -/
def c_rest_62 (c : Core) : Unit :=
  ()
theorem c_rest_62_ok (c : Core) (ho : c.c.Op = 62) (hk : aKind c.c.Op = 6) : FnSpec Tryz.prog 59 1001 [.pointer (some ⟨1000, 0, none⟩)] [(1000, Core.blk c)] (cycV ([(38, 43), (44, 120), (44, 121), (44, 60), (38, 122)])) [(1000, Core.blk c)] := by
  exact fn_of_x hG hM Tryz.func59 (by kernel_rfl) (by kernel_rfl) 400 [.call [] [] 1000 (.int .u8 (aKind c.c.Op)) [], .no, .no, .yes, .call [(1000, 1000)] [] 1001 (cycV ([(38, 43), (44, 120), (44, 121), (44, 60), (38, 122)])) [(1000, Core.blk c)]] (J (aKind_ok c.c.Op) (J (show (((aKind c.c.Op) : Int) == 3) = false from by rw [hk]; rfl) (J (show (((aKind c.c.Op) : Int) == 5) = false from by rw [hk]; rfl) (J (show (((aKind c.c.Op) : Int) == 6) = true from by rw [hk]; rfl) (J (c_flow_62_ok c ho) trivial))))) (by kernel_rfl)

/-- (*kotatsu/core.Core).rest -/
def c_rest_63 (c : Core) : Unit :=
  ()
theorem c_rest_63_ok (c : Core) (ho : c.c.Op = 63) (hk : aKind c.c.Op = 6) : FnSpec Tryz.prog 59 1001 [.pointer (some ⟨1000, 0, none⟩)] [(1000, Core.blk c)] (cycV ([(38, 43), (44, 120), (44, 123), (44, 121), (44, 60)])) [(1000, Core.blk c)] := by
  exact fn_of_x hG hM Tryz.func59 (by kernel_rfl) (by kernel_rfl) 400 [.call [] [] 1000 (.int .u8 (aKind c.c.Op)) [], .no, .no, .yes, .call [(1000, 1000)] [] 1001 (cycV ([(38, 43), (44, 120), (44, 123), (44, 121), (44, 60)])) [(1000, Core.blk c)]] (J (aKind_ok c.c.Op) (J (show (((aKind c.c.Op) : Int) == 3) = false from by rw [hk]; rfl) (J (show (((aKind c.c.Op) : Int) == 5) = false from by rw [hk]; rfl) (J (show (((aKind c.c.Op) : Int) == 6) = true from by rw [hk]; rfl) (J (c_flow_63_ok c ho) trivial))))) (by kernel_rfl)

/-- (*kotatsu/core.Core).rest -/
def c_rest_64 (c : Core) : Core :=
  (c_flow_64 c)
theorem c_rest_64_ok (c : Core) (ho : c.c.Op = 64) (hk : aKind c.c.Op = 6) : FnSpec Tryz.prog 59 1001 [.pointer (some ⟨1000, 0, none⟩)] [(1000, Core.blk c)] (cycV ([(38, 122), (77, 45), (78, 45), (125, 45), (46, 47), (46, 48)])) [(1000, Core.blk (c_rest_64 c))] := by
  unfold c_rest_64
  exact fn_of_x hG hM Tryz.func59 (by kernel_rfl) (by kernel_rfl) 400 [.call [] [] 1000 (.int .u8 (aKind c.c.Op)) [], .no, .no, .yes, .call [(1000, 1000)] [] 1001 (cycV ([(38, 122), (77, 45), (78, 45), (125, 45), (46, 47), (46, 48)])) [(1000, Core.blk (c_flow_64 c))]] (J (aKind_ok c.c.Op) (J (show (((aKind c.c.Op) : Int) == 3) = false from by rw [hk]; rfl) (J (show (((aKind c.c.Op) : Int) == 5) = false from by rw [hk]; rfl) (J (show (((aKind c.c.Op) : Int) == 6) = true from by rw [hk]; rfl) (J (c_flow_64_ok c ho) trivial))))) (by kernel_rfl)

theorem c_rest_64_w (c : Core) (w_c : Core.ok c) (ho : c.c.Op = 64) (hk : aKind c.c.Op = 6) : Core.ok (c_rest_64 c) := by
  unfold c_rest_64
  exact (c_flow_64_w c w_c ho)

/-- (*kotatsu/core.Core).rest -/
def c_rest_65 (c : Core) : Unit :=
  ()
theorem c_rest_65_ok (c : Core) (ho : c.c.Op = 65) (hk : aKind c.c.Op = 6) : FnSpec Tryz.prog 59 1001 [.pointer (some ⟨1000, 0, none⟩)] [(1000, Core.blk c)] (cycV ([(38, 43), (124, 45)])) [(1000, Core.blk c)] := by
  exact fn_of_x hG hM Tryz.func59 (by kernel_rfl) (by kernel_rfl) 400 [.call [] [] 1000 (.int .u8 (aKind c.c.Op)) [], .no, .no, .yes, .call [(1000, 1000)] [] 1001 (cycV ([(38, 43), (124, 45)])) [(1000, Core.blk c)]] (J (aKind_ok c.c.Op) (J (show (((aKind c.c.Op) : Int) == 3) = false from by rw [hk]; rfl) (J (show (((aKind c.c.Op) : Int) == 5) = false from by rw [hk]; rfl) (J (show (((aKind c.c.Op) : Int) == 6) = true from by rw [hk]; rfl) (J (c_flow_65_ok c ho) trivial))))) (by kernel_rfl)

/-- (*kotatsu/core.Core).rest -/
def c_rest_66 (c : Core) : Unit :=
  ()
theorem c_rest_66_ok (c : Core) (ho : c.c.Op = 66) (hk : aKind c.c.Op = 6) : FnSpec Tryz.prog 59 1001 [.pointer (some ⟨1000, 0, none⟩)] [(1000, Core.blk c)] (cycV ([(38, 43), (125, 45)])) [(1000, Core.blk c)] := by
  exact fn_of_x hG hM Tryz.func59 (by kernel_rfl) (by kernel_rfl) 400 [.call [] [] 1000 (.int .u8 (aKind c.c.Op)) [], .no, .no, .yes, .call [(1000, 1000)] [] 1001 (cycV ([(38, 43), (125, 45)])) [(1000, Core.blk c)]] (J (aKind_ok c.c.Op) (J (show (((aKind c.c.Op) : Int) == 3) = false from by rw [hk]; rfl) (J (show (((aKind c.c.Op) : Int) == 5) = false from by rw [hk]; rfl) (J (show (((aKind c.c.Op) : Int) == 6) = true from by rw [hk]; rfl) (J (c_flow_66_ok c ho) trivial))))) (by kernel_rfl)

/-- (*kotatsu/core.Core).rest -/
def c_rest_67 (c : Core) : Unit :=
  ()
theorem c_rest_67_ok (c : Core) (ho : c.c.Op = 67) (hk : aKind c.c.Op = 6) : FnSpec Tryz.prog 59 1001 [.pointer (some ⟨1000, 0, none⟩)] [(1000, Core.blk c)] (cycV ([(38, 43), (44, 120), (44, 126)])) [(1000, Core.blk c)] := by
  exact fn_of_x hG hM Tryz.func59 (by kernel_rfl) (by kernel_rfl) 400 [.call [] [] 1000 (.int .u8 (aKind c.c.Op)) [], .no, .no, .yes, .call [(1000, 1000)] [] 1001 (cycV ([(38, 43), (44, 120), (44, 126)])) [(1000, Core.blk c)]] (J (aKind_ok c.c.Op) (J (show (((aKind c.c.Op) : Int) == 3) = false from by rw [hk]; rfl) (J (show (((aKind c.c.Op) : Int) == 5) = false from by rw [hk]; rfl) (J (show (((aKind c.c.Op) : Int) == 6) = true from by rw [hk]; rfl) (J (c_flow_67_ok c ho) trivial))))) (by kernel_rfl)

/-- (*kotatsu/core.Core).rest -/
def c_rest_68 (c : Core) : Unit :=
  ()
theorem c_rest_68_ok (c : Core) (ho : c.c.Op = 68) (hk : aKind c.c.Op = 6) : FnSpec Tryz.prog 59 1001 [.pointer (some ⟨1000, 0, none⟩)] [(1000, Core.blk c)] (cycV ([(38, 43), (44, 120), (44, 127)])) [(1000, Core.blk c)] := by
  exact fn_of_x hG hM Tryz.func59 (by kernel_rfl) (by kernel_rfl) 400 [.call [] [] 1000 (.int .u8 (aKind c.c.Op)) [], .no, .no, .yes, .call [(1000, 1000)] [] 1001 (cycV ([(38, 43), (44, 120), (44, 127)])) [(1000, Core.blk c)]] (J (aKind_ok c.c.Op) (J (show (((aKind c.c.Op) : Int) == 3) = false from by rw [hk]; rfl) (J (show (((aKind c.c.Op) : Int) == 5) = false from by rw [hk]; rfl) (J (show (((aKind c.c.Op) : Int) == 6) = true from by rw [hk]; rfl) (J (c_flow_68_ok c ho) trivial))))) (by kernel_rfl)

/-- (*kotatsu/core.Core).rest -/
def c_rest_69 (c : Core) : Core :=
  (c_flow_69 c)
theorem c_rest_69_ok (c : Core) (ho : c.c.Op = 69) (hk : aKind c.c.Op = 6) : FnSpec Tryz.prog 59 1001 [.pointer (some ⟨1000, 0, none⟩)] [(1000, Core.blk c)] (cycV ([(128, 129)])) [(1000, Core.blk (c_rest_69 c))] := by
  unfold c_rest_69
  exact fn_of_x hG hM Tryz.func59 (by kernel_rfl) (by kernel_rfl) 400 [.call [] [] 1000 (.int .u8 (aKind c.c.Op)) [], .no, .no, .yes, .call [(1000, 1000)] [] 1001 (cycV ([(128, 129)])) [(1000, Core.blk (c_flow_69 c))]] (J (aKind_ok c.c.Op) (J (show (((aKind c.c.Op) : Int) == 3) = false from by rw [hk]; rfl) (J (show (((aKind c.c.Op) : Int) == 5) = false from by rw [hk]; rfl) (J (show (((aKind c.c.Op) : Int) == 6) = true from by rw [hk]; rfl) (J (c_flow_69_ok c ho) trivial))))) (by kernel_rfl)

theorem c_rest_69_w (c : Core) (w_c : Core.ok c) (ho : c.c.Op = 69) (hk : aKind c.c.Op = 6) : Core.ok (c_rest_69 c) := by
  unfold c_rest_69
  exact (c_flow_69_w c w_c ho)

end Go.Proofs.YtmnhmplcpijanaaGreat
