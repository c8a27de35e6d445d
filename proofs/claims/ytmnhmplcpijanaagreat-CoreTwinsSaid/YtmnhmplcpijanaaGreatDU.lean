/-
  CoreTwins: another core of the same cycles. Written by gen_clone.py. No condition.
-/
import Derived.Test.YtmnhmplcpijanaaGreatCO
namespace Go.Proofs.YtmnhmplcpijanaaGreat
open Go VX
set_option linter.unusedVariables false
set_option linter.unusedSimpArgs false
set_option maxRecDepth 100000

theorem clone_1 (w1 d1 : Nat) : FnSpec Tryz.prog 51 1000 [cycV [(w1, d1)]] [] (.slice (some ⟨1000, 0, none⟩) 1 2) [(1000, ⟨[.one (.func (.func w1) ⟨[]⟩ ⟨[]⟩), .one (.func (.func d1) ⟨[]⟩ ⟨[]⟩)], 85, false⟩)] := by
  exact fn_of_x hG hM Tryz.func51 (by kernel_rfl) (by kernel_rfl) 400 [.no, .born] (J (Eq.refl true) (J (Eq.refl false) (J (Eq.refl true) (J (by decide : 1 ≤ 1048576) (J (Eq.refl true) trivial))))) (by kernel_rfl)
theorem clone_2 (w1 d1 w2 d2 : Nat) : FnSpec Tryz.prog 51 1000 [cycV [(w1, d1), (w2, d2)]] [] (.slice (some ⟨1000, 0, none⟩) 2 2) [(1000, ⟨[.one (.func (.func w1) ⟨[]⟩ ⟨[]⟩), .one (.func (.func d1) ⟨[]⟩ ⟨[]⟩), .one (.func (.func w2) ⟨[]⟩ ⟨[]⟩), .one (.func (.func d2) ⟨[]⟩ ⟨[]⟩)], 85, false⟩)] := by
  exact fn_of_x hG hM Tryz.func51 (by kernel_rfl) (by kernel_rfl) 400 [.no, .born] (J (Eq.refl true) (J (Eq.refl false) (J (Eq.refl true) (J (by decide : 2 ≤ 1048576) (J (Eq.refl true) trivial))))) (by kernel_rfl)
theorem clone_3 (w1 d1 w2 d2 w3 d3 : Nat) : FnSpec Tryz.prog 51 1000 [cycV [(w1, d1), (w2, d2), (w3, d3)]] [] (.slice (some ⟨1000, 0, none⟩) 3 2) [(1000, ⟨[.one (.func (.func w1) ⟨[]⟩ ⟨[]⟩), .one (.func (.func d1) ⟨[]⟩ ⟨[]⟩), .one (.func (.func w2) ⟨[]⟩ ⟨[]⟩), .one (.func (.func d2) ⟨[]⟩ ⟨[]⟩), .one (.func (.func w3) ⟨[]⟩ ⟨[]⟩), .one (.func (.func d3) ⟨[]⟩ ⟨[]⟩)], 85, false⟩)] := by
  exact fn_of_x hG hM Tryz.func51 (by kernel_rfl) (by kernel_rfl) 400 [.no, .born] (J (Eq.refl true) (J (Eq.refl false) (J (Eq.refl true) (J (by decide : 3 ≤ 1048576) (J (Eq.refl true) trivial))))) (by kernel_rfl)
theorem clone_4 (w1 d1 w2 d2 w3 d3 w4 d4 : Nat) : FnSpec Tryz.prog 51 1000 [cycV [(w1, d1), (w2, d2), (w3, d3), (w4, d4)]] [] (.slice (some ⟨1000, 0, none⟩) 4 2) [(1000, ⟨[.one (.func (.func w1) ⟨[]⟩ ⟨[]⟩), .one (.func (.func d1) ⟨[]⟩ ⟨[]⟩), .one (.func (.func w2) ⟨[]⟩ ⟨[]⟩), .one (.func (.func d2) ⟨[]⟩ ⟨[]⟩), .one (.func (.func w3) ⟨[]⟩ ⟨[]⟩), .one (.func (.func d3) ⟨[]⟩ ⟨[]⟩), .one (.func (.func w4) ⟨[]⟩ ⟨[]⟩), .one (.func (.func d4) ⟨[]⟩ ⟨[]⟩)], 85, false⟩)] := by
  exact fn_of_x hG hM Tryz.func51 (by kernel_rfl) (by kernel_rfl) 400 [.no, .born] (J (Eq.refl true) (J (Eq.refl false) (J (Eq.refl true) (J (by decide : 4 ≤ 1048576) (J (Eq.refl true) trivial))))) (by kernel_rfl)
theorem clone_5 (w1 d1 w2 d2 w3 d3 w4 d4 w5 d5 : Nat) : FnSpec Tryz.prog 51 1000 [cycV [(w1, d1), (w2, d2), (w3, d3), (w4, d4), (w5, d5)]] [] (.slice (some ⟨1000, 0, none⟩) 5 2) [(1000, ⟨[.one (.func (.func w1) ⟨[]⟩ ⟨[]⟩), .one (.func (.func d1) ⟨[]⟩ ⟨[]⟩), .one (.func (.func w2) ⟨[]⟩ ⟨[]⟩), .one (.func (.func d2) ⟨[]⟩ ⟨[]⟩), .one (.func (.func w3) ⟨[]⟩ ⟨[]⟩), .one (.func (.func d3) ⟨[]⟩ ⟨[]⟩), .one (.func (.func w4) ⟨[]⟩ ⟨[]⟩), .one (.func (.func d4) ⟨[]⟩ ⟨[]⟩), .one (.func (.func w5) ⟨[]⟩ ⟨[]⟩), .one (.func (.func d5) ⟨[]⟩ ⟨[]⟩)], 85, false⟩)] := by
  exact fn_of_x hG hM Tryz.func51 (by kernel_rfl) (by kernel_rfl) 400 [.no, .born] (J (Eq.refl true) (J (Eq.refl false) (J (Eq.refl true) (J (by decide : 5 ≤ 1048576) (J (Eq.refl true) trivial))))) (by kernel_rfl)
theorem clone_6 (w1 d1 w2 d2 w3 d3 w4 d4 w5 d5 w6 d6 : Nat) : FnSpec Tryz.prog 51 1000 [cycV [(w1, d1), (w2, d2), (w3, d3), (w4, d4), (w5, d5), (w6, d6)]] [] (.slice (some ⟨1000, 0, none⟩) 6 2) [(1000, ⟨[.one (.func (.func w1) ⟨[]⟩ ⟨[]⟩), .one (.func (.func d1) ⟨[]⟩ ⟨[]⟩), .one (.func (.func w2) ⟨[]⟩ ⟨[]⟩), .one (.func (.func d2) ⟨[]⟩ ⟨[]⟩), .one (.func (.func w3) ⟨[]⟩ ⟨[]⟩), .one (.func (.func d3) ⟨[]⟩ ⟨[]⟩), .one (.func (.func w4) ⟨[]⟩ ⟨[]⟩), .one (.func (.func d4) ⟨[]⟩ ⟨[]⟩), .one (.func (.func w5) ⟨[]⟩ ⟨[]⟩), .one (.func (.func d5) ⟨[]⟩ ⟨[]⟩), .one (.func (.func w6) ⟨[]⟩ ⟨[]⟩), .one (.func (.func d6) ⟨[]⟩ ⟨[]⟩)], 85, false⟩)] := by
  exact fn_of_x hG hM Tryz.func51 (by kernel_rfl) (by kernel_rfl) 400 [.no, .born] (J (Eq.refl true) (J (Eq.refl false) (J (Eq.refl true) (J (by decide : 6 ≤ 1048576) (J (Eq.refl true) trivial))))) (by kernel_rfl)
theorem clone_7 (w1 d1 w2 d2 w3 d3 w4 d4 w5 d5 w6 d6 w7 d7 : Nat) : FnSpec Tryz.prog 51 1000 [cycV [(w1, d1), (w2, d2), (w3, d3), (w4, d4), (w5, d5), (w6, d6), (w7, d7)]] [] (.slice (some ⟨1000, 0, none⟩) 7 2) [(1000, ⟨[.one (.func (.func w1) ⟨[]⟩ ⟨[]⟩), .one (.func (.func d1) ⟨[]⟩ ⟨[]⟩), .one (.func (.func w2) ⟨[]⟩ ⟨[]⟩), .one (.func (.func d2) ⟨[]⟩ ⟨[]⟩), .one (.func (.func w3) ⟨[]⟩ ⟨[]⟩), .one (.func (.func d3) ⟨[]⟩ ⟨[]⟩), .one (.func (.func w4) ⟨[]⟩ ⟨[]⟩), .one (.func (.func d4) ⟨[]⟩ ⟨[]⟩), .one (.func (.func w5) ⟨[]⟩ ⟨[]⟩), .one (.func (.func d5) ⟨[]⟩ ⟨[]⟩), .one (.func (.func w6) ⟨[]⟩ ⟨[]⟩), .one (.func (.func d6) ⟨[]⟩ ⟨[]⟩), .one (.func (.func w7) ⟨[]⟩ ⟨[]⟩), .one (.func (.func d7) ⟨[]⟩ ⟨[]⟩)], 85, false⟩)] := by
  exact fn_of_x hG hM Tryz.func51 (by kernel_rfl) (by kernel_rfl) 400 [.no, .born] (J (Eq.refl true) (J (Eq.refl false) (J (Eq.refl true) (J (by decide : 7 ≤ 1048576) (J (Eq.refl true) trivial))))) (by kernel_rfl)
theorem copy_1 (c : Core) (w1 d1 : Nat) (hl : c.l = [(w1, d1)]) : FnSpec Tryz.prog 30 1001 [.pointer (some ⟨1000, 0, none⟩)] [(1000, Core.blk c)] (.pointer (some ⟨1001, 0, none⟩)) [(1000, Core.blk c), (1001, Core.blk c)] := by
  obtain ⟨r, was, l, cc, at_, near, vector, low, m, fresh, jam, waits, line⟩ := c
  subst hl
  exact fn_of_f hG hM Tryz.func30 (by kernel_rfl) (by kernel_rfl) 400 [.no, .call [] [(1000, 1002)] 1000 (.slice (some ⟨1000, 0, none⟩) 1 2) [(1000, ⟨[.one (.func (.func w1) ⟨[]⟩ ⟨[]⟩), .one (.func (.func d1) ⟨[]⟩ ⟨[]⟩)], 85, false⟩)]] [1002] (J (Eq.refl false) (J (clone_1 w1 d1) trivial)) (by kernel_rfl)
theorem copy_2 (c : Core) (w1 d1 w2 d2 : Nat) (hl : c.l = [(w1, d1), (w2, d2)]) : FnSpec Tryz.prog 30 1001 [.pointer (some ⟨1000, 0, none⟩)] [(1000, Core.blk c)] (.pointer (some ⟨1001, 0, none⟩)) [(1000, Core.blk c), (1001, Core.blk c)] := by
  obtain ⟨r, was, l, cc, at_, near, vector, low, m, fresh, jam, waits, line⟩ := c
  subst hl
  exact fn_of_f hG hM Tryz.func30 (by kernel_rfl) (by kernel_rfl) 400 [.no, .call [] [(1000, 1002)] 1000 (.slice (some ⟨1000, 0, none⟩) 2 2) [(1000, ⟨[.one (.func (.func w1) ⟨[]⟩ ⟨[]⟩), .one (.func (.func d1) ⟨[]⟩ ⟨[]⟩), .one (.func (.func w2) ⟨[]⟩ ⟨[]⟩), .one (.func (.func d2) ⟨[]⟩ ⟨[]⟩)], 85, false⟩)]] [1002] (J (Eq.refl false) (J (clone_2 w1 d1 w2 d2) trivial)) (by kernel_rfl)
theorem copy_3 (c : Core) (w1 d1 w2 d2 w3 d3 : Nat) (hl : c.l = [(w1, d1), (w2, d2), (w3, d3)]) : FnSpec Tryz.prog 30 1001 [.pointer (some ⟨1000, 0, none⟩)] [(1000, Core.blk c)] (.pointer (some ⟨1001, 0, none⟩)) [(1000, Core.blk c), (1001, Core.blk c)] := by
  obtain ⟨r, was, l, cc, at_, near, vector, low, m, fresh, jam, waits, line⟩ := c
  subst hl
  exact fn_of_f hG hM Tryz.func30 (by kernel_rfl) (by kernel_rfl) 400 [.no, .call [] [(1000, 1002)] 1000 (.slice (some ⟨1000, 0, none⟩) 3 2) [(1000, ⟨[.one (.func (.func w1) ⟨[]⟩ ⟨[]⟩), .one (.func (.func d1) ⟨[]⟩ ⟨[]⟩), .one (.func (.func w2) ⟨[]⟩ ⟨[]⟩), .one (.func (.func d2) ⟨[]⟩ ⟨[]⟩), .one (.func (.func w3) ⟨[]⟩ ⟨[]⟩), .one (.func (.func d3) ⟨[]⟩ ⟨[]⟩)], 85, false⟩)]] [1002] (J (Eq.refl false) (J (clone_3 w1 d1 w2 d2 w3 d3) trivial)) (by kernel_rfl)
theorem copy_4 (c : Core) (w1 d1 w2 d2 w3 d3 w4 d4 : Nat) (hl : c.l = [(w1, d1), (w2, d2), (w3, d3), (w4, d4)]) : FnSpec Tryz.prog 30 1001 [.pointer (some ⟨1000, 0, none⟩)] [(1000, Core.blk c)] (.pointer (some ⟨1001, 0, none⟩)) [(1000, Core.blk c), (1001, Core.blk c)] := by
  obtain ⟨r, was, l, cc, at_, near, vector, low, m, fresh, jam, waits, line⟩ := c
  subst hl
  exact fn_of_f hG hM Tryz.func30 (by kernel_rfl) (by kernel_rfl) 400 [.no, .call [] [(1000, 1002)] 1000 (.slice (some ⟨1000, 0, none⟩) 4 2) [(1000, ⟨[.one (.func (.func w1) ⟨[]⟩ ⟨[]⟩), .one (.func (.func d1) ⟨[]⟩ ⟨[]⟩), .one (.func (.func w2) ⟨[]⟩ ⟨[]⟩), .one (.func (.func d2) ⟨[]⟩ ⟨[]⟩), .one (.func (.func w3) ⟨[]⟩ ⟨[]⟩), .one (.func (.func d3) ⟨[]⟩ ⟨[]⟩), .one (.func (.func w4) ⟨[]⟩ ⟨[]⟩), .one (.func (.func d4) ⟨[]⟩ ⟨[]⟩)], 85, false⟩)]] [1002] (J (Eq.refl false) (J (clone_4 w1 d1 w2 d2 w3 d3 w4 d4) trivial)) (by kernel_rfl)
theorem copy_5 (c : Core) (w1 d1 w2 d2 w3 d3 w4 d4 w5 d5 : Nat) (hl : c.l = [(w1, d1), (w2, d2), (w3, d3), (w4, d4), (w5, d5)]) : FnSpec Tryz.prog 30 1001 [.pointer (some ⟨1000, 0, none⟩)] [(1000, Core.blk c)] (.pointer (some ⟨1001, 0, none⟩)) [(1000, Core.blk c), (1001, Core.blk c)] := by
  obtain ⟨r, was, l, cc, at_, near, vector, low, m, fresh, jam, waits, line⟩ := c
  subst hl
  exact fn_of_f hG hM Tryz.func30 (by kernel_rfl) (by kernel_rfl) 400 [.no, .call [] [(1000, 1002)] 1000 (.slice (some ⟨1000, 0, none⟩) 5 2) [(1000, ⟨[.one (.func (.func w1) ⟨[]⟩ ⟨[]⟩), .one (.func (.func d1) ⟨[]⟩ ⟨[]⟩), .one (.func (.func w2) ⟨[]⟩ ⟨[]⟩), .one (.func (.func d2) ⟨[]⟩ ⟨[]⟩), .one (.func (.func w3) ⟨[]⟩ ⟨[]⟩), .one (.func (.func d3) ⟨[]⟩ ⟨[]⟩), .one (.func (.func w4) ⟨[]⟩ ⟨[]⟩), .one (.func (.func d4) ⟨[]⟩ ⟨[]⟩), .one (.func (.func w5) ⟨[]⟩ ⟨[]⟩), .one (.func (.func d5) ⟨[]⟩ ⟨[]⟩)], 85, false⟩)]] [1002] (J (Eq.refl false) (J (clone_5 w1 d1 w2 d2 w3 d3 w4 d4 w5 d5) trivial)) (by kernel_rfl)
theorem copy_6 (c : Core) (w1 d1 w2 d2 w3 d3 w4 d4 w5 d5 w6 d6 : Nat) (hl : c.l = [(w1, d1), (w2, d2), (w3, d3), (w4, d4), (w5, d5), (w6, d6)]) : FnSpec Tryz.prog 30 1001 [.pointer (some ⟨1000, 0, none⟩)] [(1000, Core.blk c)] (.pointer (some ⟨1001, 0, none⟩)) [(1000, Core.blk c), (1001, Core.blk c)] := by
  obtain ⟨r, was, l, cc, at_, near, vector, low, m, fresh, jam, waits, line⟩ := c
  subst hl
  exact fn_of_f hG hM Tryz.func30 (by kernel_rfl) (by kernel_rfl) 400 [.no, .call [] [(1000, 1002)] 1000 (.slice (some ⟨1000, 0, none⟩) 6 2) [(1000, ⟨[.one (.func (.func w1) ⟨[]⟩ ⟨[]⟩), .one (.func (.func d1) ⟨[]⟩ ⟨[]⟩), .one (.func (.func w2) ⟨[]⟩ ⟨[]⟩), .one (.func (.func d2) ⟨[]⟩ ⟨[]⟩), .one (.func (.func w3) ⟨[]⟩ ⟨[]⟩), .one (.func (.func d3) ⟨[]⟩ ⟨[]⟩), .one (.func (.func w4) ⟨[]⟩ ⟨[]⟩), .one (.func (.func d4) ⟨[]⟩ ⟨[]⟩), .one (.func (.func w5) ⟨[]⟩ ⟨[]⟩), .one (.func (.func d5) ⟨[]⟩ ⟨[]⟩), .one (.func (.func w6) ⟨[]⟩ ⟨[]⟩), .one (.func (.func d6) ⟨[]⟩ ⟨[]⟩)], 85, false⟩)]] [1002] (J (Eq.refl false) (J (clone_6 w1 d1 w2 d2 w3 d3 w4 d4 w5 d5 w6 d6) trivial)) (by kernel_rfl)
theorem copy_7 (c : Core) (w1 d1 w2 d2 w3 d3 w4 d4 w5 d5 w6 d6 w7 d7 : Nat) (hl : c.l = [(w1, d1), (w2, d2), (w3, d3), (w4, d4), (w5, d5), (w6, d6), (w7, d7)]) : FnSpec Tryz.prog 30 1001 [.pointer (some ⟨1000, 0, none⟩)] [(1000, Core.blk c)] (.pointer (some ⟨1001, 0, none⟩)) [(1000, Core.blk c), (1001, Core.blk c)] := by
  obtain ⟨r, was, l, cc, at_, near, vector, low, m, fresh, jam, waits, line⟩ := c
  subst hl
  exact fn_of_f hG hM Tryz.func30 (by kernel_rfl) (by kernel_rfl) 400 [.no, .call [] [(1000, 1002)] 1000 (.slice (some ⟨1000, 0, none⟩) 7 2) [(1000, ⟨[.one (.func (.func w1) ⟨[]⟩ ⟨[]⟩), .one (.func (.func d1) ⟨[]⟩ ⟨[]⟩), .one (.func (.func w2) ⟨[]⟩ ⟨[]⟩), .one (.func (.func d2) ⟨[]⟩ ⟨[]⟩), .one (.func (.func w3) ⟨[]⟩ ⟨[]⟩), .one (.func (.func d3) ⟨[]⟩ ⟨[]⟩), .one (.func (.func w4) ⟨[]⟩ ⟨[]⟩), .one (.func (.func d4) ⟨[]⟩ ⟨[]⟩), .one (.func (.func w5) ⟨[]⟩ ⟨[]⟩), .one (.func (.func d5) ⟨[]⟩ ⟨[]⟩), .one (.func (.func w6) ⟨[]⟩ ⟨[]⟩), .one (.func (.func d6) ⟨[]⟩ ⟨[]⟩), .one (.func (.func w7) ⟨[]⟩ ⟨[]⟩), .one (.func (.func d7) ⟨[]⟩ ⟨[]⟩)], 85, false⟩)]] [1002] (J (Eq.refl false) (J (clone_7 w1 d1 w2 d2 w3 d3 w4 d4 w5 d5 w6 d6 w7 d7) trivial)) (by kernel_rfl)

/-- Another core. -/
theorem copy_ok (c : Core) (hv : c.l ≠ []) (hs : c.l.length ≤ 7) : FnSpec Tryz.prog 30 1001 [.pointer (some ⟨1000, 0, none⟩)] [(1000, Core.blk c)] (.pointer (some ⟨1001, 0, none⟩)) [(1000, Core.blk c), (1001, Core.blk c)] := by
  match h : c.l, hv, hs with
  | [(w1, d1)], _, _ => exact copy_1 c w1 d1 h
  | [(w1, d1), (w2, d2)], _, _ => exact copy_2 c w1 d1 w2 d2 h
  | [(w1, d1), (w2, d2), (w3, d3)], _, _ => exact copy_3 c w1 d1 w2 d2 w3 d3 h
  | [(w1, d1), (w2, d2), (w3, d3), (w4, d4)], _, _ => exact copy_4 c w1 d1 w2 d2 w3 d3 w4 d4 h
  | [(w1, d1), (w2, d2), (w3, d3), (w4, d4), (w5, d5)], _, _ => exact copy_5 c w1 d1 w2 d2 w3 d3 w4 d4 w5 d5 h
  | [(w1, d1), (w2, d2), (w3, d3), (w4, d4), (w5, d5), (w6, d6)], _, _ => exact copy_6 c w1 d1 w2 d2 w3 d3 w4 d4 w5 d5 w6 d6 h
  | [(w1, d1), (w2, d2), (w3, d3), (w4, d4), (w5, d5), (w6, d6), (w7, d7)], _, _ => exact copy_7 c w1 d1 w2 d2 w3 d3 w4 d4 w5 d5 w6 d6 w7 d7 h
  | _ :: _ :: _ :: _ :: _ :: _ :: _ :: _ :: _, _, hs => exact absurd hs (by simp only [List.length_cons]; omega)
def copyC (c : Core) : Core := c
theorem copyC_ok (c : Core) (hv : c.l ≠ []) (hs : List.length c.l ≤ 7) : FnSpec Tryz.prog 30 1001 [.pointer (some ⟨1000, 0, none⟩)] [(1000, Core.blk c)] (.pointer (some ⟨1001, 0, none⟩)) [(1000, Core.blk c), (1001, Core.blk (copyC c))] := copy_ok c hv hs

namespace VX
/-- Rows of cells that may be stored. -/
theorem rowsL_stor {α : Type} {cells : α → List Value} {d : α} {z : Nat} (L : List α) (h : ∀ x, (cells x).length = z) (hz : 0 < z) (hs : ∀ x, (cells x).all storable = true) : AllStor [rowsL cells d z L] (L.length * z) := by
  intro o ho
  have e : segsGet? [rowsL cells d z L] o = (bif Nat.blt o (L.length * z) then (bif Nat.blt o (L.length * z) then (cells (L.getD (o / z) d))[o % z]? else none) else none) := rfl
  have hb : Nat.blt o (L.length * z) = true := Nat.ble_eq_true_of_le ho
  rw [e, hb]
  simp only [cond_true]
  have hm : o % z < (cells (L.getD (o / z) d)).length := by rw [h]; exact Nat.mod_lt _ hz
  refine ⟨_, List.getElem?_eq_getElem hm, ?_⟩
  have := hs (L.getD (o / z) d)
  rw [List.all_eq_true] at this
  exact this _ (List.getElem_mem hm)
end VX
end Go.Proofs.YtmnhmplcpijanaaGreat
