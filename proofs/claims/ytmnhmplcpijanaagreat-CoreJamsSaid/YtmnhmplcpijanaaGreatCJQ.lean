/-
  CoreJams, what follows the reset. No condition but that a slice's length is an int.
-/
import Derived.Test.YtmnhmplcpijanaaGreatCJP
namespace Go.Proofs.YtmnhmplcpijanaaGreat
open Go VX
set_option linter.unusedVariables false
set_option maxRecDepth 100000

def r7 (c : Core) (b1 b2 b3 b4 b5 b6 b7 : Int) : Core := clockF (clockF (clockF (clockF (clockF (clockF (clockF (c_Reset c) b1 false false) b2 false false) b3 false false) b4 false false) b5 false false) b6 false false) b7 false false
theorem r7_was (c : Core) (b1 b2 b3 b4 b5 b6 b7 : Int) : (r7 c b1 b2 b3 b4 b5 b6 b7).was = ⟨⟨c.was.U.A, c.was.U.X, c.was.U.Y, IntKind.u8.wrap (IntKind.u8.wrap (IntKind.u8.wrap (c.was.U.S - 1) - 1) - 1), bOr .u8 (bAndNot .u8 (right c.was.U.P) 4) 4⟩, bOr .u16 (bShl .u16 (IntKind.u16.wrap b7) 8) (IntKind.u16.wrap b6)⟩ := by kernel_rfl
theorem r7_fresh (c : Core) (b1 b2 b3 b4 b5 b6 b7 : Int) : (r7 c b1 b2 b3 b4 b5 b6 b7).fresh = true := by kernel_rfl
theorem r2_at (c : Core) (b1 b2 : Int) : (c_Wants (clockF (clockF (c_Reset c) b1 false false) b2 false false)).At = bOr .u16 256 (IntKind.u16.wrap c.was.U.S) := by kernel_rfl
theorem r5_at (c : Core) (b1 b2 b3 b4 b5 : Int) : (c_Wants (clockF (clockF (clockF (clockF (clockF (c_Reset c) b1 false false) b2 false false) b3 false false) b4 false false) b5 false false)).At = 65532 := by kernel_rfl
theorem r6_at (c : Core) (b1 b2 b3 b4 b5 b6 : Int) : (c_Wants (clockF (clockF (clockF (clockF (clockF (clockF (c_Reset c) b1 false false) b2 false false) b3 false false) b4 false false) b5 false false) b6 false false)).At = 65533 := by kernel_rfl

def flagsB (n : Nat) : Bool := (rFlags (IntKind.i64.wrap (right (right (n : Int)))) == rFlags (IntKind.i64.wrap (n : Int))) &&
  (rFlags (IntKind.i64.wrap (bOr .u8 (bAndNot .u8 (right (right (n : Int))) 4) 4)) == (rSet_4 ⟨0, 0, 0, 0, rFlags (IntKind.i64.wrap (n : Int))⟩).P) &&
  (IntKind.i64.wrap (IntKind.u8.wrap (IntKind.u8.wrap (IntKind.u8.wrap ((n : Int) - 1) - 1) - 1)) == Int.tmod (IntKind.i64.wrap (IntKind.i64.wrap (n : Int) + 253)) 256)
theorem flags_all : allN flagsB 8 0 = true := by kernel_rfl
theorem flagsB_at {p : Int} (w : rng 256 p) : rFlags (IntKind.i64.wrap (right (right p))) = rFlags (IntKind.i64.wrap p) ∧
    rFlags (IntKind.i64.wrap (bOr .u8 (bAndNot .u8 (right (right p)) 4) 4)) = (rSet_4 ⟨0, 0, 0, 0, rFlags (IntKind.i64.wrap p)⟩).P ∧
    IntKind.i64.wrap (IntKind.u8.wrap (IntKind.u8.wrap (IntKind.u8.wrap (p - 1) - 1) - 1)) = Int.tmod (IntKind.i64.wrap (IntKind.i64.wrap p + 253)) 256 := by
  have h := allN_int flags_all p w.1 (by have := w.2; simpa using this)
  unfold flagsB at h
  rw [Int.toNat_of_nonneg w.1] at h
  simp only [Bool.and_eq_true, beq_iff_eq] at h
  exact ⟨h.1.1, h.1.2, h.2⟩
def joinB (n : Nat) : Bool := bOr .u16 (bShl .u16 (IntKind.u16.wrap (IntKind.u8.wrap (bShr .u16 (n : Int) 8))) 8) (IntKind.u16.wrap (IntKind.u8.wrap (n : Int))) == (n : Int)
theorem join_all : allN joinB 16 0 = true := by kernel_rfl
theorem join_at {t : Int} (w : rng 65536 t) : bOr .u16 (bShl .u16 (IntKind.u16.wrap (IntKind.u8.wrap (bShr .u16 t 8))) 8) (IntKind.u16.wrap (IntKind.u8.wrap t)) = t := by
  have h := allN_int join_all t w.1 (by have := w.2; simpa using this)
  unfold joinB at h
  rw [Int.toNat_of_nonneg w.1] at h
  simpa using h
end Go.Proofs.YtmnhmplcpijanaaGreat
