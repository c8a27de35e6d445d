/-
  The law of layer 8 on turns. Written by gen_alu.py. No condition.
-/
import Derived.Test.YtfjeifmenlnkkaaAE
namespace Go.Proofs.Ytfjeifmenlnkkaa
open Go VX
set_option linter.unusedVariables false
set_option maxRecDepth 100000

/-- a loop of kotatsu/kotatsulaw08.AluTurns: one round -/
def lawTurns_L1n (u : Unit) (m : Int) (xd : Int × Int × Unit) : (Int × Int × Unit) ⊕ (Int × Int × Unit) :=
  if (decide ((xd.1 : Int) < 9)) = true then
    .inl ((IntKind.i64.wrap (xd.1 + 1)), (uChange_21 xd.2.2 xd.2.1).2, ((uChange_21 xd.2.2 xd.2.1).1))
  else
    .inr (xd.1, xd.2.1, xd.2.2)
def lawTurns_L1n_T (u : Unit) (m : Int) (xd : Int × Int × Unit) : Tm := [(1, .int .u8 m), (2, .pointer (some ⟨1000, 0, none⟩)), (4, .bool false), (5, .pointer (some ⟨1001, 0, none⟩)), (6, .int .u8 ((uChange_22 ((uChange_21 u m).1) ((uChange_21 u m).2)).2)), (7, .pointer (some ⟨1002, 0, none⟩)), (8, .int .u8 xd.2.1), (25, .int .i64 xd.1)]
def lawTurns_L1n_H (u : Unit) (m : Int) (xd : Int × Int × Unit) : Heap := [(1002, ⟨[.one (.int .u8 xd.2.2.A), .one (.int .u8 xd.2.2.X), .one (.int .u8 xd.2.2.Y), .one (.int .u8 xd.2.2.S), .one (.int .u8 xd.2.2.P)], 23, false⟩)]
def lawTurns_L1n_T1 (u : Unit) (m : Int) (r : Int × Int × Unit) : Tm := lawTurns_L1n_T u m r
def lawTurns_L1n_H1 (u : Unit) (m : Int) (r : Int × Int × Unit) : Heap := lawTurns_L1n_H u m r
def lawTurns_L1n_ex (_ : Int × Int × Unit) : Ex := .exit 0
theorem lawTurns_L1n_p1 (u : Unit) (m : Int) (xd : Int × Int × Unit) (d1 : (decide ((xd.1 : Int) < 9)) = true) : Runs Try.prog 56 (bodyOf Try.f10 [1, 1, 1, 1, 1, 0, 1, 0, 0]) (lawTurns_L1n_T u m xd) (lawTurns_L1n_H u m xd) 1003 .normal (lawTurns_L1n_T u m ((IntKind.i64.wrap (xd.1 + 1)), (uChange_21 xd.2.2 xd.2.1).2, ((uChange_21 xd.2.2 xd.2.1).1))) (lawTurns_L1n_H u m ((IntKind.i64.wrap (xd.1 + 1)), (uChange_21 xd.2.2 xd.2.1).2, ((uChange_21 xd.2.2 xd.2.1).1))) 1003 := by
  exact runs_of_x hG hM 400 [.yes, .call [] [] 1000 (.tuple ⟨[Unit.enc ((uChange_21 xd.2.2 xd.2.1).1), .int .u8 ((uChange_21 xd.2.2 xd.2.1).2)]⟩) []] (And.intro d1 (And.intro (uChange_21_ok xd.2.2 xd.2.1) trivial)) (by kernel_rfl)
theorem lawTurns_L1n_p2 (u : Unit) (m : Int) (xd : Int × Int × Unit) (d1 : (decide ((xd.1 : Int) < 9)) = false) : Runs Try.prog 56 (bodyOf Try.f10 [1, 1, 1, 1, 1, 0, 1, 0, 0]) (lawTurns_L1n_T u m xd) (lawTurns_L1n_H u m xd) 1003 (.exit 0) (lawTurns_L1n_T1 u m (xd.1, xd.2.1, xd.2.2)) (lawTurns_L1n_H1 u m (xd.1, xd.2.1, xd.2.2)) 1003 := by
  exact runs_of_x hG hM 400 [.no] (And.intro d1 trivial) (by kernel_rfl)
theorem lawTurns_L1n_runs (u : Unit) (m : Int) (k_ : Nat) (x_ : Int × Int × Unit) (y_ : Int × Int × Unit) (h_ : iter (lawTurns_L1n u m) k_ x_ = some y_) : Runs Try.prog 56 (.block 0 (.loop (bodyOf Try.f10 [1, 1, 1, 1, 1, 0, 1, 0, 0]))) (lawTurns_L1n_T u m x_) (lawTurns_L1n_H u m x_) 1003 (outOf 0 (lawTurns_L1n_ex y_)) (lawTurns_L1n_T1 u m y_) (lawTurns_L1n_H1 u m y_) 1003 := by
  refine block_iter (lawTurns_L1n u m) (lawTurns_L1n_T u m) (lawTurns_L1n_H u m) lawTurns_L1n_ex (lawTurns_L1n_T1 u m) (lawTurns_L1n_H1 u m) ?_ ?_ ?_ k_ x_ y_ h_
  · intro r hr; cases hr
  · intro xd y_ hx
    unfold lawTurns_L1n at hx
    rcases bt (decide ((xd.1 : Int) < 9)) with d1 | d1
    · rw [if_pos d1] at hx
      cases hx; exact lawTurns_L1n_p1 u m xd d1
    · rw [if_neg (nt d1)] at hx
      cases hx
  · intro xd y_ hx
    unfold lawTurns_L1n at hx
    rcases bt (decide ((xd.1 : Int) < 9)) with d1 | d1
    · rw [if_pos d1] at hx
      cases hx
    · rw [if_neg (nt d1)] at hx
      cases hx; exact lawTurns_L1n_p2 u m xd d1

theorem lawTurns_p1 (u : Unit) (m : Int) (m1 : Nat) (r1 : Int × Int × Unit) (l1 : iter (lawTurns_L1n u m) m1 (0, m, u) = some r1) (c1 : (!awake) = false) (c2 : (((uChange_22 ((uChange_21 u m).1) ((uChange_21 u m).2)).2 : Int) == m) = true) (c3 : ((r1.2.1 : Int) == m) = true) (c4 : (((bAnd .u8 (((uChange_22 ((uChange_21 u m).1) ((uChange_21 u m).2)).1).P) 1) : Int) == (bAnd .u8 u.P 1)) = true) : FnSpec Try.prog 10 1000 [Unit.enc u, .int .u8 m] [] (.bool (((r1.2.2.A : Int) == ((uChange_22 ((uChange_21 u m).1) ((uChange_21 u m).2)).1).A) && (((r1.2.2.X : Int) == ((uChange_22 ((uChange_21 u m).1) ((uChange_21 u m).2)).1).X) && (((r1.2.2.Y : Int) == ((uChange_22 ((uChange_21 u m).1) ((uChange_21 u m).2)).1).Y) && (((r1.2.2.S : Int) == ((uChange_22 ((uChange_21 u m).1) ((uChange_21 u m).2)).1).S) && (((r1.2.2.P : Int) == ((uChange_22 ((uChange_21 u m).1) ((uChange_21 u m).2)).1).P) && true)))))) [] := by
  exact fn_of_x hG hM Try.func10 (by kernel_rfl) (by kernel_rfl) 400 [.call [] [] 1000 (.bool awake) [], .no, .call [] [] 1000 (.tuple ⟨[Unit.enc ((uChange_21 u m).1), .int .u8 ((uChange_21 u m).2)]⟩) [], .call [] [] 1000 (.tuple ⟨[Unit.enc ((uChange_22 ((uChange_21 u m).1) ((uChange_21 u m).2)).1), .int .u8 ((uChange_22 ((uChange_21 u m).1) ((uChange_21 u m).2)).2)]⟩) [], .seg [1, 2, 4, 5, 6, 7, 8, 25] [1002] .normal (lawTurns_L1n_T1 u m r1) (lawTurns_L1n_H1 u m r1) 1003, .yes, .yes, .yes, .yes, .yes, .yes, .yes, .yes, .yes, .yes, .yes, .yes, .yes, .yes, .yes, .yes] (And.intro (awake_ok) (And.intro c1 (And.intro (uChange_21_ok u m) (And.intro (uChange_22_ok ((uChange_21 u m).1) ((uChange_21 u m).2)) (And.intro (lawTurns_L1n_runs u m m1 (0, m, u) r1 l1) (And.intro c2 (And.intro c2 (And.intro c2 (And.intro c2 (And.intro c3 (And.intro c3 (And.intro c3 (And.intro c3 (And.intro c3 (And.intro c3 (And.intro c3 (And.intro c3 (And.intro c4 (And.intro c4 (And.intro c4 (And.intro c4 trivial))))))))))))))))))))) (by kernel_rfl)

end Go.Proofs.Ytfjeifmenlnkkaa
