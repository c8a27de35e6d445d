/-
  The rounds of layer 14, as a Lean relation: written by gen_loopy.py. No condition.
-/
import Derived.Test.YtonbliaaicacgaaLA
import Derived.Test.YtonbliaaicacgaaVP
namespace Go.Proofs.Ytonbliaaicacgaa
open Go VX
set_option linter.unusedVariables false
set_option maxRecDepth 100000

/-- a loop of kotatsu/kotatsulaw14.LoopyRounds: one round -/
def lawRounds_L1n (s : Scroll) (xd : Int × Scroll) : (Int × Scroll) ⊕ (Int × Scroll) :=
  if (decide ((xd.1 : Int) < 64)) = true then
    .inl ((IntKind.i64.wrap (xd.1 + 1)), (sRight xd.2))
  else
    .inr (xd.1, xd.2)
def lawRounds_L1n_T (s : Scroll) (xd : Int × Scroll) : Tm := [(1, .pointer (some ⟨1000, 0, none⟩)), (2, .bool false), (3, .pointer (some ⟨1001, 0, none⟩)), (4, .pointer (some ⟨1002, 0, none⟩)), (13, .int .i64 xd.1)]
def lawRounds_L1n_H (s : Scroll) (xd : Int × Scroll) : Heap := [(1001, ⟨[.one (.int .u16 xd.2.V), .one (.int .u16 xd.2.T), .one (.int .u8 xd.2.X), .one (.bool xd.2.W)], 24, false⟩)]
def lawRounds_L1n_T1 (s : Scroll) (r : Int × Scroll) : Tm := lawRounds_L1n_T s r
def lawRounds_L1n_H1 (s : Scroll) (r : Int × Scroll) : Heap := lawRounds_L1n_H s r
def lawRounds_L1n_ex (_ : Int × Scroll) : Ex := .exit 0
theorem lawRounds_L1n_p1 (s : Scroll) (xd : Int × Scroll) (d1 : (decide ((xd.1 : Int) < 64)) = true) : Runs Try.prog 54 (bodyOf Try.f7 [1, 1, 1, 1, 0, 1, 0, 0]) (lawRounds_L1n_T s xd) (lawRounds_L1n_H s xd) 1003 .normal (lawRounds_L1n_T s ((IntKind.i64.wrap (xd.1 + 1)), (sRight xd.2))) (lawRounds_L1n_H s ((IntKind.i64.wrap (xd.1 + 1)), (sRight xd.2))) 1003 := by
  exact runs_of_x hG hM 400 [.yes, .call [] [] 1000 (Scroll.enc (sRight xd.2)) []] (And.intro d1 (And.intro (sRight_ok xd.2) trivial)) (by kernel_rfl)
theorem lawRounds_L1n_p2 (s : Scroll) (xd : Int × Scroll) (d1 : (decide ((xd.1 : Int) < 64)) = false) : Runs Try.prog 54 (bodyOf Try.f7 [1, 1, 1, 1, 0, 1, 0, 0]) (lawRounds_L1n_T s xd) (lawRounds_L1n_H s xd) 1003 (.exit 0) (lawRounds_L1n_T1 s (xd.1, xd.2)) (lawRounds_L1n_H1 s (xd.1, xd.2)) 1003 := by
  exact runs_of_x hG hM 400 [.no] (And.intro d1 trivial) (by kernel_rfl)
theorem lawRounds_L1n_runs (s : Scroll) (k_ : Nat) (x_ : Int × Scroll) (y_ : Int × Scroll) (h_ : iter (lawRounds_L1n s) k_ x_ = some y_) : Runs Try.prog 54 (.block 0 (.loop (bodyOf Try.f7 [1, 1, 1, 1, 0, 1, 0, 0]))) (lawRounds_L1n_T s x_) (lawRounds_L1n_H s x_) 1003 (outOf 0 (lawRounds_L1n_ex y_)) (lawRounds_L1n_T1 s y_) (lawRounds_L1n_H1 s y_) 1003 := by
  refine block_iter (lawRounds_L1n s) (lawRounds_L1n_T s) (lawRounds_L1n_H s) lawRounds_L1n_ex (lawRounds_L1n_T1 s) (lawRounds_L1n_H1 s) ?_ ?_ ?_ k_ x_ y_ h_
  · intro r hr; cases hr
  · intro xd y_ hx
    unfold lawRounds_L1n at hx
    rcases bt (decide ((xd.1 : Int) < 64)) with d1 | d1
    · rw [if_pos d1] at hx
      cases hx; exact lawRounds_L1n_p1 s xd d1
    · rw [if_neg (nt d1)] at hx
      cases hx
  · intro xd y_ hx
    unfold lawRounds_L1n at hx
    rcases bt (decide ((xd.1 : Int) < 64)) with d1 | d1
    · rw [if_pos d1] at hx
      cases hx
    · rw [if_neg (nt d1)] at hx
      cases hx; exact lawRounds_L1n_p2 s xd d1

/-- a loop of kotatsu/kotatsulaw14.LoopyRounds: one round -/
def lawRounds_L2n (s : Scroll) (r1 : Int × Scroll) (xd : Int × Scroll) : (Int × Scroll) ⊕ (Int × Scroll) :=
  if (decide ((xd.1 : Int) < 480)) = true then
    .inl ((IntKind.i64.wrap (xd.1 + 1)), (sDown xd.2))
  else
    .inr (xd.1, xd.2)
def lawRounds_L2n_T (s : Scroll) (r1 : Int × Scroll) (xd : Int × Scroll) : Tm := [(1, .pointer (some ⟨1000, 0, none⟩)), (2, .bool false), (3, .pointer (some ⟨1001, 0, none⟩)), (4, .pointer (some ⟨1002, 0, none⟩)), (18, .int .i64 xd.1)]
def lawRounds_L2n_H (s : Scroll) (r1 : Int × Scroll) (xd : Int × Scroll) : Heap := [(1002, ⟨[.one (.int .u16 xd.2.V), .one (.int .u16 xd.2.T), .one (.int .u8 xd.2.X), .one (.bool xd.2.W)], 24, false⟩)]
def lawRounds_L2n_T1 (s : Scroll) (r1 : Int × Scroll) (r : Int × Scroll) : Tm := lawRounds_L2n_T s r1 r
def lawRounds_L2n_H1 (s : Scroll) (r1 : Int × Scroll) (r : Int × Scroll) : Heap := lawRounds_L2n_H s r1 r
def lawRounds_L2n_ex (_ : Int × Scroll) : Ex := .exit 2
theorem lawRounds_L2n_p1 (s : Scroll) (r1 : Int × Scroll) (xd : Int × Scroll) (d1 : (decide ((xd.1 : Int) < 480)) = true) : Runs Try.prog 54 (bodyOf Try.f7 [1, 1, 1, 1, 1, 0, 1, 0, 0]) (lawRounds_L2n_T s r1 xd) (lawRounds_L2n_H s r1 xd) 1003 .normal (lawRounds_L2n_T s r1 ((IntKind.i64.wrap (xd.1 + 1)), (sDown xd.2))) (lawRounds_L2n_H s r1 ((IntKind.i64.wrap (xd.1 + 1)), (sDown xd.2))) 1003 := by
  exact runs_of_x hG hM 400 [.yes, .call [] [] 1000 (Scroll.enc (sDown xd.2)) []] (And.intro d1 (And.intro (sDown_ok xd.2) trivial)) (by kernel_rfl)
theorem lawRounds_L2n_p2 (s : Scroll) (r1 : Int × Scroll) (xd : Int × Scroll) (d1 : (decide ((xd.1 : Int) < 480)) = false) : Runs Try.prog 54 (bodyOf Try.f7 [1, 1, 1, 1, 1, 0, 1, 0, 0]) (lawRounds_L2n_T s r1 xd) (lawRounds_L2n_H s r1 xd) 1003 (.exit 2) (lawRounds_L2n_T1 s r1 (xd.1, xd.2)) (lawRounds_L2n_H1 s r1 (xd.1, xd.2)) 1003 := by
  exact runs_of_x hG hM 400 [.no] (And.intro d1 trivial) (by kernel_rfl)
theorem lawRounds_L2n_runs (s : Scroll) (r1 : Int × Scroll) (k_ : Nat) (x_ : Int × Scroll) (y_ : Int × Scroll) (h_ : iter (lawRounds_L2n s r1) k_ x_ = some y_) : Runs Try.prog 54 (.block 2 (.loop (bodyOf Try.f7 [1, 1, 1, 1, 1, 0, 1, 0, 0]))) (lawRounds_L2n_T s r1 x_) (lawRounds_L2n_H s r1 x_) 1003 (outOf 2 (lawRounds_L2n_ex y_)) (lawRounds_L2n_T1 s r1 y_) (lawRounds_L2n_H1 s r1 y_) 1003 := by
  refine block_iter (lawRounds_L2n s r1) (lawRounds_L2n_T s r1) (lawRounds_L2n_H s r1) lawRounds_L2n_ex (lawRounds_L2n_T1 s r1) (lawRounds_L2n_H1 s r1) ?_ ?_ ?_ k_ x_ y_ h_
  · intro r hr; cases hr
  · intro xd y_ hx
    unfold lawRounds_L2n at hx
    rcases bt (decide ((xd.1 : Int) < 480)) with d1 | d1
    · rw [if_pos d1] at hx
      cases hx; exact lawRounds_L2n_p1 s r1 xd d1
    · rw [if_neg (nt d1)] at hx
      cases hx
  · intro xd y_ hx
    unfold lawRounds_L2n at hx
    rcases bt (decide ((xd.1 : Int) < 480)) with d1 | d1
    · rw [if_pos d1] at hx
      cases hx
    · rw [if_neg (nt d1)] at hx
      cases hx; exact lawRounds_L2n_p2 s r1 xd d1

/-- a loop of kotatsu/kotatsulaw14.LoopyRounds: one round -/
def lawRounds_L4nyny (s : Scroll) (r1 : Int × Scroll) (r2 : Int × Scroll) (xd : Int × Bool) (xe : Int × Scroll) : (Int × Scroll) ⊕ (Int × Scroll) :=
  if (decide ((xe.1 : Int) < xd.1)) = true then
    .inl ((IntKind.i64.wrap (xe.1 + 1)), (sRight xe.2))
  else
    .inr (xe.1, xe.2)
def lawRounds_L4nyny_T (s : Scroll) (r1 : Int × Scroll) (r2 : Int × Scroll) (xd : Int × Bool) (xe : Int × Scroll) : Tm := [(1, .pointer (some ⟨1000, 0, none⟩)), (2, .bool xd.2), (3, .pointer (some ⟨1001, 0, none⟩)), (5, .int .i64 xd.1), (6, .pointer (some ⟨1003, 0, none⟩)), (33, .int .i64 xd.1), (34, .bool (decide ((xd.1 : Int) < 64))), (35, .int .i64 xd.1), (36, .agg ⟨[.int .u16 ((sLook s).V), .int .u16 ((sLook s).T), .int .u8 ((sLook s).X), .bool ((sLook s).W)]⟩), (37, .int .i64 xd.1), (38, .int .i64 xe.1)]
def lawRounds_L4nyny_H (s : Scroll) (r1 : Int × Scroll) (r2 : Int × Scroll) (xd : Int × Bool) (xe : Int × Scroll) : Heap := [(1003, ⟨[.one (.int .u16 xe.2.V), .one (.int .u16 xe.2.T), .one (.int .u8 xe.2.X), .one (.bool xe.2.W)], 24, false⟩)]
def lawRounds_L4nyny_T1 (s : Scroll) (r1 : Int × Scroll) (r2 : Int × Scroll) (xd : Int × Bool) (r : Int × Scroll) : Tm := lawRounds_L4nyny_T s r1 r2 xd r
def lawRounds_L4nyny_H1 (s : Scroll) (r1 : Int × Scroll) (r2 : Int × Scroll) (xd : Int × Bool) (r : Int × Scroll) : Heap := lawRounds_L4nyny_H s r1 r2 xd r
def lawRounds_L4nyny_ex (_ : Int × Scroll) : Ex := .exit 6
theorem lawRounds_L4nyny_p1 (s : Scroll) (r1 : Int × Scroll) (r2 : Int × Scroll) (xd : Int × Bool) (xe : Int × Scroll) (e1 : (decide ((xe.1 : Int) < xd.1)) = true) : Runs Try.prog 54 (bodyOf Try.f7 [1, 1, 1, 1, 1, 1, 1, 0, 1, 0, 0, 1, 1, 0, 0, 1, 1, 0, 1, 0, 0]) (lawRounds_L4nyny_T s r1 r2 xd xe) (lawRounds_L4nyny_H s r1 r2 xd xe) 1004 .normal (lawRounds_L4nyny_T s r1 r2 xd ((IntKind.i64.wrap (xe.1 + 1)), (sRight xe.2))) (lawRounds_L4nyny_H s r1 r2 xd ((IntKind.i64.wrap (xe.1 + 1)), (sRight xe.2))) 1004 := by
  exact runs_of_x hG hM 400 [.yes, .call [] [] 1000 (Scroll.enc (sRight xe.2)) []] (And.intro e1 (And.intro (sRight_ok xe.2) trivial)) (by kernel_rfl)
theorem lawRounds_L4nyny_p2 (s : Scroll) (r1 : Int × Scroll) (r2 : Int × Scroll) (xd : Int × Bool) (xe : Int × Scroll) (e1 : (decide ((xe.1 : Int) < xd.1)) = false) : Runs Try.prog 54 (bodyOf Try.f7 [1, 1, 1, 1, 1, 1, 1, 0, 1, 0, 0, 1, 1, 0, 0, 1, 1, 0, 1, 0, 0]) (lawRounds_L4nyny_T s r1 r2 xd xe) (lawRounds_L4nyny_H s r1 r2 xd xe) 1004 (.exit 6) (lawRounds_L4nyny_T1 s r1 r2 xd (xe.1, xe.2)) (lawRounds_L4nyny_H1 s r1 r2 xd (xe.1, xe.2)) 1004 := by
  exact runs_of_x hG hM 400 [.no] (And.intro e1 trivial) (by kernel_rfl)
theorem lawRounds_L4nyny_runs (s : Scroll) (r1 : Int × Scroll) (r2 : Int × Scroll) (xd : Int × Bool) (k_ : Nat) (x_ : Int × Scroll) (y_ : Int × Scroll) (h_ : iter (lawRounds_L4nyny s r1 r2 xd) k_ x_ = some y_) : Runs Try.prog 54 (.block 6 (.loop (bodyOf Try.f7 [1, 1, 1, 1, 1, 1, 1, 0, 1, 0, 0, 1, 1, 0, 0, 1, 1, 0, 1, 0, 0]))) (lawRounds_L4nyny_T s r1 r2 xd x_) (lawRounds_L4nyny_H s r1 r2 xd x_) 1004 (outOf 6 (lawRounds_L4nyny_ex y_)) (lawRounds_L4nyny_T1 s r1 r2 xd y_) (lawRounds_L4nyny_H1 s r1 r2 xd y_) 1004 := by
  refine block_iter (lawRounds_L4nyny s r1 r2 xd) (lawRounds_L4nyny_T s r1 r2 xd) (lawRounds_L4nyny_H s r1 r2 xd) lawRounds_L4nyny_ex (lawRounds_L4nyny_T1 s r1 r2 xd) (lawRounds_L4nyny_H1 s r1 r2 xd) ?_ ?_ ?_ k_ x_ y_ h_
  · intro r hr; cases hr
  · intro xe y_ hx
    unfold lawRounds_L4nyny at hx
    rcases bt (decide ((xe.1 : Int) < xd.1)) with e1 | e1
    · rw [if_pos e1] at hx
      cases hx; exact lawRounds_L4nyny_p1 s r1 r2 xd xe e1
    · rw [if_neg (nt e1)] at hx
      cases hx
  · intro xe y_ hx
    unfold lawRounds_L4nyny at hx
    rcases bt (decide ((xe.1 : Int) < xd.1)) with e1 | e1
    · rw [if_pos e1] at hx
      cases hx
    · rw [if_neg (nt e1)] at hx
      cases hx; exact lawRounds_L4nyny_p2 s r1 r2 xd xe e1

/-- a loop of kotatsu/kotatsulaw14.LoopyRounds: one round -/
inductive lawRounds_L3nyn (s : Scroll) (r1 : Int × Scroll) (r2 : Int × Scroll) (xd : Int × Bool) : (Int × Bool) ⊕ ((Int × Bool) ⊕ Bool) → Prop
  | p1 (d1 : (decide ((xd.1 : Int) < 64)) = true) (m4 : Nat) (r4 : Int × Scroll) (l4 : iter (lawRounds_L4nyny s r1 r2 xd) m4 (0, (sLook s)) = some r4) (d2 : (((r4.2.V : Int) == (sLook s).V) && (((r4.2.T : Int) == (sLook s).T) && (((r4.2.X : Int) == (sLook s).X) && ((r4.2.W == (sLook s).W) && true)))) = true) (d3 : (decide ((xd.1 : Int) > 0)) = true) : lawRounds_L3nyn s r1 r2 xd (.inr (.inr false))
  | p2 (d1 : (decide ((xd.1 : Int) < 64)) = true) (m4 : Nat) (r4 : Int × Scroll) (l4 : iter (lawRounds_L4nyny s r1 r2 xd) m4 (0, (sLook s)) = some r4) (d2 : (((r4.2.V : Int) == (sLook s).V) && (((r4.2.T : Int) == (sLook s).T) && (((r4.2.X : Int) == (sLook s).X) && ((r4.2.W == (sLook s).W) && true)))) = true) (d3 : (decide ((xd.1 : Int) > 0)) = false) : lawRounds_L3nyn s r1 r2 xd (.inl ((IntKind.i64.wrap (xd.1 + 1)), xd.2))
  | p3 (d1 : (decide ((xd.1 : Int) < 64)) = true) (m4 : Nat) (r4 : Int × Scroll) (l4 : iter (lawRounds_L4nyny s r1 r2 xd) m4 (0, (sLook s)) = some r4) (d2 : (((r4.2.V : Int) == (sLook s).V) && (((r4.2.T : Int) == (sLook s).T) && (((r4.2.X : Int) == (sLook s).X) && ((r4.2.W == (sLook s).W) && true)))) = false) : lawRounds_L3nyn s r1 r2 xd (.inl ((IntKind.i64.wrap (xd.1 + 1)), xd.2))
  | p4 (d1 : (decide ((xd.1 : Int) < 64)) = false) : lawRounds_L3nyn s r1 r2 xd (.inr (.inl (xd.1, xd.2)))
def lawRounds_L3nyn_T (s : Scroll) (r1 : Int × Scroll) (r2 : Int × Scroll) (xd : Int × Bool) : Tm := [(1, .pointer (some ⟨1000, 0, none⟩)), (2, .bool xd.2), (3, .pointer (some ⟨1001, 0, none⟩)), (33, .int .i64 xd.1)]
def lawRounds_L3nyn_H (s : Scroll) (r1 : Int × Scroll) (r2 : Int × Scroll) (xd : Int × Bool) : Heap := [(1000, ⟨[.one (.int .u16 ((sLook s).V)), .one (.int .u16 ((sLook s).T)), .one (.int .u8 ((sLook s).X)), .one (.bool ((sLook s).W))], 24, false⟩)]
def lawRounds_L3nyn_T1 (s : Scroll) (r1 : Int × Scroll) (r2 : Int × Scroll) : ((Int × Bool) ⊕ Bool) → Tm
  | .inl x => lawRounds_L3nyn_T s r1 r2 x
  | .inr v => [(2, .bool v)]
def lawRounds_L3nyn_H1 (s : Scroll) (r1 : Int × Scroll) (r2 : Int × Scroll) : ((Int × Bool) ⊕ Bool) → Heap
  | .inl x => lawRounds_L3nyn_H s r1 r2 x
  | .inr v => []
def lawRounds_L3nyn_ex : ((Int × Bool) ⊕ Bool) → Ex
  | .inl _ => .exit 4
  | .inr _ => .ret
theorem lawRounds_L3nyn_p1 (s : Scroll) (r1 : Int × Scroll) (r2 : Int × Scroll) (xd : Int × Bool) (d1 : (decide ((xd.1 : Int) < 64)) = true) (m4 : Nat) (r4 : Int × Scroll) (l4 : iter (lawRounds_L4nyny s r1 r2 xd) m4 (0, (sLook s)) = some r4) (d2 : (((r4.2.V : Int) == (sLook s).V) && (((r4.2.T : Int) == (sLook s).T) && (((r4.2.X : Int) == (sLook s).X) && ((r4.2.W == (sLook s).W) && true)))) = true) (d3 : (decide ((xd.1 : Int) > 0)) = true) : Runs Try.prog 54 (bodyOf Try.f7 [1, 1, 1, 1, 1, 1, 1, 0, 1, 0, 0]) (lawRounds_L3nyn_T s r1 r2 xd) (lawRounds_L3nyn_H s r1 r2 xd) 1003 .ret (lawRounds_L3nyn_T1 s r1 r2 (.inr false)) (lawRounds_L3nyn_H1 s r1 r2 (.inr false)) 1003 := by
  exact runs_of_x hG hM 400 [.yes, .seg [1, 2, 3, 5, 6, 33, 34, 35, 36, 37, 38] [1003] .normal (lawRounds_L4nyny_T1 s r1 r2 xd r4) (lawRounds_L4nyny_H1 s r1 r2 xd r4) 1004, .yes, .yes, .yes, .yes] (And.intro d1 (And.intro (lawRounds_L4nyny_runs s r1 r2 xd m4 (0, (sLook s)) r4 l4) (And.intro d2 (And.intro d2 (And.intro d2 (And.intro d3 trivial)))))) (by kernel_rfl)
theorem lawRounds_L3nyn_p2 (s : Scroll) (r1 : Int × Scroll) (r2 : Int × Scroll) (xd : Int × Bool) (d1 : (decide ((xd.1 : Int) < 64)) = true) (m4 : Nat) (r4 : Int × Scroll) (l4 : iter (lawRounds_L4nyny s r1 r2 xd) m4 (0, (sLook s)) = some r4) (d2 : (((r4.2.V : Int) == (sLook s).V) && (((r4.2.T : Int) == (sLook s).T) && (((r4.2.X : Int) == (sLook s).X) && ((r4.2.W == (sLook s).W) && true)))) = true) (d3 : (decide ((xd.1 : Int) > 0)) = false) : Runs Try.prog 54 (bodyOf Try.f7 [1, 1, 1, 1, 1, 1, 1, 0, 1, 0, 0]) (lawRounds_L3nyn_T s r1 r2 xd) (lawRounds_L3nyn_H s r1 r2 xd) 1003 .normal (lawRounds_L3nyn_T s r1 r2 ((IntKind.i64.wrap (xd.1 + 1)), xd.2)) (lawRounds_L3nyn_H s r1 r2 ((IntKind.i64.wrap (xd.1 + 1)), xd.2)) 1003 := by
  exact runs_of_x hG hM 400 [.yes, .seg [1, 2, 3, 5, 6, 33, 34, 35, 36, 37, 38] [1003] .normal (lawRounds_L4nyny_T1 s r1 r2 xd r4) (lawRounds_L4nyny_H1 s r1 r2 xd r4) 1004, .yes, .yes, .yes, .no] (And.intro d1 (And.intro (lawRounds_L4nyny_runs s r1 r2 xd m4 (0, (sLook s)) r4 l4) (And.intro d2 (And.intro d2 (And.intro d2 (And.intro d3 trivial)))))) (by kernel_rfl)
theorem lawRounds_L3nyn_p3 (s : Scroll) (r1 : Int × Scroll) (r2 : Int × Scroll) (xd : Int × Bool) (d1 : (decide ((xd.1 : Int) < 64)) = true) (m4 : Nat) (r4 : Int × Scroll) (l4 : iter (lawRounds_L4nyny s r1 r2 xd) m4 (0, (sLook s)) = some r4) (d2 : (((r4.2.V : Int) == (sLook s).V) && (((r4.2.T : Int) == (sLook s).T) && (((r4.2.X : Int) == (sLook s).X) && ((r4.2.W == (sLook s).W) && true)))) = false) : Runs Try.prog 54 (bodyOf Try.f7 [1, 1, 1, 1, 1, 1, 1, 0, 1, 0, 0]) (lawRounds_L3nyn_T s r1 r2 xd) (lawRounds_L3nyn_H s r1 r2 xd) 1003 .normal (lawRounds_L3nyn_T s r1 r2 ((IntKind.i64.wrap (xd.1 + 1)), xd.2)) (lawRounds_L3nyn_H s r1 r2 ((IntKind.i64.wrap (xd.1 + 1)), xd.2)) 1003 := by
  exact runs_of_x hG hM 400 [.yes, .seg [1, 2, 3, 5, 6, 33, 34, 35, 36, 37, 38] [1003] .normal (lawRounds_L4nyny_T1 s r1 r2 xd r4) (lawRounds_L4nyny_H1 s r1 r2 xd r4) 1004, .no, .no, .no, .no] (And.intro d1 (And.intro (lawRounds_L4nyny_runs s r1 r2 xd m4 (0, (sLook s)) r4 l4) (And.intro d2 (And.intro d2 (And.intro d2 (And.intro (Eq.refl false) trivial)))))) (by kernel_rfl)
theorem lawRounds_L3nyn_p4 (s : Scroll) (r1 : Int × Scroll) (r2 : Int × Scroll) (xd : Int × Bool) (d1 : (decide ((xd.1 : Int) < 64)) = false) : Runs Try.prog 54 (bodyOf Try.f7 [1, 1, 1, 1, 1, 1, 1, 0, 1, 0, 0]) (lawRounds_L3nyn_T s r1 r2 xd) (lawRounds_L3nyn_H s r1 r2 xd) 1003 (.exit 4) (lawRounds_L3nyn_T1 s r1 r2 (.inl (xd.1, xd.2))) (lawRounds_L3nyn_H1 s r1 r2 (.inl (xd.1, xd.2))) 1003 := by
  exact runs_of_x hG hM 400 [.no] (And.intro d1 trivial) (by kernel_rfl)
theorem lawRounds_L3nyn_runs (s : Scroll) (r1 : Int × Scroll) (r2 : Int × Scroll) (x_ : Int × Bool) (y_ : (Int × Bool) ⊕ Bool) (h_ : LoopR (lawRounds_L3nyn s r1 r2) x_ y_) : Runs Try.prog 54 (.block 4 (.loop (bodyOf Try.f7 [1, 1, 1, 1, 1, 1, 1, 0, 1, 0, 0]))) (lawRounds_L3nyn_T s r1 r2 x_) (lawRounds_L3nyn_H s r1 r2 x_) 1003 (outOf 4 (lawRounds_L3nyn_ex y_)) (lawRounds_L3nyn_T1 s r1 r2 y_) (lawRounds_L3nyn_H1 s r1 r2 y_) 1003 := by
  refine block_loop (lawRounds_L3nyn s r1 r2) (lawRounds_L3nyn_T s r1 r2) (lawRounds_L3nyn_H s r1 r2) lawRounds_L3nyn_ex (lawRounds_L3nyn_T1 s r1 r2) (lawRounds_L3nyn_H1 s r1 r2) ?_ ?_ ?_ x_ y_ h_
  · intro r hr; cases r <;> cases hr
  · intro xd y_ hx
    cases hx with
    | p2 d1 m4 r4 l4 d2 d3 => exact lawRounds_L3nyn_p2 s r1 r2 xd d1 m4 r4 l4 d2 d3
    | p3 d1 m4 r4 l4 d2 => exact lawRounds_L3nyn_p3 s r1 r2 xd d1 m4 r4 l4 d2
  · intro xd y_ hx
    cases hx with
    | p1 d1 m4 r4 l4 d2 d3 => exact lawRounds_L3nyn_p1 s r1 r2 xd d1 m4 r4 l4 d2 d3
    | p4 d1 => exact lawRounds_L3nyn_p4 s r1 r2 xd d1

/-- a loop of kotatsu/kotatsulaw14.LoopyRounds: one round -/
def lawRounds_L4nny (s : Scroll) (r1 : Int × Scroll) (r2 : Int × Scroll) (xd : Int × Bool) (xe : Int × Scroll) : (Int × Scroll) ⊕ (Int × Scroll) :=
  if (decide ((xe.1 : Int) < xd.1)) = true then
    .inl ((IntKind.i64.wrap (xe.1 + 1)), (sRight xe.2))
  else
    .inr (xe.1, xe.2)
def lawRounds_L4nny_T (s : Scroll) (r1 : Int × Scroll) (r2 : Int × Scroll) (xd : Int × Bool) (xe : Int × Scroll) : Tm := [(1, .pointer (some ⟨1000, 0, none⟩)), (2, .bool xd.2), (3, .pointer (some ⟨1001, 0, none⟩)), (5, .int .i64 xd.1), (6, .pointer (some ⟨1003, 0, none⟩)), (33, .int .i64 xd.1), (34, .bool (decide ((xd.1 : Int) < 64))), (35, .int .i64 xd.1), (36, .agg ⟨[.int .u16 ((sLook s).V), .int .u16 ((sLook s).T), .int .u8 ((sLook s).X), .bool ((sLook s).W)]⟩), (37, .int .i64 xd.1), (38, .int .i64 xe.1)]
def lawRounds_L4nny_H (s : Scroll) (r1 : Int × Scroll) (r2 : Int × Scroll) (xd : Int × Bool) (xe : Int × Scroll) : Heap := [(1003, ⟨[.one (.int .u16 xe.2.V), .one (.int .u16 xe.2.T), .one (.int .u8 xe.2.X), .one (.bool xe.2.W)], 24, false⟩)]
def lawRounds_L4nny_T1 (s : Scroll) (r1 : Int × Scroll) (r2 : Int × Scroll) (xd : Int × Bool) (r : Int × Scroll) : Tm := lawRounds_L4nny_T s r1 r2 xd r
def lawRounds_L4nny_H1 (s : Scroll) (r1 : Int × Scroll) (r2 : Int × Scroll) (xd : Int × Bool) (r : Int × Scroll) : Heap := lawRounds_L4nny_H s r1 r2 xd r
def lawRounds_L4nny_ex (_ : Int × Scroll) : Ex := .exit 6
theorem lawRounds_L4nny_p1 (s : Scroll) (r1 : Int × Scroll) (r2 : Int × Scroll) (xd : Int × Bool) (xe : Int × Scroll) (e1 : (decide ((xe.1 : Int) < xd.1)) = true) : Runs Try.prog 54 (bodyOf Try.f7 [1, 1, 1, 1, 1, 1, 1, 0, 1, 0, 0, 1, 1, 0, 0, 1, 1, 0, 1, 0, 0]) (lawRounds_L4nny_T s r1 r2 xd xe) (lawRounds_L4nny_H s r1 r2 xd xe) 1004 .normal (lawRounds_L4nny_T s r1 r2 xd ((IntKind.i64.wrap (xe.1 + 1)), (sRight xe.2))) (lawRounds_L4nny_H s r1 r2 xd ((IntKind.i64.wrap (xe.1 + 1)), (sRight xe.2))) 1004 := by
  exact runs_of_x hG hM 400 [.yes, .call [] [] 1000 (Scroll.enc (sRight xe.2)) []] (And.intro e1 (And.intro (sRight_ok xe.2) trivial)) (by kernel_rfl)
theorem lawRounds_L4nny_p2 (s : Scroll) (r1 : Int × Scroll) (r2 : Int × Scroll) (xd : Int × Bool) (xe : Int × Scroll) (e1 : (decide ((xe.1 : Int) < xd.1)) = false) : Runs Try.prog 54 (bodyOf Try.f7 [1, 1, 1, 1, 1, 1, 1, 0, 1, 0, 0, 1, 1, 0, 0, 1, 1, 0, 1, 0, 0]) (lawRounds_L4nny_T s r1 r2 xd xe) (lawRounds_L4nny_H s r1 r2 xd xe) 1004 (.exit 6) (lawRounds_L4nny_T1 s r1 r2 xd (xe.1, xe.2)) (lawRounds_L4nny_H1 s r1 r2 xd (xe.1, xe.2)) 1004 := by
  exact runs_of_x hG hM 400 [.no] (And.intro e1 trivial) (by kernel_rfl)
theorem lawRounds_L4nny_runs (s : Scroll) (r1 : Int × Scroll) (r2 : Int × Scroll) (xd : Int × Bool) (k_ : Nat) (x_ : Int × Scroll) (y_ : Int × Scroll) (h_ : iter (lawRounds_L4nny s r1 r2 xd) k_ x_ = some y_) : Runs Try.prog 54 (.block 6 (.loop (bodyOf Try.f7 [1, 1, 1, 1, 1, 1, 1, 0, 1, 0, 0, 1, 1, 0, 0, 1, 1, 0, 1, 0, 0]))) (lawRounds_L4nny_T s r1 r2 xd x_) (lawRounds_L4nny_H s r1 r2 xd x_) 1004 (outOf 6 (lawRounds_L4nny_ex y_)) (lawRounds_L4nny_T1 s r1 r2 xd y_) (lawRounds_L4nny_H1 s r1 r2 xd y_) 1004 := by
  refine block_iter (lawRounds_L4nny s r1 r2 xd) (lawRounds_L4nny_T s r1 r2 xd) (lawRounds_L4nny_H s r1 r2 xd) lawRounds_L4nny_ex (lawRounds_L4nny_T1 s r1 r2 xd) (lawRounds_L4nny_H1 s r1 r2 xd) ?_ ?_ ?_ k_ x_ y_ h_
  · intro r hr; cases hr
  · intro xe y_ hx
    unfold lawRounds_L4nny at hx
    rcases bt (decide ((xe.1 : Int) < xd.1)) with e1 | e1
    · rw [if_pos e1] at hx
      cases hx; exact lawRounds_L4nny_p1 s r1 r2 xd xe e1
    · rw [if_neg (nt e1)] at hx
      cases hx
  · intro xe y_ hx
    unfold lawRounds_L4nny at hx
    rcases bt (decide ((xe.1 : Int) < xd.1)) with e1 | e1
    · rw [if_pos e1] at hx
      cases hx
    · rw [if_neg (nt e1)] at hx
      cases hx; exact lawRounds_L4nny_p2 s r1 r2 xd xe e1

/-- a loop of kotatsu/kotatsulaw14.LoopyRounds: one round -/
inductive lawRounds_L3nn (s : Scroll) (r1 : Int × Scroll) (r2 : Int × Scroll) (xd : Int × Bool) : (Int × Bool) ⊕ ((Int × Bool) ⊕ Bool) → Prop
  | p1 (d1 : (decide ((xd.1 : Int) < 64)) = true) (m4 : Nat) (r4 : Int × Scroll) (l4 : iter (lawRounds_L4nny s r1 r2 xd) m4 (0, (sLook s)) = some r4) (d2 : (((r4.2.V : Int) == (sLook s).V) && (((r4.2.T : Int) == (sLook s).T) && (((r4.2.X : Int) == (sLook s).X) && ((r4.2.W == (sLook s).W) && true)))) = true) (d3 : (decide ((xd.1 : Int) > 0)) = true) : lawRounds_L3nn s r1 r2 xd (.inr (.inr false))
  | p2 (d1 : (decide ((xd.1 : Int) < 64)) = true) (m4 : Nat) (r4 : Int × Scroll) (l4 : iter (lawRounds_L4nny s r1 r2 xd) m4 (0, (sLook s)) = some r4) (d2 : (((r4.2.V : Int) == (sLook s).V) && (((r4.2.T : Int) == (sLook s).T) && (((r4.2.X : Int) == (sLook s).X) && ((r4.2.W == (sLook s).W) && true)))) = true) (d3 : (decide ((xd.1 : Int) > 0)) = false) : lawRounds_L3nn s r1 r2 xd (.inl ((IntKind.i64.wrap (xd.1 + 1)), xd.2))
  | p3 (d1 : (decide ((xd.1 : Int) < 64)) = true) (m4 : Nat) (r4 : Int × Scroll) (l4 : iter (lawRounds_L4nny s r1 r2 xd) m4 (0, (sLook s)) = some r4) (d2 : (((r4.2.V : Int) == (sLook s).V) && (((r4.2.T : Int) == (sLook s).T) && (((r4.2.X : Int) == (sLook s).X) && ((r4.2.W == (sLook s).W) && true)))) = false) : lawRounds_L3nn s r1 r2 xd (.inl ((IntKind.i64.wrap (xd.1 + 1)), xd.2))
  | p4 (d1 : (decide ((xd.1 : Int) < 64)) = false) : lawRounds_L3nn s r1 r2 xd (.inr (.inl (xd.1, xd.2)))
def lawRounds_L3nn_T (s : Scroll) (r1 : Int × Scroll) (r2 : Int × Scroll) (xd : Int × Bool) : Tm := [(1, .pointer (some ⟨1000, 0, none⟩)), (2, .bool xd.2), (3, .pointer (some ⟨1001, 0, none⟩)), (33, .int .i64 xd.1)]
def lawRounds_L3nn_H (s : Scroll) (r1 : Int × Scroll) (r2 : Int × Scroll) (xd : Int × Bool) : Heap := [(1000, ⟨[.one (.int .u16 ((sLook s).V)), .one (.int .u16 ((sLook s).T)), .one (.int .u8 ((sLook s).X)), .one (.bool ((sLook s).W))], 24, false⟩)]
def lawRounds_L3nn_T1 (s : Scroll) (r1 : Int × Scroll) (r2 : Int × Scroll) : ((Int × Bool) ⊕ Bool) → Tm
  | .inl x => lawRounds_L3nn_T s r1 r2 x
  | .inr v => [(2, .bool v)]
def lawRounds_L3nn_H1 (s : Scroll) (r1 : Int × Scroll) (r2 : Int × Scroll) : ((Int × Bool) ⊕ Bool) → Heap
  | .inl x => lawRounds_L3nn_H s r1 r2 x
  | .inr v => []
def lawRounds_L3nn_ex : ((Int × Bool) ⊕ Bool) → Ex
  | .inl _ => .exit 4
  | .inr _ => .ret
theorem lawRounds_L3nn_p1 (s : Scroll) (r1 : Int × Scroll) (r2 : Int × Scroll) (xd : Int × Bool) (d1 : (decide ((xd.1 : Int) < 64)) = true) (m4 : Nat) (r4 : Int × Scroll) (l4 : iter (lawRounds_L4nny s r1 r2 xd) m4 (0, (sLook s)) = some r4) (d2 : (((r4.2.V : Int) == (sLook s).V) && (((r4.2.T : Int) == (sLook s).T) && (((r4.2.X : Int) == (sLook s).X) && ((r4.2.W == (sLook s).W) && true)))) = true) (d3 : (decide ((xd.1 : Int) > 0)) = true) : Runs Try.prog 54 (bodyOf Try.f7 [1, 1, 1, 1, 1, 1, 1, 0, 1, 0, 0]) (lawRounds_L3nn_T s r1 r2 xd) (lawRounds_L3nn_H s r1 r2 xd) 1003 .ret (lawRounds_L3nn_T1 s r1 r2 (.inr false)) (lawRounds_L3nn_H1 s r1 r2 (.inr false)) 1003 := by
  exact runs_of_x hG hM 400 [.yes, .seg [1, 2, 3, 5, 6, 33, 34, 35, 36, 37, 38] [1003] .normal (lawRounds_L4nny_T1 s r1 r2 xd r4) (lawRounds_L4nny_H1 s r1 r2 xd r4) 1004, .yes, .yes, .yes, .yes] (And.intro d1 (And.intro (lawRounds_L4nny_runs s r1 r2 xd m4 (0, (sLook s)) r4 l4) (And.intro d2 (And.intro d2 (And.intro d2 (And.intro d3 trivial)))))) (by kernel_rfl)
theorem lawRounds_L3nn_p2 (s : Scroll) (r1 : Int × Scroll) (r2 : Int × Scroll) (xd : Int × Bool) (d1 : (decide ((xd.1 : Int) < 64)) = true) (m4 : Nat) (r4 : Int × Scroll) (l4 : iter (lawRounds_L4nny s r1 r2 xd) m4 (0, (sLook s)) = some r4) (d2 : (((r4.2.V : Int) == (sLook s).V) && (((r4.2.T : Int) == (sLook s).T) && (((r4.2.X : Int) == (sLook s).X) && ((r4.2.W == (sLook s).W) && true)))) = true) (d3 : (decide ((xd.1 : Int) > 0)) = false) : Runs Try.prog 54 (bodyOf Try.f7 [1, 1, 1, 1, 1, 1, 1, 0, 1, 0, 0]) (lawRounds_L3nn_T s r1 r2 xd) (lawRounds_L3nn_H s r1 r2 xd) 1003 .normal (lawRounds_L3nn_T s r1 r2 ((IntKind.i64.wrap (xd.1 + 1)), xd.2)) (lawRounds_L3nn_H s r1 r2 ((IntKind.i64.wrap (xd.1 + 1)), xd.2)) 1003 := by
  exact runs_of_x hG hM 400 [.yes, .seg [1, 2, 3, 5, 6, 33, 34, 35, 36, 37, 38] [1003] .normal (lawRounds_L4nny_T1 s r1 r2 xd r4) (lawRounds_L4nny_H1 s r1 r2 xd r4) 1004, .yes, .yes, .yes, .no] (And.intro d1 (And.intro (lawRounds_L4nny_runs s r1 r2 xd m4 (0, (sLook s)) r4 l4) (And.intro d2 (And.intro d2 (And.intro d2 (And.intro d3 trivial)))))) (by kernel_rfl)
theorem lawRounds_L3nn_p3 (s : Scroll) (r1 : Int × Scroll) (r2 : Int × Scroll) (xd : Int × Bool) (d1 : (decide ((xd.1 : Int) < 64)) = true) (m4 : Nat) (r4 : Int × Scroll) (l4 : iter (lawRounds_L4nny s r1 r2 xd) m4 (0, (sLook s)) = some r4) (d2 : (((r4.2.V : Int) == (sLook s).V) && (((r4.2.T : Int) == (sLook s).T) && (((r4.2.X : Int) == (sLook s).X) && ((r4.2.W == (sLook s).W) && true)))) = false) : Runs Try.prog 54 (bodyOf Try.f7 [1, 1, 1, 1, 1, 1, 1, 0, 1, 0, 0]) (lawRounds_L3nn_T s r1 r2 xd) (lawRounds_L3nn_H s r1 r2 xd) 1003 .normal (lawRounds_L3nn_T s r1 r2 ((IntKind.i64.wrap (xd.1 + 1)), xd.2)) (lawRounds_L3nn_H s r1 r2 ((IntKind.i64.wrap (xd.1 + 1)), xd.2)) 1003 := by
  exact runs_of_x hG hM 400 [.yes, .seg [1, 2, 3, 5, 6, 33, 34, 35, 36, 37, 38] [1003] .normal (lawRounds_L4nny_T1 s r1 r2 xd r4) (lawRounds_L4nny_H1 s r1 r2 xd r4) 1004, .no, .no, .no, .no] (And.intro d1 (And.intro (lawRounds_L4nny_runs s r1 r2 xd m4 (0, (sLook s)) r4 l4) (And.intro d2 (And.intro d2 (And.intro d2 (And.intro (Eq.refl false) trivial)))))) (by kernel_rfl)
theorem lawRounds_L3nn_p4 (s : Scroll) (r1 : Int × Scroll) (r2 : Int × Scroll) (xd : Int × Bool) (d1 : (decide ((xd.1 : Int) < 64)) = false) : Runs Try.prog 54 (bodyOf Try.f7 [1, 1, 1, 1, 1, 1, 1, 0, 1, 0, 0]) (lawRounds_L3nn_T s r1 r2 xd) (lawRounds_L3nn_H s r1 r2 xd) 1003 (.exit 4) (lawRounds_L3nn_T1 s r1 r2 (.inl (xd.1, xd.2))) (lawRounds_L3nn_H1 s r1 r2 (.inl (xd.1, xd.2))) 1003 := by
  exact runs_of_x hG hM 400 [.no] (And.intro d1 trivial) (by kernel_rfl)
theorem lawRounds_L3nn_runs (s : Scroll) (r1 : Int × Scroll) (r2 : Int × Scroll) (x_ : Int × Bool) (y_ : (Int × Bool) ⊕ Bool) (h_ : LoopR (lawRounds_L3nn s r1 r2) x_ y_) : Runs Try.prog 54 (.block 4 (.loop (bodyOf Try.f7 [1, 1, 1, 1, 1, 1, 1, 0, 1, 0, 0]))) (lawRounds_L3nn_T s r1 r2 x_) (lawRounds_L3nn_H s r1 r2 x_) 1003 (outOf 4 (lawRounds_L3nn_ex y_)) (lawRounds_L3nn_T1 s r1 r2 y_) (lawRounds_L3nn_H1 s r1 r2 y_) 1003 := by
  refine block_loop (lawRounds_L3nn s r1 r2) (lawRounds_L3nn_T s r1 r2) (lawRounds_L3nn_H s r1 r2) lawRounds_L3nn_ex (lawRounds_L3nn_T1 s r1 r2) (lawRounds_L3nn_H1 s r1 r2) ?_ ?_ ?_ x_ y_ h_
  · intro r hr; cases r <;> cases hr
  · intro xd y_ hx
    cases hx with
    | p2 d1 m4 r4 l4 d2 d3 => exact lawRounds_L3nn_p2 s r1 r2 xd d1 m4 r4 l4 d2 d3
    | p3 d1 m4 r4 l4 d2 => exact lawRounds_L3nn_p3 s r1 r2 xd d1 m4 r4 l4 d2
  · intro xd y_ hx
    cases hx with
    | p1 d1 m4 r4 l4 d2 d3 => exact lawRounds_L3nn_p1 s r1 r2 xd d1 m4 r4 l4 d2 d3
    | p4 d1 => exact lawRounds_L3nn_p4 s r1 r2 xd d1

theorem lawRounds_p1 (s : Scroll) (m1 : Nat) (r1 : Int × Scroll) (l1 : iter (lawRounds_L1n s) m1 (0, (sLook s)) = some r1) (m2 : Nat) (r2 : Int × Scroll) (l2 : iter (lawRounds_L2n s r1) m2 (0, (sLook s)) = some r2) (r3 : Int × Bool) (l3 : LoopR (lawRounds_L3nyn s r1 r2) (0, false) (.inl r3)) (c1 : (!awake) = false) (c2 : (decide (((bAnd .u16 (bShr .u16 ((sLook s).V) 5) 31) : Int) < 30)) = true) (c3 : (!(((r2.2.V : Int) == (sLook s).V) && (((r2.2.T : Int) == (sLook s).T) && (((r2.2.X : Int) == (sLook s).X) && ((r2.2.W == (sLook s).W) && true))))) = false) : FnSpec Try.prog 7 1000 [Scroll.enc s] [] (.bool (((r1.2.V : Int) == (sLook s).V) && (((r1.2.T : Int) == (sLook s).T) && (((r1.2.X : Int) == (sLook s).X) && ((r1.2.W == (sLook s).W) && true))))) [] := by
  exact fn_of_x hG hM Try.func7 (by kernel_rfl) (by kernel_rfl) 400 [.call [] [] 1000 (.bool awake) [], .no, .call [] [] 1000 (Scroll.enc (sLook s)) [], .seg [1, 2, 3, 4, 13] [1001] .normal (lawRounds_L1n_T1 s r1) (lawRounds_L1n_H1 s r1) 1003, .seg [1, 2, 3, 4, 18] [1002] .normal (lawRounds_L2n_T1 s r1 r2) (lawRounds_L2n_H1 s r1 r2) 1003, .yes, .yes, .yes, .yes, .no, .seg [1, 2, 3, 33] [1000] .normal (lawRounds_L3nyn_T1 s r1 r2 (.inl r3)) (lawRounds_L3nyn_H1 s r1 r2 (.inl r3)) 1003] (And.intro (awake_ok) (And.intro c1 (And.intro (sLook_ok s) (And.intro (lawRounds_L1n_runs s m1 (0, (sLook s)) r1 l1) (And.intro (lawRounds_L2n_runs s r1 m2 (0, (sLook s)) r2 l2) (And.intro (by decide : (0 : Int) ≤ 5) (And.intro c2 (And.intro c2 (And.intro c2 (And.intro c2 (And.intro c3 (And.intro (lawRounds_L3nyn_runs s r1 r2 (0, false) (.inl r3) l3) trivial)))))))))))) (by kernel_rfl)
theorem lawRounds_p2 (s : Scroll) (m1 : Nat) (r1 : Int × Scroll) (l1 : iter (lawRounds_L1n s) m1 (0, (sLook s)) = some r1) (m2 : Nat) (r2 : Int × Scroll) (l2 : iter (lawRounds_L2n s r1) m2 (0, (sLook s)) = some r2) (r3 : Bool) (l3 : LoopR (lawRounds_L3nyn s r1 r2) (0, false) (.inr r3)) (c1 : (!awake) = false) (c2 : (decide (((bAnd .u16 (bShr .u16 ((sLook s).V) 5) 31) : Int) < 30)) = true) (c3 : (!(((r2.2.V : Int) == (sLook s).V) && (((r2.2.T : Int) == (sLook s).T) && (((r2.2.X : Int) == (sLook s).X) && ((r2.2.W == (sLook s).W) && true))))) = false) : FnSpec Try.prog 7 1000 [Scroll.enc s] [] (.bool r3) [] := by
  exact fn_of_x hG hM Try.func7 (by kernel_rfl) (by kernel_rfl) 400 [.call [] [] 1000 (.bool awake) [], .no, .call [] [] 1000 (Scroll.enc (sLook s)) [], .seg [1, 2, 3, 4, 13] [1001] .normal (lawRounds_L1n_T1 s r1) (lawRounds_L1n_H1 s r1) 1003, .seg [1, 2, 3, 4, 18] [1002] .normal (lawRounds_L2n_T1 s r1 r2) (lawRounds_L2n_H1 s r1 r2) 1003, .yes, .yes, .yes, .yes, .no, .seg [1, 2, 3, 33] [1000] .ret (lawRounds_L3nyn_T1 s r1 r2 (.inr r3)) (lawRounds_L3nyn_H1 s r1 r2 (.inr r3)) 1003] (And.intro (awake_ok) (And.intro c1 (And.intro (sLook_ok s) (And.intro (lawRounds_L1n_runs s m1 (0, (sLook s)) r1 l1) (And.intro (lawRounds_L2n_runs s r1 m2 (0, (sLook s)) r2 l2) (And.intro (by decide : (0 : Int) ≤ 5) (And.intro c2 (And.intro c2 (And.intro c2 (And.intro c2 (And.intro c3 (And.intro (lawRounds_L3nyn_runs s r1 r2 (0, false) (.inr r3) l3) trivial)))))))))))) (by kernel_rfl)
theorem lawRounds_p3 (s : Scroll) (m1 : Nat) (r1 : Int × Scroll) (l1 : iter (lawRounds_L1n s) m1 (0, (sLook s)) = some r1) (m2 : Nat) (r2 : Int × Scroll) (l2 : iter (lawRounds_L2n s r1) m2 (0, (sLook s)) = some r2) (r3 : Int × Bool) (l3 : LoopR (lawRounds_L3nn s r1 r2) (0, false) (.inl r3)) (c1 : (!awake) = false) (c2 : (decide (((bAnd .u16 (bShr .u16 ((sLook s).V) 5) 31) : Int) < 30)) = false) : FnSpec Try.prog 7 1000 [Scroll.enc s] [] (.bool (((r1.2.V : Int) == (sLook s).V) && (((r1.2.T : Int) == (sLook s).T) && (((r1.2.X : Int) == (sLook s).X) && ((r1.2.W == (sLook s).W) && true))))) [] := by
  exact fn_of_x hG hM Try.func7 (by kernel_rfl) (by kernel_rfl) 400 [.call [] [] 1000 (.bool awake) [], .no, .call [] [] 1000 (Scroll.enc (sLook s)) [], .seg [1, 2, 3, 4, 13] [1001] .normal (lawRounds_L1n_T1 s r1) (lawRounds_L1n_H1 s r1) 1003, .seg [1, 2, 3, 4, 18] [1002] .normal (lawRounds_L2n_T1 s r1 r2) (lawRounds_L2n_H1 s r1 r2) 1003, .no, .no, .no, .no, .no, .seg [1, 2, 3, 33] [1000] .normal (lawRounds_L3nn_T1 s r1 r2 (.inl r3)) (lawRounds_L3nn_H1 s r1 r2 (.inl r3)) 1003] (And.intro (awake_ok) (And.intro c1 (And.intro (sLook_ok s) (And.intro (lawRounds_L1n_runs s m1 (0, (sLook s)) r1 l1) (And.intro (lawRounds_L2n_runs s r1 m2 (0, (sLook s)) r2 l2) (And.intro (by decide : (0 : Int) ≤ 5) (And.intro c2 (And.intro c2 (And.intro c2 (And.intro c2 (And.intro (Eq.refl false) (And.intro (lawRounds_L3nn_runs s r1 r2 (0, false) (.inl r3) l3) trivial)))))))))))) (by kernel_rfl)
theorem lawRounds_p4 (s : Scroll) (m1 : Nat) (r1 : Int × Scroll) (l1 : iter (lawRounds_L1n s) m1 (0, (sLook s)) = some r1) (m2 : Nat) (r2 : Int × Scroll) (l2 : iter (lawRounds_L2n s r1) m2 (0, (sLook s)) = some r2) (r3 : Bool) (l3 : LoopR (lawRounds_L3nn s r1 r2) (0, false) (.inr r3)) (c1 : (!awake) = false) (c2 : (decide (((bAnd .u16 (bShr .u16 ((sLook s).V) 5) 31) : Int) < 30)) = false) : FnSpec Try.prog 7 1000 [Scroll.enc s] [] (.bool r3) [] := by
  exact fn_of_x hG hM Try.func7 (by kernel_rfl) (by kernel_rfl) 400 [.call [] [] 1000 (.bool awake) [], .no, .call [] [] 1000 (Scroll.enc (sLook s)) [], .seg [1, 2, 3, 4, 13] [1001] .normal (lawRounds_L1n_T1 s r1) (lawRounds_L1n_H1 s r1) 1003, .seg [1, 2, 3, 4, 18] [1002] .normal (lawRounds_L2n_T1 s r1 r2) (lawRounds_L2n_H1 s r1 r2) 1003, .no, .no, .no, .no, .no, .seg [1, 2, 3, 33] [1000] .ret (lawRounds_L3nn_T1 s r1 r2 (.inr r3)) (lawRounds_L3nn_H1 s r1 r2 (.inr r3)) 1003] (And.intro (awake_ok) (And.intro c1 (And.intro (sLook_ok s) (And.intro (lawRounds_L1n_runs s m1 (0, (sLook s)) r1 l1) (And.intro (lawRounds_L2n_runs s r1 m2 (0, (sLook s)) r2 l2) (And.intro (by decide : (0 : Int) ≤ 5) (And.intro c2 (And.intro c2 (And.intro c2 (And.intro c2 (And.intro (Eq.refl false) (And.intro (lawRounds_L3nn_runs s r1 r2 (0, false) (.inr r3) l3) trivial)))))))))))) (by kernel_rfl)

end Go.Proofs.Ytonbliaaicacgaa
