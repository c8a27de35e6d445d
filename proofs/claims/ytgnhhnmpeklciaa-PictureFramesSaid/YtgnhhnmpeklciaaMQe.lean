/-
  Texts laid together: NE, NF, NG, NH, NI. No condition.
-/
import Derived.Test.YtgnhhnmpeklciaaMQd
set_option linter.unusedVariables false
set_option linter.unusedSimpArgs false
set_option linter.unusedSectionVars false
set_option maxRecDepth 100000
set_option maxHeartbeats 4000000
namespace Go.Proofs.Ytgnhhnmpeklciaa
open Go VX
open Go.IntKind (i64 u8 u16)
def qDJ1 (r : RPic) (rC : List Man) (x : Int) : Bool :=
  if (rBit r.Mask 8) = true then
    if (decide (x > 7)) = true then
      true
    else
      (rBit r.Mask 2)
  else
    false
def qDJ1_T (r : RPic) (rC : List Man) (x : Int) : Tm := [(0, pt 1000), (1, .int .i64 x), (4, .int .i64 0), (5, .int .i64 0), (6, .int .i64 0), (7, pt 1005)]
def qDJ1_H (r : RPic) (rC : List Man) (x : Int) : Heap := [(1000, ⟨[.one (sl 1001 16384 1), .one (sl 1002 256 1), .one (.int .i64 r.At), .one (.int .i64 r.S.V.Column), .one (.int .i64 r.S.V.Line), .one (.int .i64 r.S.V.Across), .one (.int .i64 r.S.V.Down), .one (.int .i64 r.S.V.Row), .one (.int .i64 r.S.T.Column), .one (.int .i64 r.S.T.Line), .one (.int .i64 r.S.T.Across), .one (.int .i64 r.S.T.Down), .one (.int .i64 r.S.T.Row), .one (.int .i64 r.S.X), .one (.bool r.S.W), .one (.int .i64 r.Control), .one (.int .i64 r.Mask), .one (.bool r.Blank), .one (.bool r.Hit), .one (.bool r.Many), .one (.int .i64 r.Waits), .one (.int .i64 r.Bus), .one (.bool r.Upright), .one (.int .i64 r.Line), .one (.int .i64 r.Dot), .one (.int .i64 r.Begun), .one (.int .i64 r.Done), .one (sl 1004 (List.length rC) 4), .one (sl 1003 61440 1)], 59, false⟩)]
def qDJ1_T1 (r : RPic) (rC : List Man) (x : Int) (r_ : Bool) : Tm := [(0, pt 1000), (1, .int .i64 x), (4, .int .i64 0), (5, .int .i64 0), (6, .int .i64 0), (7, pt 1005), (28, .bool r_)]
def qDJ1_H1 (r : RPic) (rC : List Man) (x : Int) (r_ : Bool) : Heap := [(1000, ⟨[.one (sl 1001 16384 1), .one (sl 1002 256 1), .one (.int .i64 r.At), .one (.int .i64 r.S.V.Column), .one (.int .i64 r.S.V.Line), .one (.int .i64 r.S.V.Across), .one (.int .i64 r.S.V.Down), .one (.int .i64 r.S.V.Row), .one (.int .i64 r.S.T.Column), .one (.int .i64 r.S.T.Line), .one (.int .i64 r.S.T.Across), .one (.int .i64 r.S.T.Down), .one (.int .i64 r.S.T.Row), .one (.int .i64 r.S.X), .one (.bool r.S.W), .one (.int .i64 r.Control), .one (.int .i64 r.Mask), .one (.bool r.Blank), .one (.bool r.Hit), .one (.bool r.Many), .one (.int .i64 r.Waits), .one (.int .i64 r.Bus), .one (.bool r.Upright), .one (.int .i64 r.Line), .one (.int .i64 r.Dot), .one (.int .i64 r.Begun), .one (.int .i64 r.Done), .one (sl 1004 (List.length rC) 4), .one (sl 1003 61440 1)], 59, false⟩)]
theorem qDJ1_p1 (r : RPic) (rC : List Man) (x : Int) (d1 : (rBit r.Mask 8) = true) (d2 : (decide (x > 7)) = true) : Runs Try.prog 179 (bodyOf Try.f78 [1, 1, 0, 0]) (qDJ1_T r rC x) (qDJ1_H r rC x) 1006 .normal (qDJ1_T1 r rC x true) (qDJ1_H1 r rC x true) 1006 := by
  exact runs_of_x hG hM 400 [.call [] [] 1000 (.bool (rBit r.Mask 8)) [], .yes, .yes, .yes, .yes, .yes, .yes, .yes, .yes, .yes, .yes, .yes] (J (rBit_ok r.Mask 8 (by decide : (8 : Int) ≠ 0)) (J d1 (J d1 (J d1 (J d2 (J d2 (J d2 (J d2 (J d2 (J d1 (J d2 (J d1 trivial)))))))))))) (by kernel_rfl)
theorem qDJ1_p2 (r : RPic) (rC : List Man) (x : Int) (d1 : (rBit r.Mask 8) = true) (d2 : (decide (x > 7)) = false) : Runs Try.prog 179 (bodyOf Try.f78 [1, 1, 0, 0]) (qDJ1_T r rC x) (qDJ1_H r rC x) 1006 .normal (qDJ1_T1 r rC x (rBit r.Mask 2)) (qDJ1_H1 r rC x (rBit r.Mask 2)) 1006 := by
  exact runs_of_x hG hM 400 [.call [] [] 1000 (.bool (rBit r.Mask 8)) [], .yes, .yes, .yes, .no, .no, .no, .no, .no, .call [] [] 1000 (.bool (rBit r.Mask 2)) [], .yes, .no, .yes] (J (rBit_ok r.Mask 8 (by decide : (8 : Int) ≠ 0)) (J d1 (J d1 (J d1 (J d2 (J d2 (J d2 (J d2 (J d2 (J (rBit_ok r.Mask 2 (by decide : (2 : Int) ≠ 0)) (J d1 (J d2 (J d1 trivial))))))))))))) (by kernel_rfl)
theorem qDJ1_p3 (r : RPic) (rC : List Man) (x : Int) (d1 : (rBit r.Mask 8) = false) : Runs Try.prog 179 (bodyOf Try.f78 [1, 1, 0, 0]) (qDJ1_T r rC x) (qDJ1_H r rC x) 1006 .normal (qDJ1_T1 r rC x false) (qDJ1_H1 r rC x false) 1006 := by
  exact runs_of_x hG hM 400 [.call [] [] 1000 (.bool (rBit r.Mask 8)) [], .no, .no, .no, .no, .no] (J (rBit_ok r.Mask 8 (by decide : (8 : Int) ≠ 0)) (J d1 (J d1 (J d1 (J d1 (J d1 trivial)))))) (by kernel_rfl)
theorem qDJ1_runs (r : RPic) (rC : List Man) (x : Int) : Runs Try.prog 179 (bodyOf Try.f78 [1, 1, 0, 0]) (qDJ1_T r rC x) (qDJ1_H r rC x) 1006 .normal (qDJ1_T1 r rC x (qDJ1 r rC x)) (qDJ1_H1 r rC x (qDJ1 r rC x)) 1006 := by
  rcases bt (rBit r.Mask 8) with d1 | d1
  ·
    rcases bt (decide (x > 7)) with d2 | d2
    ·
      rw [show qDJ1 r rC x = true from by unfold qDJ1; rw [if_pos d1, if_pos d2]]
      exact qDJ1_p1 r rC x d1 d2
    ·
      rw [show qDJ1 r rC x = (rBit r.Mask 2) from by unfold qDJ1; rw [if_pos d1, if_neg (nt d2)]]
      exact qDJ1_p2 r rC x d1 d2
  ·
    rw [show qDJ1 r rC x = false from by unfold qDJ1; rw [if_neg (nt d1)]]
    exact qDJ1_p3 r rC x d1
def qDJ2 (r : RPic) (rM : Nat → Int) (rN : Nat → Int) (rS : Nat → Int) (rC : List Man) (x : Int) : Int × Int :=
  if (qDJ1 r rC x) = true then
    ((rTileF r rM rN rS rC r.S.V (i64.wrap ((Int.tmod x 8) + r.S.X))).1, (rTileF r rM rN rS rC r.S.V (i64.wrap ((Int.tmod x 8) + r.S.X))).2)
  else
    (0, 0)
def qDJ2_T (r : RPic) (rM : Nat → Int) (rN : Nat → Int) (rS : Nat → Int) (rC : List Man) (x : Int) : Tm := [(0, pt 1000), (1, .int .i64 x), (4, .int .i64 0), (5, .int .i64 0), (6, .int .i64 0), (7, pt 1005), (28, .bool (qDJ1 r rC x))]
def qDJ2_H (r : RPic) (rM : Nat → Int) (rN : Nat → Int) (rS : Nat → Int) (rC : List Man) (x : Int) : Heap := [(1000, ⟨[.one (sl 1001 16384 1), .one (sl 1002 256 1), .one (.int .i64 r.At), .one (.int .i64 r.S.V.Column), .one (.int .i64 r.S.V.Line), .one (.int .i64 r.S.V.Across), .one (.int .i64 r.S.V.Down), .one (.int .i64 r.S.V.Row), .one (.int .i64 r.S.T.Column), .one (.int .i64 r.S.T.Line), .one (.int .i64 r.S.T.Across), .one (.int .i64 r.S.T.Down), .one (.int .i64 r.S.T.Row), .one (.int .i64 r.S.X), .one (.bool r.S.W), .one (.int .i64 r.Control), .one (.int .i64 r.Mask), .one (.bool r.Blank), .one (.bool r.Hit), .one (.bool r.Many), .one (.int .i64 r.Waits), .one (.int .i64 r.Bus), .one (.bool r.Upright), .one (.int .i64 r.Line), .one (.int .i64 r.Dot), .one (.int .i64 r.Begun), .one (.int .i64 r.Done), .one (sl 1004 (List.length rC) 4), .one (sl 1003 61440 1)], 59, false⟩), (1001, iB 16384 rM false), (1002, iB 256 rN false), (1003, iB 61440 rS false), (1004, mB rC false)]
def qDJ2_T1 (r : RPic) (rM : Nat → Int) (rN : Nat → Int) (rS : Nat → Int) (rC : List Man) (x : Int) (r_ : Int × Int) : Tm := [(0, pt 1000), (1, .int .i64 x), (4, .int .i64 r_.1), (5, .int .i64 r_.2), (6, .int .i64 0), (7, pt 1005)]
def qDJ2_H1 (r : RPic) (rM : Nat → Int) (rN : Nat → Int) (rS : Nat → Int) (rC : List Man) (x : Int) (r_ : Int × Int) : Heap := [(1000, ⟨[.one (sl 1001 16384 1), .one (sl 1002 256 1), .one (.int .i64 r.At), .one (.int .i64 r.S.V.Column), .one (.int .i64 r.S.V.Line), .one (.int .i64 r.S.V.Across), .one (.int .i64 r.S.V.Down), .one (.int .i64 r.S.V.Row), .one (.int .i64 r.S.T.Column), .one (.int .i64 r.S.T.Line), .one (.int .i64 r.S.T.Across), .one (.int .i64 r.S.T.Down), .one (.int .i64 r.S.T.Row), .one (.int .i64 r.S.X), .one (.bool r.S.W), .one (.int .i64 r.Control), .one (.int .i64 r.Mask), .one (.bool r.Blank), .one (.bool r.Hit), .one (.bool r.Many), .one (.int .i64 r.Waits), .one (.int .i64 r.Bus), .one (.bool r.Upright), .one (.int .i64 r.Line), .one (.int .i64 r.Dot), .one (.int .i64 r.Begun), .one (.int .i64 r.Done), .one (sl 1004 (List.length rC) 4), .one (sl 1003 61440 1)], 59, false⟩), (1001, iB 16384 rM false), (1002, iB 256 rN false), (1003, iB 61440 rS false), (1004, mB rC false)]
theorem qDJ2_p1 (r : RPic) (rM : Nat → Int) (rN : Nat → Int) (rS : Nat → Int) (rC : List Man) (x : Int) (v1d : ∀ j, rng 256 (rM j)) (v2d : PlaceOk r.S.V) (v3d : 0 ≤ (i64.wrap ((Int.tmod x 8) + r.S.X)) ∧ (i64.wrap ((Int.tmod x 8) + r.S.X)) < 16) (d1 : (qDJ1 r rC x) = true) : Runs Try.prog 179 (bodyOf Try.f78 [1, 1, 0, 1]) (qDJ2_T r rM rN rS rC x) (qDJ2_H r rM rN rS rC x) 1006 .normal (qDJ2_T1 r rM rN rS rC x ((rTileF r rM rN rS rC r.S.V (i64.wrap ((Int.tmod x 8) + r.S.X))).1, (rTileF r rM rN rS rC r.S.V (i64.wrap ((Int.tmod x 8) + r.S.X))).2)) (qDJ2_H1 r rM rN rS rC x ((rTileF r rM rN rS rC r.S.V (i64.wrap ((Int.tmod x 8) + r.S.X))).1, (rTileF r rM rN rS rC r.S.V (i64.wrap ((Int.tmod x 8) + r.S.X))).2)) 1006 := by
  exact runs_of_x hG hM 400 [.yes, .callr [(1000, 1000), (1001, 1001), (1002, 1002), (1003, 1003), (1004, 1004)] [1000, 1001, 1002, 1003, 1004] [] 1005 (.tuple ⟨[.int .i64 ((rTileF r rM rN rS rC r.S.V (i64.wrap ((Int.tmod x 8) + r.S.X))).1), .int .i64 ((rTileF r rM rN rS rC r.S.V (i64.wrap ((Int.tmod x 8) + r.S.X))).2)]⟩) []] (J d1 (J (by decide : ((8 : Int) ≠ 0)) (J (rTileF_ok r rM rN rS rC r.S.V (i64.wrap ((Int.tmod x 8) + r.S.X)) v1d v2d v3d) trivial))) (by kernel_rfl)
theorem qDJ2_p2 (r : RPic) (rM : Nat → Int) (rN : Nat → Int) (rS : Nat → Int) (rC : List Man) (x : Int) (v1d : ∀ j, rng 256 (rM j)) (v2d : PlaceOk r.S.V) (v3d : 0 ≤ (i64.wrap ((Int.tmod x 8) + r.S.X)) ∧ (i64.wrap ((Int.tmod x 8) + r.S.X)) < 16) (d1 : (qDJ1 r rC x) = false) : Runs Try.prog 179 (bodyOf Try.f78 [1, 1, 0, 1]) (qDJ2_T r rM rN rS rC x) (qDJ2_H r rM rN rS rC x) 1006 .normal (qDJ2_T1 r rM rN rS rC x (0, 0)) (qDJ2_H1 r rM rN rS rC x (0, 0)) 1006 := by
  exact runs_of_x hG hM 400 [.no] (J d1 trivial) (by kernel_rfl)
theorem qDJ2_runs (r : RPic) (rM : Nat → Int) (rN : Nat → Int) (rS : Nat → Int) (rC : List Man) (x : Int) (v1d : ∀ j, rng 256 (rM j)) (v2d : PlaceOk r.S.V) (v3d : 0 ≤ (i64.wrap ((Int.tmod x 8) + r.S.X)) ∧ (i64.wrap ((Int.tmod x 8) + r.S.X)) < 16) : Runs Try.prog 179 (bodyOf Try.f78 [1, 1, 0, 1]) (qDJ2_T r rM rN rS rC x) (qDJ2_H r rM rN rS rC x) 1006 .normal (qDJ2_T1 r rM rN rS rC x (qDJ2 r rM rN rS rC x)) (qDJ2_H1 r rM rN rS rC x (qDJ2 r rM rN rS rC x)) 1006 := by
  rcases bt (qDJ1 r rC x) with d1 | d1
  ·
    rw [show qDJ2 r rM rN rS rC x = ((rTileF r rM rN rS rC r.S.V (i64.wrap ((Int.tmod x 8) + r.S.X))).1, (rTileF r rM rN rS rC r.S.V (i64.wrap ((Int.tmod x 8) + r.S.X))).2) from by unfold qDJ2; rw [if_pos d1]]
    exact qDJ2_p1 r rM rN rS rC x v1d v2d v3d d1
  ·
    rw [show qDJ2 r rM rN rS rC x = (0, 0) from by unfold qDJ2; rw [if_neg (nt d1)]]
    exact qDJ2_p2 r rM rN rS rC x v1d v2d v3d d1
def qDJ3 (r : RPic) (rC : List Man) (x : Int) (xd : Int × Int) : Bool :=
  if (rBit r.Mask 16) = true then
    if (decide (x > 7)) = true then
      true
    else
      (rBit r.Mask 4)
  else
    false
def qDJ3_T (r : RPic) (rC : List Man) (x : Int) (xd : Int × Int) : Tm := [(0, pt 1000), (1, .int .i64 x), (4, .int .i64 xd.1), (5, .int .i64 xd.2), (6, .int .i64 0), (7, pt 1005)]
def qDJ3_H (r : RPic) (rC : List Man) (x : Int) (xd : Int × Int) : Heap := [(1000, ⟨[.one (sl 1001 16384 1), .one (sl 1002 256 1), .one (.int .i64 r.At), .one (.int .i64 r.S.V.Column), .one (.int .i64 r.S.V.Line), .one (.int .i64 r.S.V.Across), .one (.int .i64 r.S.V.Down), .one (.int .i64 r.S.V.Row), .one (.int .i64 r.S.T.Column), .one (.int .i64 r.S.T.Line), .one (.int .i64 r.S.T.Across), .one (.int .i64 r.S.T.Down), .one (.int .i64 r.S.T.Row), .one (.int .i64 r.S.X), .one (.bool r.S.W), .one (.int .i64 r.Control), .one (.int .i64 r.Mask), .one (.bool r.Blank), .one (.bool r.Hit), .one (.bool r.Many), .one (.int .i64 r.Waits), .one (.int .i64 r.Bus), .one (.bool r.Upright), .one (.int .i64 r.Line), .one (.int .i64 r.Dot), .one (.int .i64 r.Begun), .one (.int .i64 r.Done), .one (sl 1004 (List.length rC) 4), .one (sl 1003 61440 1)], 59, false⟩)]
def qDJ3_T1 (r : RPic) (rC : List Man) (x : Int) (xd : Int × Int) (r_ : Bool) : Tm := [(0, pt 1000), (1, .int .i64 x), (4, .int .i64 xd.1), (5, .int .i64 xd.2), (6, .int .i64 0), (7, pt 1005), (62, .bool r_)]
def qDJ3_H1 (r : RPic) (rC : List Man) (x : Int) (xd : Int × Int) (r_ : Bool) : Heap := [(1000, ⟨[.one (sl 1001 16384 1), .one (sl 1002 256 1), .one (.int .i64 r.At), .one (.int .i64 r.S.V.Column), .one (.int .i64 r.S.V.Line), .one (.int .i64 r.S.V.Across), .one (.int .i64 r.S.V.Down), .one (.int .i64 r.S.V.Row), .one (.int .i64 r.S.T.Column), .one (.int .i64 r.S.T.Line), .one (.int .i64 r.S.T.Across), .one (.int .i64 r.S.T.Down), .one (.int .i64 r.S.T.Row), .one (.int .i64 r.S.X), .one (.bool r.S.W), .one (.int .i64 r.Control), .one (.int .i64 r.Mask), .one (.bool r.Blank), .one (.bool r.Hit), .one (.bool r.Many), .one (.int .i64 r.Waits), .one (.int .i64 r.Bus), .one (.bool r.Upright), .one (.int .i64 r.Line), .one (.int .i64 r.Dot), .one (.int .i64 r.Begun), .one (.int .i64 r.Done), .one (sl 1004 (List.length rC) 4), .one (sl 1003 61440 1)], 59, false⟩)]
theorem qDJ3_p1 (r : RPic) (rC : List Man) (x : Int) (xd : Int × Int) (d1 : (rBit r.Mask 16) = true) (d2 : (decide (x > 7)) = true) : Runs Try.prog 179 (bodyOf Try.f78 [1, 1, 1, 0, 0]) (qDJ3_T r rC x xd) (qDJ3_H r rC x xd) 1006 .normal (qDJ3_T1 r rC x xd true) (qDJ3_H1 r rC x xd true) 1006 := by
  exact runs_of_x hG hM 400 [.call [] [] 1000 (.bool (rBit r.Mask 16)) [], .yes, .yes, .yes, .yes, .yes, .yes, .yes, .yes, .yes, .yes, .yes] (J (rBit_ok r.Mask 16 (by decide : (16 : Int) ≠ 0)) (J d1 (J d1 (J d1 (J d2 (J d2 (J d2 (J d2 (J d2 (J d1 (J d2 (J d1 trivial)))))))))))) (by kernel_rfl)
theorem qDJ3_p2 (r : RPic) (rC : List Man) (x : Int) (xd : Int × Int) (d1 : (rBit r.Mask 16) = true) (d2 : (decide (x > 7)) = false) : Runs Try.prog 179 (bodyOf Try.f78 [1, 1, 1, 0, 0]) (qDJ3_T r rC x xd) (qDJ3_H r rC x xd) 1006 .normal (qDJ3_T1 r rC x xd (rBit r.Mask 4)) (qDJ3_H1 r rC x xd (rBit r.Mask 4)) 1006 := by
  exact runs_of_x hG hM 400 [.call [] [] 1000 (.bool (rBit r.Mask 16)) [], .yes, .yes, .yes, .no, .no, .no, .no, .no, .call [] [] 1000 (.bool (rBit r.Mask 4)) [], .yes, .no, .yes] (J (rBit_ok r.Mask 16 (by decide : (16 : Int) ≠ 0)) (J d1 (J d1 (J d1 (J d2 (J d2 (J d2 (J d2 (J d2 (J (rBit_ok r.Mask 4 (by decide : (4 : Int) ≠ 0)) (J d1 (J d2 (J d1 trivial))))))))))))) (by kernel_rfl)
theorem qDJ3_p3 (r : RPic) (rC : List Man) (x : Int) (xd : Int × Int) (d1 : (rBit r.Mask 16) = false) : Runs Try.prog 179 (bodyOf Try.f78 [1, 1, 1, 0, 0]) (qDJ3_T r rC x xd) (qDJ3_H r rC x xd) 1006 .normal (qDJ3_T1 r rC x xd false) (qDJ3_H1 r rC x xd false) 1006 := by
  exact runs_of_x hG hM 400 [.call [] [] 1000 (.bool (rBit r.Mask 16)) [], .no, .no, .no, .no, .no] (J (rBit_ok r.Mask 16 (by decide : (16 : Int) ≠ 0)) (J d1 (J d1 (J d1 (J d1 (J d1 trivial)))))) (by kernel_rfl)
theorem qDJ3_runs (r : RPic) (rC : List Man) (x : Int) (xd : Int × Int) : Runs Try.prog 179 (bodyOf Try.f78 [1, 1, 1, 0, 0]) (qDJ3_T r rC x xd) (qDJ3_H r rC x xd) 1006 .normal (qDJ3_T1 r rC x xd (qDJ3 r rC x xd)) (qDJ3_H1 r rC x xd (qDJ3 r rC x xd)) 1006 := by
  rcases bt (rBit r.Mask 16) with d1 | d1
  ·
    rcases bt (decide (x > 7)) with d2 | d2
    ·
      rw [show qDJ3 r rC x xd = true from by unfold qDJ3; rw [if_pos d1, if_pos d2]]
      exact qDJ3_p1 r rC x xd d1 d2
    ·
      rw [show qDJ3 r rC x xd = (rBit r.Mask 4) from by unfold qDJ3; rw [if_pos d1, if_neg (nt d2)]]
      exact qDJ3_p2 r rC x xd d1 d2
  ·
    rw [show qDJ3 r rC x xd = false from by unfold qDJ3; rw [if_neg (nt d1)]]
    exact qDJ3_p3 r rC x xd d1
def qDJ5yyyy (r : RPic) (rM : Nat → Int) (rN : Nat → Int) (rS : Nat → Int) (rC : List Man) (x : Int) (xd : Int × Int × Man) (xe : Man × Int × Bool × Bool) : Int × Man :=
  if xe.2.2.2 = true then
    ((at8 ((List.getD rC (Int.toNat xd.1) Man.nil).Dots) (Int.toNat (i64.wrap (x - (List.getD rC (Int.toNat xd.1) Man.nil).X)))), ({ (List.getD rC (Int.toNat xd.1) Man.nil) with Full := true } : Man))
  else
    (xd.2.1, xe.1)
def qDJ5yyyy_T (r : RPic) (rM : Nat → Int) (rN : Nat → Int) (rS : Nat → Int) (rC : List Man) (x : Int) (xd : Int × Int × Man) (xe : Man × Int × Bool × Bool) : Tm := [(0, pt 1000), (1, .int .i64 x), (4, .int .i64 ((qDJ2 r rM rN rS rC x).1)), (5, .int .i64 ((qDJ2 r rM rN rS rC x).2)), (6, .int .i64 xd.2.1), (7, pt 1005), (8, .int .i64 xd.1), (9, pt 1006), (69, .int .i64 xd.1), (70, .bool (decide (xd.1 ≥ 0))), (73, pt 1000), (74, pt 1000), (75, .pointer (some ⟨1000, 27, none⟩)), (76, sl 1004 (List.length rC) 4), (77, .int .i64 xd.1), (78, .pointer (some ⟨1004, (Int.toNat xd.1 * 4), (some 0)⟩)), (79, .agg ⟨[.int .i64 ((List.getD rC (Int.toNat xd.1) Man.nil).X), .int .i64 ((List.getD rC (Int.toNat xd.1) Man.nil).Look), .bool ((List.getD rC (Int.toNat xd.1) Man.nil).First), .func (.yield 1) ⟨[.int .i64 (((List.getD rC (Int.toNat xd.1) Man.nil).Dots) 0), .int .i64 (((List.getD rC (Int.toNat xd.1) Man.nil).Dots) 1), .int .i64 (((List.getD rC (Int.toNat xd.1) Man.nil).Dots) 2), .int .i64 (((List.getD rC (Int.toNat xd.1) Man.nil).Dots) 3), .int .i64 (((List.getD rC (Int.toNat xd.1) Man.nil).Dots) 4), .int .i64 (((List.getD rC (Int.toNat xd.1) Man.nil).Dots) 5), .int .i64 (((List.getD rC (Int.toNat xd.1) Man.nil).Dots) 6), .int .i64 (((List.getD rC (Int.toNat xd.1) Man.nil).Dots) 7)]⟩ ⟨[.bool true]⟩]⟩), (80, .int .i64 x), (81, pt 1006), (82, .int .i64 ((List.getD rC (Int.toNat xd.1) Man.nil).X)), (83, .bool (decide (x ≥ (List.getD rC (Int.toNat xd.1) Man.nil).X))), (84, .bool (decide (x ≥ (List.getD rC (Int.toNat xd.1) Man.nil).X))), (85, .int .i64 x), (86, pt 1006), (87, .int .i64 ((List.getD rC (Int.toNat xd.1) Man.nil).X)), (88, .int .i64 (i64.wrap ((List.getD rC (Int.toNat xd.1) Man.nil).X + 8))), (89, .bool (decide (x < (i64.wrap ((List.getD rC (Int.toNat xd.1) Man.nil).X + 8))))), (90, .bool (decide (x < (i64.wrap ((List.getD rC (Int.toNat xd.1) Man.nil).X + 8))))), (91, .bool (decide (x < (i64.wrap ((List.getD rC (Int.toNat xd.1) Man.nil).X + 8))))), (92, .pointer (some ⟨1006, 3, none⟩)), (93, .func (.yield 1) ⟨[.int .i64 (((List.getD rC (Int.toNat xd.1) Man.nil).Dots) 0), .int .i64 (((List.getD rC (Int.toNat xd.1) Man.nil).Dots) 1), .int .i64 (((List.getD rC (Int.toNat xd.1) Man.nil).Dots) 2), .int .i64 (((List.getD rC (Int.toNat xd.1) Man.nil).Dots) 3), .int .i64 (((List.getD rC (Int.toNat xd.1) Man.nil).Dots) 4), .int .i64 (((List.getD rC (Int.toNat xd.1) Man.nil).Dots) 5), .int .i64 (((List.getD rC (Int.toNat xd.1) Man.nil).Dots) 6), .int .i64 (((List.getD rC (Int.toNat xd.1) Man.nil).Dots) 7)]⟩ ⟨[.bool true]⟩), (94, .int .i64 x), (95, pt 1006), (96, .int .i64 ((List.getD rC (Int.toNat xd.1) Man.nil).X)), (97, .int .i64 (i64.wrap (x - (List.getD rC (Int.toNat xd.1) Man.nil).X))), (98, .func (.method "") ⟨[.int .i64 (at8 ((List.getD rC (Int.toNat xd.1) Man.nil).Dots) (Int.toNat (i64.wrap (x - (List.getD rC (Int.toNat xd.1) Man.nil).X))))]⟩ ⟨[]⟩), (99, .int .i64 xe.2.1), (100, .bool xe.2.2.1), (101, .bool xe.2.2.2)]
def qDJ5yyyy_H (r : RPic) (rM : Nat → Int) (rN : Nat → Int) (rS : Nat → Int) (rC : List Man) (x : Int) (xd : Int × Int × Man) (xe : Man × Int × Bool × Bool) : Heap := [(1005, Man.blk xe.1), (1006, ⟨[.one (.int .i64 ((List.getD rC (Int.toNat xd.1) Man.nil).X)), .one (.int .i64 ((List.getD rC (Int.toNat xd.1) Man.nil).Look)), .one (.bool ((List.getD rC (Int.toNat xd.1) Man.nil).First)), .one (.func (.yield 1) ⟨[.int .i64 (((List.getD rC (Int.toNat xd.1) Man.nil).Dots) 0), .int .i64 (((List.getD rC (Int.toNat xd.1) Man.nil).Dots) 1), .int .i64 (((List.getD rC (Int.toNat xd.1) Man.nil).Dots) 2), .int .i64 (((List.getD rC (Int.toNat xd.1) Man.nil).Dots) 3), .int .i64 (((List.getD rC (Int.toNat xd.1) Man.nil).Dots) 4), .int .i64 (((List.getD rC (Int.toNat xd.1) Man.nil).Dots) 5), .int .i64 (((List.getD rC (Int.toNat xd.1) Man.nil).Dots) 6), .int .i64 (((List.getD rC (Int.toNat xd.1) Man.nil).Dots) 7)]⟩ ⟨[.bool true]⟩)], 119, false⟩)]
def qDJ5yyyy_T1 (r : RPic) (rM : Nat → Int) (rN : Nat → Int) (rS : Nat → Int) (rC : List Man) (x : Int) (xd : Int × Int × Man) (xe : Man × Int × Bool × Bool) (r_ : Int × Man) : Tm := [(0, pt 1000), (1, .int .i64 x), (4, .int .i64 ((qDJ2 r rM rN rS rC x).1)), (5, .int .i64 ((qDJ2 r rM rN rS rC x).2)), (6, .int .i64 r_.1), (7, pt 1005), (8, .int .i64 xd.1), (9, pt 1006), (69, .int .i64 xd.1), (70, .bool (decide (xd.1 ≥ 0))), (73, pt 1000), (74, pt 1000), (75, .pointer (some ⟨1000, 27, none⟩)), (76, sl 1004 (List.length rC) 4), (77, .int .i64 xd.1), (78, .pointer (some ⟨1004, (Int.toNat xd.1 * 4), (some 0)⟩)), (79, .agg ⟨[.int .i64 ((List.getD rC (Int.toNat xd.1) Man.nil).X), .int .i64 ((List.getD rC (Int.toNat xd.1) Man.nil).Look), .bool ((List.getD rC (Int.toNat xd.1) Man.nil).First), .func (.yield 1) ⟨[.int .i64 (((List.getD rC (Int.toNat xd.1) Man.nil).Dots) 0), .int .i64 (((List.getD rC (Int.toNat xd.1) Man.nil).Dots) 1), .int .i64 (((List.getD rC (Int.toNat xd.1) Man.nil).Dots) 2), .int .i64 (((List.getD rC (Int.toNat xd.1) Man.nil).Dots) 3), .int .i64 (((List.getD rC (Int.toNat xd.1) Man.nil).Dots) 4), .int .i64 (((List.getD rC (Int.toNat xd.1) Man.nil).Dots) 5), .int .i64 (((List.getD rC (Int.toNat xd.1) Man.nil).Dots) 6), .int .i64 (((List.getD rC (Int.toNat xd.1) Man.nil).Dots) 7)]⟩ ⟨[.bool true]⟩]⟩), (80, .int .i64 x), (81, pt 1006), (82, .int .i64 ((List.getD rC (Int.toNat xd.1) Man.nil).X)), (83, .bool (decide (x ≥ (List.getD rC (Int.toNat xd.1) Man.nil).X))), (84, .bool (decide (x ≥ (List.getD rC (Int.toNat xd.1) Man.nil).X))), (85, .int .i64 x), (86, pt 1006), (87, .int .i64 ((List.getD rC (Int.toNat xd.1) Man.nil).X)), (88, .int .i64 (i64.wrap ((List.getD rC (Int.toNat xd.1) Man.nil).X + 8))), (89, .bool (decide (x < (i64.wrap ((List.getD rC (Int.toNat xd.1) Man.nil).X + 8))))), (90, .bool (decide (x < (i64.wrap ((List.getD rC (Int.toNat xd.1) Man.nil).X + 8))))), (91, .bool (decide (x < (i64.wrap ((List.getD rC (Int.toNat xd.1) Man.nil).X + 8))))), (92, .pointer (some ⟨1006, 3, none⟩)), (93, .func (.yield 1) ⟨[.int .i64 (((List.getD rC (Int.toNat xd.1) Man.nil).Dots) 0), .int .i64 (((List.getD rC (Int.toNat xd.1) Man.nil).Dots) 1), .int .i64 (((List.getD rC (Int.toNat xd.1) Man.nil).Dots) 2), .int .i64 (((List.getD rC (Int.toNat xd.1) Man.nil).Dots) 3), .int .i64 (((List.getD rC (Int.toNat xd.1) Man.nil).Dots) 4), .int .i64 (((List.getD rC (Int.toNat xd.1) Man.nil).Dots) 5), .int .i64 (((List.getD rC (Int.toNat xd.1) Man.nil).Dots) 6), .int .i64 (((List.getD rC (Int.toNat xd.1) Man.nil).Dots) 7)]⟩ ⟨[.bool true]⟩), (94, .int .i64 x), (95, pt 1006), (96, .int .i64 ((List.getD rC (Int.toNat xd.1) Man.nil).X)), (97, .int .i64 (i64.wrap (x - (List.getD rC (Int.toNat xd.1) Man.nil).X))), (98, .func (.method "") ⟨[.int .i64 (at8 ((List.getD rC (Int.toNat xd.1) Man.nil).Dots) (Int.toNat (i64.wrap (x - (List.getD rC (Int.toNat xd.1) Man.nil).X))))]⟩ ⟨[]⟩), (99, .int .i64 xe.2.1), (100, .bool xe.2.2.1), (101, .bool xe.2.2.2)]
def qDJ5yyyy_H1 (r : RPic) (rM : Nat → Int) (rN : Nat → Int) (rS : Nat → Int) (rC : List Man) (x : Int) (xd : Int × Int × Man) (xe : Man × Int × Bool × Bool) (r_ : Int × Man) : Heap := [(1005, Man.blk r_.2), (1006, ⟨[.one (.int .i64 ((List.getD rC (Int.toNat xd.1) Man.nil).X)), .one (.int .i64 ((List.getD rC (Int.toNat xd.1) Man.nil).Look)), .one (.bool ((List.getD rC (Int.toNat xd.1) Man.nil).First)), .one (.func (.yield 1) ⟨[.int .i64 (((List.getD rC (Int.toNat xd.1) Man.nil).Dots) 0), .int .i64 (((List.getD rC (Int.toNat xd.1) Man.nil).Dots) 1), .int .i64 (((List.getD rC (Int.toNat xd.1) Man.nil).Dots) 2), .int .i64 (((List.getD rC (Int.toNat xd.1) Man.nil).Dots) 3), .int .i64 (((List.getD rC (Int.toNat xd.1) Man.nil).Dots) 4), .int .i64 (((List.getD rC (Int.toNat xd.1) Man.nil).Dots) 5), .int .i64 (((List.getD rC (Int.toNat xd.1) Man.nil).Dots) 6), .int .i64 (((List.getD rC (Int.toNat xd.1) Man.nil).Dots) 7)]⟩ ⟨[.bool true]⟩)], 119, false⟩)]
theorem qDJ5yyyy_p1 (r : RPic) (rM : Nat → Int) (rN : Nat → Int) (rS : Nat → Int) (rC : List Man) (x : Int) (xd : Int × Int × Man) (xe : Man × Int × Bool × Bool) (w5d : 0 ≤ (i64.wrap (x - (List.getD rC (Int.toNat xd.1) Man.nil).X)) ∧ (i64.wrap (x - (List.getD rC (Int.toNat xd.1) Man.nil).X)) < ((8 : Nat) : Int)) (e1 : xe.2.2.2 = true) : Runs Try.prog 179 (bodyOf Try.f78 [1, 1, 1, 0, 1, 0, 1, 0, 0, 1, 0, 0, 1, 1]) (qDJ5yyyy_T r rM rN rS rC x xd xe) (qDJ5yyyy_H r rM rN rS rC x xd xe) 1007 .normal (qDJ5yyyy_T1 r rM rN rS rC x xd xe ((at8 ((List.getD rC (Int.toNat xd.1) Man.nil).Dots) (Int.toNat (i64.wrap (x - (List.getD rC (Int.toNat xd.1) Man.nil).X)))), ({ (List.getD rC (Int.toNat xd.1) Man.nil) with Full := true } : Man))) (qDJ5yyyy_H1 r rM rN rS rC x xd xe ((at8 ((List.getD rC (Int.toNat xd.1) Man.nil).Dots) (Int.toNat (i64.wrap (x - (List.getD rC (Int.toNat xd.1) Man.nil).X)))), ({ (List.getD rC (Int.toNat xd.1) Man.nil) with Full := true } : Man))) 1007 := by
  exact runs_of_x hG hM 400 [.yes, .sym] (J e1 (J T1 (J w5d trivial))) (by kernel_rfl)
theorem qDJ5yyyy_p2 (r : RPic) (rM : Nat → Int) (rN : Nat → Int) (rS : Nat → Int) (rC : List Man) (x : Int) (xd : Int × Int × Man) (xe : Man × Int × Bool × Bool) (w5d : 0 ≤ (i64.wrap (x - (List.getD rC (Int.toNat xd.1) Man.nil).X)) ∧ (i64.wrap (x - (List.getD rC (Int.toNat xd.1) Man.nil).X)) < ((8 : Nat) : Int)) (e1 : xe.2.2.2 = false) : Runs Try.prog 179 (bodyOf Try.f78 [1, 1, 1, 0, 1, 0, 1, 0, 0, 1, 0, 0, 1, 1]) (qDJ5yyyy_T r rM rN rS rC x xd xe) (qDJ5yyyy_H r rM rN rS rC x xd xe) 1007 .normal (qDJ5yyyy_T1 r rM rN rS rC x xd xe (xd.2.1, xe.1)) (qDJ5yyyy_H1 r rM rN rS rC x xd xe (xd.2.1, xe.1)) 1007 := by
  exact runs_of_x hG hM 400 [.no] (J e1 trivial) (by kernel_rfl)
abbrev NEk0 (rC : List Man) (xd : Int × Int × Man) (x : Int) := (at8 ((List.getD rC (Int.toNat xd.1) Man.nil).Dots) (Int.toNat (i64.wrap (x - (List.getD rC (Int.toNat xd.1) Man.nil).X))))
theorem qDJ5yyyy_runs (r : RPic) (rM : Nat → Int) (rN : Nat → Int) (rS : Nat → Int) (rC : List Man) (x : Int) (xd : Int × Int × Man) (xe : Man × Int × Bool × Bool) (w5d : 0 ≤ (i64.wrap (x - (List.getD rC (Int.toNat xd.1) Man.nil).X)) ∧ (i64.wrap (x - (List.getD rC (Int.toNat xd.1) Man.nil).X)) < ((8 : Nat) : Int)) : Runs Try.prog 179 (bodyOf Try.f78 [1, 1, 1, 0, 1, 0, 1, 0, 0, 1, 0, 0, 1, 1]) (qDJ5yyyy_T r rM rN rS rC x xd xe) (qDJ5yyyy_H r rM rN rS rC x xd xe) 1007 .normal (qDJ5yyyy_T1 r rM rN rS rC x xd xe (qDJ5yyyy r rM rN rS rC x xd xe)) (qDJ5yyyy_H1 r rM rN rS rC x xd xe (qDJ5yyyy r rM rN rS rC x xd xe)) 1007 := by
  rcases bt xe.2.2.2 with e1 | e1
  ·
    rw [show qDJ5yyyy r rM rN rS rC x xd xe = ((NEk0 rC xd x), ({ (List.getD rC (Int.toNat xd.1) Man.nil) with Full := true } : Man)) from by unfold qDJ5yyyy; rw [if_pos e1]]
    exact qDJ5yyyy_p1 r rM rN rS rC x xd xe w5d e1
  ·
    rw [show qDJ5yyyy r rM rN rS rC x xd xe = (xd.2.1, xe.1) from by unfold qDJ5yyyy; rw [if_neg (nt e1)]]
    exact qDJ5yyyy_p2 r rM rN rS rC x xd xe w5d e1
inductive qDL4y (r : RPic) (rM : Nat → Int) (rN : Nat → Int) (rS : Nat → Int) (rC : List Man) (x : Int) (xd : Int × Int × Man) : (Int × Int × Man) ⊕ (Int × Int × Man) → Prop
  | p1 (d1 : (decide (xd.1 ≥ 0)) = true) (w4d : 0 ≤ xd.1 ∧ xd.1 < (((List.length rC) : Nat) : Int)) (d2 : (decide (x ≥ (List.getD rC (Int.toNat xd.1) Man.nil).X)) = true) (d3 : (decide (x < (i64.wrap ((List.getD rC (Int.toNat xd.1) Man.nil).X + 8)))) = true) (w5d : 0 ≤ (i64.wrap (x - (List.getD rC (Int.toNat xd.1) Man.nil).X)) ∧ (i64.wrap (x - (List.getD rC (Int.toNat xd.1) Man.nil).X)) < ((8 : Nat) : Int)) : qDL4y r rM rN rS rC x xd (.inl ((i64.wrap (xd.1 - 1)), (qDJ5yyyy r rM rN rS rC x xd (xd.2.2, (at8 ((List.getD rC (Int.toNat xd.1) Man.nil).Dots) (Int.toNat (i64.wrap (x - (List.getD rC (Int.toNat xd.1) Man.nil).X)))), (decide ((at8 ((List.getD rC (Int.toNat xd.1) Man.nil).Dots) (Int.toNat (i64.wrap (x - (List.getD rC (Int.toNat xd.1) Man.nil).X)))) > 0)), (decide ((at8 ((List.getD rC (Int.toNat xd.1) Man.nil).Dots) (Int.toNat (i64.wrap (x - (List.getD rC (Int.toNat xd.1) Man.nil).X)))) > 0)))).1, (qDJ5yyyy r rM rN rS rC x xd (xd.2.2, (at8 ((List.getD rC (Int.toNat xd.1) Man.nil).Dots) (Int.toNat (i64.wrap (x - (List.getD rC (Int.toNat xd.1) Man.nil).X)))), (decide ((at8 ((List.getD rC (Int.toNat xd.1) Man.nil).Dots) (Int.toNat (i64.wrap (x - (List.getD rC (Int.toNat xd.1) Man.nil).X)))) > 0)), (decide ((at8 ((List.getD rC (Int.toNat xd.1) Man.nil).Dots) (Int.toNat (i64.wrap (x - (List.getD rC (Int.toNat xd.1) Man.nil).X)))) > 0)))).2))
  | p2 (d1 : (decide (xd.1 ≥ 0)) = true) (w4d : 0 ≤ xd.1 ∧ xd.1 < (((List.length rC) : Nat) : Int)) (d2 : (decide (x ≥ (List.getD rC (Int.toNat xd.1) Man.nil).X)) = true) (d3 : (decide (x < (i64.wrap ((List.getD rC (Int.toNat xd.1) Man.nil).X + 8)))) = false) : qDL4y r rM rN rS rC x xd (.inl ((i64.wrap (xd.1 - 1)), xd.2.1, xd.2.2))
  | p3 (d1 : (decide (xd.1 ≥ 0)) = true) (w4d : 0 ≤ xd.1 ∧ xd.1 < (((List.length rC) : Nat) : Int)) (d2 : (decide (x ≥ (List.getD rC (Int.toNat xd.1) Man.nil).X)) = false) : qDL4y r rM rN rS rC x xd (.inl ((i64.wrap (xd.1 - 1)), xd.2.1, xd.2.2))
  | p4 (d1 : (decide (xd.1 ≥ 0)) = false) : qDL4y r rM rN rS rC x xd (.inr (xd.1, xd.2.1, xd.2.2))
def qDL4y_T (r : RPic) (rM : Nat → Int) (rN : Nat → Int) (rS : Nat → Int) (rC : List Man) (x : Int) (xd : Int × Int × Man) : Tm := [(0, pt 1000), (1, .int .i64 x), (4, .int .i64 ((qDJ2 r rM rN rS rC x).1)), (5, .int .i64 ((qDJ2 r rM rN rS rC x).2)), (6, .int .i64 xd.2.1), (7, pt 1005), (8, .int .i64 xd.1)]
def qDL4y_H (r : RPic) (rM : Nat → Int) (rN : Nat → Int) (rS : Nat → Int) (rC : List Man) (x : Int) (xd : Int × Int × Man) : Heap := [(1000, (RPic.bl r (sl 1001 16384 1) (sl 1002 256 1) (sl 1004 (List.length rC) 4) (sl 1003 61440 1) false)), (1004, mB rC false), (1005, (Man.blk xd.2.2))]
def qDL4y_T1 (r : RPic) (rM : Nat → Int) (rN : Nat → Int) (rS : Nat → Int) (rC : List Man) (x : Int) (y_ : Int × Int × Man) : Tm := qDL4y_T r rM rN rS rC x y_
def qDL4y_H1 (r : RPic) (rM : Nat → Int) (rN : Nat → Int) (rS : Nat → Int) (rC : List Man) (x : Int) (y_ : Int × Int × Man) : Heap := qDL4y_H r rM rN rS rC x y_
def qDL4y_ex (_ : Int × Int × Man) : Ex := .exit 0
abbrev NEk3 (xd : Int × Int × Man) (rC : List Man) (x : Int) := (xd.2.2, (NEk0 rC xd x), (decide ((NEk0 rC xd x) > 0)), (decide ((NEk0 rC xd x) > 0)))
theorem qDL4y_p1 (r : RPic) (rM : Nat → Int) (rN : Nat → Int) (rS : Nat → Int) (rC : List Man) (x : Int) (xd : Int × Int × Man) (d1 : (decide (xd.1 ≥ 0)) = true) (w4d : 0 ≤ xd.1 ∧ xd.1 < (((List.length rC) : Nat) : Int)) (d2 : (decide (x ≥ (List.getD rC (Int.toNat xd.1) Man.nil).X)) = true) (d3 : (decide (x < (i64.wrap ((List.getD rC (Int.toNat xd.1) Man.nil).X + 8)))) = true) (w5d : 0 ≤ (i64.wrap (x - (List.getD rC (Int.toNat xd.1) Man.nil).X)) ∧ (i64.wrap (x - (List.getD rC (Int.toNat xd.1) Man.nil).X)) < ((8 : Nat) : Int)) : Runs Try.prog 179 (bodyOf Try.f78 [1, 1, 1, 0, 1, 0, 1, 0, 0]) (qDL4y_T r rM rN rS rC x xd) (qDL4y_H r rM rN rS rC x xd) 1006 .normal (qDL4y_T r rM rN rS rC x ((i64.wrap (xd.1 - 1)), (qDJ5yyyy r rM rN rS rC x xd (xd.2.2, (at8 ((List.getD rC (Int.toNat xd.1) Man.nil).Dots) (Int.toNat (i64.wrap (x - (List.getD rC (Int.toNat xd.1) Man.nil).X)))), (decide ((at8 ((List.getD rC (Int.toNat xd.1) Man.nil).Dots) (Int.toNat (i64.wrap (x - (List.getD rC (Int.toNat xd.1) Man.nil).X)))) > 0)), (decide ((at8 ((List.getD rC (Int.toNat xd.1) Man.nil).Dots) (Int.toNat (i64.wrap (x - (List.getD rC (Int.toNat xd.1) Man.nil).X)))) > 0)))).1, (qDJ5yyyy r rM rN rS rC x xd (xd.2.2, (at8 ((List.getD rC (Int.toNat xd.1) Man.nil).Dots) (Int.toNat (i64.wrap (x - (List.getD rC (Int.toNat xd.1) Man.nil).X)))), (decide ((at8 ((List.getD rC (Int.toNat xd.1) Man.nil).Dots) (Int.toNat (i64.wrap (x - (List.getD rC (Int.toNat xd.1) Man.nil).X)))) > 0)), (decide ((at8 ((List.getD rC (Int.toNat xd.1) Man.nil).Dots) (Int.toNat (i64.wrap (x - (List.getD rC (Int.toNat xd.1) Man.nil).X)))) > 0)))).2)) (qDL4y_H r rM rN rS rC x ((i64.wrap (xd.1 - 1)), (qDJ5yyyy r rM rN rS rC x xd (xd.2.2, (at8 ((List.getD rC (Int.toNat xd.1) Man.nil).Dots) (Int.toNat (i64.wrap (x - (List.getD rC (Int.toNat xd.1) Man.nil).X)))), (decide ((at8 ((List.getD rC (Int.toNat xd.1) Man.nil).Dots) (Int.toNat (i64.wrap (x - (List.getD rC (Int.toNat xd.1) Man.nil).X)))) > 0)), (decide ((at8 ((List.getD rC (Int.toNat xd.1) Man.nil).Dots) (Int.toNat (i64.wrap (x - (List.getD rC (Int.toNat xd.1) Man.nil).X)))) > 0)))).1, (qDJ5yyyy r rM rN rS rC x xd (xd.2.2, (at8 ((List.getD rC (Int.toNat xd.1) Man.nil).Dots) (Int.toNat (i64.wrap (x - (List.getD rC (Int.toNat xd.1) Man.nil).X)))), (decide ((at8 ((List.getD rC (Int.toNat xd.1) Man.nil).Dots) (Int.toNat (i64.wrap (x - (List.getD rC (Int.toNat xd.1) Man.nil).X)))) > 0)), (decide ((at8 ((List.getD rC (Int.toNat xd.1) Man.nil).Dots) (Int.toNat (i64.wrap (x - (List.getD rC (Int.toNat xd.1) Man.nil).X)))) > 0)))).2)) 1006 := by
  exact runs_of_x hG hM 400 [.yes, .sym, .row (Int.toNat xd.1) 0, .yes, .yes, .yes, .yes, .yes, .yes, .yes, .yes, .yes, .yes, .yes, .yes, .yes, .sym, .yes, .yes, .yes, .segk 2 0 [0, 1, 4, 5, 6, 7, 8, 9, 69, 70, 73, 74, 75, 76, 77, 78, 79, 80, 81, 82, 83, 84, 85, 86, 87, 88, 89, 90, 91, 92, 93, 94, 95, 96, 97, 98, 99, 100, 101] [1005, 1006] .normal (qDJ5yyyy_T1 r rM rN rS rC x xd (NEk3 xd rC x) (qDJ5yyyy r rM rN rS rC x xd (NEk3 xd rC x))) (qDJ5yyyy_H1 r rM rN rS rC x xd (NEk3 xd rC x) (qDJ5yyyy r rM rN rS rC x xd (NEk3 xd rC x))) 1007] (J d1 (J w4d (J (Eq.refl ((Int.toNat xd.1 * 4) : Nat)) (J (lt_nat w4d) (J d2 (J d2 (J d2 (J d2 (J d2 (J d2 (J d3 (J d3 (J d3 (J d3 (J d3 (J d3 (J d3 (J T1 (J w5d (J d3 (J d3 (J d3 (J (qDJ5yyyy_runs r rM rN rS rC x xd (NEk3 xd rC x) w5d) trivial))))))))))))))))))))))) (by kernel_rfl)
theorem qDL4y_p2 (r : RPic) (rM : Nat → Int) (rN : Nat → Int) (rS : Nat → Int) (rC : List Man) (x : Int) (xd : Int × Int × Man) (d1 : (decide (xd.1 ≥ 0)) = true) (w4d : 0 ≤ xd.1 ∧ xd.1 < (((List.length rC) : Nat) : Int)) (d2 : (decide (x ≥ (List.getD rC (Int.toNat xd.1) Man.nil).X)) = true) (d3 : (decide (x < (i64.wrap ((List.getD rC (Int.toNat xd.1) Man.nil).X + 8)))) = false) : Runs Try.prog 179 (bodyOf Try.f78 [1, 1, 1, 0, 1, 0, 1, 0, 0]) (qDL4y_T r rM rN rS rC x xd) (qDL4y_H r rM rN rS rC x xd) 1006 .normal (qDL4y_T r rM rN rS rC x ((i64.wrap (xd.1 - 1)), xd.2.1, xd.2.2)) (qDL4y_H r rM rN rS rC x ((i64.wrap (xd.1 - 1)), xd.2.1, xd.2.2)) 1006 := by
  exact runs_of_x hG hM 400 [.yes, .sym, .row (Int.toNat xd.1) 0, .yes, .yes, .yes, .yes, .yes, .yes, .no, .no, .no, .no, .no, .no, .no, .no, .no, .no, .no] (J d1 (J w4d (J (Eq.refl ((Int.toNat xd.1 * 4) : Nat)) (J (lt_nat w4d) (J d2 (J d2 (J d2 (J d2 (J d2 (J d2 (J d3 (J d3 (J d3 (J d3 (J d3 (J d3 (J d3 (J d3 (J d3 (J d3 (J T0 trivial))))))))))))))))))))) (by kernel_rfl)
theorem qDL4y_p3 (r : RPic) (rM : Nat → Int) (rN : Nat → Int) (rS : Nat → Int) (rC : List Man) (x : Int) (xd : Int × Int × Man) (d1 : (decide (xd.1 ≥ 0)) = true) (w4d : 0 ≤ xd.1 ∧ xd.1 < (((List.length rC) : Nat) : Int)) (d2 : (decide (x ≥ (List.getD rC (Int.toNat xd.1) Man.nil).X)) = false) : Runs Try.prog 179 (bodyOf Try.f78 [1, 1, 1, 0, 1, 0, 1, 0, 0]) (qDL4y_T r rM rN rS rC x xd) (qDL4y_H r rM rN rS rC x xd) 1006 .normal (qDL4y_T r rM rN rS rC x ((i64.wrap (xd.1 - 1)), xd.2.1, xd.2.2)) (qDL4y_H r rM rN rS rC x ((i64.wrap (xd.1 - 1)), xd.2.1, xd.2.2)) 1006 := by
  exact runs_of_x hG hM 400 [.yes, .sym, .row (Int.toNat xd.1) 0, .no, .no, .no, .no, .no, .no, .no, .no, .no, .no, .no, .no, .no, .no, .no, .no, .no] (J d1 (J w4d (J (Eq.refl ((Int.toNat xd.1 * 4) : Nat)) (J (lt_nat w4d) (J d2 (J d2 (J d2 (J d2 (J d2 (J d2 (J T0 (J T0 (J T0 (J T0 (J T0 (J T0 (J T0 (J T0 (J T0 (J T0 (J T0 trivial))))))))))))))))))))) (by kernel_rfl)
theorem qDL4y_p4 (r : RPic) (rM : Nat → Int) (rN : Nat → Int) (rS : Nat → Int) (rC : List Man) (x : Int) (xd : Int × Int × Man) (d1 : (decide (xd.1 ≥ 0)) = false) : Runs Try.prog 179 (bodyOf Try.f78 [1, 1, 1, 0, 1, 0, 1, 0, 0]) (qDL4y_T r rM rN rS rC x xd) (qDL4y_H r rM rN rS rC x xd) 1006 (.exit 0) (qDL4y_T1 r rM rN rS rC x (xd.1, xd.2.1, xd.2.2)) (qDL4y_H1 r rM rN rS rC x (xd.1, xd.2.1, xd.2.2)) 1006 := by
  exact runs_of_x hG hM 400 [.no] (J d1 trivial) (by kernel_rfl)
theorem qDL4y_runs (r : RPic) (rM : Nat → Int) (rN : Nat → Int) (rS : Nat → Int) (rC : List Man) (x : Int) (x_ : Int × Int × Man) (y_ : Int × Int × Man) (h_ : LoopR (qDL4y r rM rN rS rC x) x_ y_) : Runs Try.prog 179 (.block 0 (.loop (bodyOf Try.f78 [1, 1, 1, 0, 1, 0, 1, 0, 0]))) (qDL4y_T r rM rN rS rC x x_) (qDL4y_H r rM rN rS rC x x_) 1006 (outOf 0 (qDL4y_ex y_)) (qDL4y_T1 r rM rN rS rC x y_) (qDL4y_H1 r rM rN rS rC x y_) 1006 := by
  refine block_loop (qDL4y r rM rN rS rC x) (qDL4y_T r rM rN rS rC x) (qDL4y_H r rM rN rS rC x) qDL4y_ex (qDL4y_T1 r rM rN rS rC x) (qDL4y_H1 r rM rN rS rC x) ?_ ?_ ?_ x_ y_ h_
  · intro r hr; cases hr
  · intro xd y_ hx
    cases hx with
    | p1 d1 w4d d2 d3 w5d => exact qDL4y_p1 r rM rN rS rC x xd d1 w4d d2 d3 w5d
    | p2 d1 w4d d2 d3 => exact qDL4y_p2 r rM rN rS rC x xd d1 w4d d2 d3
    | p3 d1 w4d d2 => exact qDL4y_p3 r rM rN rS rC x xd d1 w4d d2
  · intro xd y_ hx
    cases hx with
    | p4 d1 => exact qDL4y_p4 r rM rN rS rC x xd d1
def qDJ6y (r : RPic) (rM : Nat → Int) (rN : Nat → Int) (rS : Nat → Int) (rC : List Man) (x : Int) (r4 : Int × Int × Man) : Bool :=
  if (decide (r4.2.1 > 0)) = true then
    if r4.2.2.First = true then
      if (decide (((qDJ2 r rM rN rS rC x).1 : Int) > 0)) = true then
        (x != 255)
      else
        false
    else
      false
  else
    false
def qDJ6y_T (r : RPic) (rM : Nat → Int) (rN : Nat → Int) (rS : Nat → Int) (rC : List Man) (x : Int) (r4 : Int × Int × Man) : Tm := [(0, pt 1000), (1, .int .i64 x), (4, .int .i64 ((qDJ2 r rM rN rS rC x).1)), (5, .int .i64 ((qDJ2 r rM rN rS rC x).2)), (6, .int .i64 r4.2.1), (7, pt 1005)]
def qDJ6y_H (r : RPic) (rM : Nat → Int) (rN : Nat → Int) (rS : Nat → Int) (rC : List Man) (x : Int) (r4 : Int × Int × Man) : Heap := [(1005, ⟨[.one (.int .i64 r4.2.2.X), .one (.int .i64 r4.2.2.Look), .one (.bool r4.2.2.First), .one (.func (.yield 1) ⟨[.int .i64 (r4.2.2.Dots 0), .int .i64 (r4.2.2.Dots 1), .int .i64 (r4.2.2.Dots 2), .int .i64 (r4.2.2.Dots 3), .int .i64 (r4.2.2.Dots 4), .int .i64 (r4.2.2.Dots 5), .int .i64 (r4.2.2.Dots 6), .int .i64 (r4.2.2.Dots 7)]⟩ ⟨[.bool r4.2.2.Full]⟩)], 119, false⟩)]
def qDJ6y_T1 (r : RPic) (rM : Nat → Int) (rN : Nat → Int) (rS : Nat → Int) (rC : List Man) (x : Int) (r4 : Int × Int × Man) (r_ : Bool) : Tm := [(0, pt 1000), (1, .int .i64 x), (4, .int .i64 ((qDJ2 r rM rN rS rC x).1)), (5, .int .i64 ((qDJ2 r rM rN rS rC x).2)), (6, .int .i64 r4.2.1), (7, pt 1005), (124, .bool r_)]
def qDJ6y_H1 (r : RPic) (rM : Nat → Int) (rN : Nat → Int) (rS : Nat → Int) (rC : List Man) (x : Int) (r4 : Int × Int × Man) (r_ : Bool) : Heap := [(1005, ⟨[.one (.int .i64 r4.2.2.X), .one (.int .i64 r4.2.2.Look), .one (.bool r4.2.2.First), .one (.func (.yield 1) ⟨[.int .i64 (r4.2.2.Dots 0), .int .i64 (r4.2.2.Dots 1), .int .i64 (r4.2.2.Dots 2), .int .i64 (r4.2.2.Dots 3), .int .i64 (r4.2.2.Dots 4), .int .i64 (r4.2.2.Dots 5), .int .i64 (r4.2.2.Dots 6), .int .i64 (r4.2.2.Dots 7)]⟩ ⟨[.bool r4.2.2.Full]⟩)], 119, false⟩)]
theorem qDJ6y_p1 (r : RPic) (rM : Nat → Int) (rN : Nat → Int) (rS : Nat → Int) (rC : List Man) (x : Int) (r4 : Int × Int × Man) (d1 : (decide (r4.2.1 > 0)) = true) (d2 : r4.2.2.First = true) (d3 : (decide (((qDJ2 r rM rN rS rC x).1 : Int) > 0)) = true) : Runs Try.prog 179 (bodyOf Try.f78 [1, 1, 1, 1, 0, 0]) (qDJ6y_T r rM rN rS rC x r4) (qDJ6y_H r rM rN rS rC x r4) 1006 .normal (qDJ6y_T1 r rM rN rS rC x r4 (x != 255)) (qDJ6y_H1 r rM rN rS rC x r4 (x != 255)) 1006 := by
  exact runs_of_x hG hM 400 [.yes, .yes, .yes, .yes, .yes, .yes, .yes, .yes, .yes] (J d1 (J d1 (J d1 (J d2 (J d2 (J d2 (J d3 (J d3 (J d3 trivial))))))))) (by kernel_rfl)
theorem qDJ6y_p2 (r : RPic) (rM : Nat → Int) (rN : Nat → Int) (rS : Nat → Int) (rC : List Man) (x : Int) (r4 : Int × Int × Man) (d1 : (decide (r4.2.1 > 0)) = true) (d2 : r4.2.2.First = true) (d3 : (decide (((qDJ2 r rM rN rS rC x).1 : Int) > 0)) = false) : Runs Try.prog 179 (bodyOf Try.f78 [1, 1, 1, 1, 0, 0]) (qDJ6y_T r rM rN rS rC x r4) (qDJ6y_H r rM rN rS rC x r4) 1006 .normal (qDJ6y_T1 r rM rN rS rC x r4 false) (qDJ6y_H1 r rM rN rS rC x r4 false) 1006 := by
  exact runs_of_x hG hM 400 [.yes, .yes, .yes, .yes, .yes, .yes, .no, .no, .no] (J d1 (J d1 (J d1 (J d2 (J d2 (J d2 (J d3 (J d3 (J d3 trivial))))))))) (by kernel_rfl)
theorem qDJ6y_p3 (r : RPic) (rM : Nat → Int) (rN : Nat → Int) (rS : Nat → Int) (rC : List Man) (x : Int) (r4 : Int × Int × Man) (d1 : (decide (r4.2.1 > 0)) = true) (d2 : r4.2.2.First = false) : Runs Try.prog 179 (bodyOf Try.f78 [1, 1, 1, 1, 0, 0]) (qDJ6y_T r rM rN rS rC x r4) (qDJ6y_H r rM rN rS rC x r4) 1006 .normal (qDJ6y_T1 r rM rN rS rC x r4 false) (qDJ6y_H1 r rM rN rS rC x r4 false) 1006 := by
  exact runs_of_x hG hM 400 [.yes, .yes, .yes, .no, .no, .no, .no, .no, .no] (J d1 (J d1 (J d1 (J d2 (J d2 (J d2 (J T0 (J T0 (J T0 trivial))))))))) (by kernel_rfl)
theorem qDJ6y_p4 (r : RPic) (rM : Nat → Int) (rN : Nat → Int) (rS : Nat → Int) (rC : List Man) (x : Int) (r4 : Int × Int × Man) (d1 : (decide (r4.2.1 > 0)) = false) : Runs Try.prog 179 (bodyOf Try.f78 [1, 1, 1, 1, 0, 0]) (qDJ6y_T r rM rN rS rC x r4) (qDJ6y_H r rM rN rS rC x r4) 1006 .normal (qDJ6y_T1 r rM rN rS rC x r4 false) (qDJ6y_H1 r rM rN rS rC x r4 false) 1006 := by
  exact runs_of_x hG hM 400 [.no, .no, .no, .no, .no, .no, .no, .no, .no] (J d1 (J d1 (J d1 (J T0 (J T0 (J T0 (J T0 (J T0 (J T0 trivial))))))))) (by kernel_rfl)
abbrev NEk4 (r : RPic) (rM rN rS : Nat → Int) (rC : List Man) (x : Int) := (decide (((qDJ2 r rM rN rS rC x).1 : Int) > 0))
theorem qDJ6y_runs (r : RPic) (rM : Nat → Int) (rN : Nat → Int) (rS : Nat → Int) (rC : List Man) (x : Int) (r4 : Int × Int × Man) : Runs Try.prog 179 (bodyOf Try.f78 [1, 1, 1, 1, 0, 0]) (qDJ6y_T r rM rN rS rC x r4) (qDJ6y_H r rM rN rS rC x r4) 1006 .normal (qDJ6y_T1 r rM rN rS rC x r4 (qDJ6y r rM rN rS rC x r4)) (qDJ6y_H1 r rM rN rS rC x r4 (qDJ6y r rM rN rS rC x r4)) 1006 := by
  rcases bt (decide (r4.2.1 > 0)) with d1 | d1
  ·
    rcases bt r4.2.2.First with d2 | d2
    ·
      rcases bt (NEk4 r rM rN rS rC x) with d3 | d3
      ·
        rw [show qDJ6y r rM rN rS rC x r4 = (x != 255) from by unfold qDJ6y; rw [if_pos d1, if_pos d2, if_pos d3]]
        exact qDJ6y_p1 r rM rN rS rC x r4 d1 d2 d3
      ·
        rw [show qDJ6y r rM rN rS rC x r4 = false from by unfold qDJ6y; rw [if_pos d1, if_pos d2, if_neg (nt d3)]]
        exact qDJ6y_p2 r rM rN rS rC x r4 d1 d2 d3
    ·
      rw [show qDJ6y r rM rN rS rC x r4 = false from by unfold qDJ6y; rw [if_pos d1, if_neg (nt d2)]]
      exact qDJ6y_p3 r rM rN rS rC x r4 d1 d2
  ·
    rw [show qDJ6y r rM rN rS rC x r4 = false from by unfold qDJ6y; rw [if_neg (nt d1)]]
    exact qDJ6y_p4 r rM rN rS rC x r4 d1
def qDJ7y (r : RPic) (rM : Nat → Int) (rN : Nat → Int) (rS : Nat → Int) (rC : List Man) (x : Int) (r4 : Int × Int × Man) (xd : Bool × Bool) : Bool :=
  if xd.2 = true then
    true
  else
    xd.1
def qDJ7y_T (r : RPic) (rM : Nat → Int) (rN : Nat → Int) (rS : Nat → Int) (rC : List Man) (x : Int) (r4 : Int × Int × Man) (xd : Bool × Bool) : Tm := [(0, pt 1000), (1, .int .i64 x), (4, .int .i64 ((qDJ2 r rM rN rS rC x).1)), (5, .int .i64 ((qDJ2 r rM rN rS rC x).2)), (6, .int .i64 r4.2.1), (7, pt 1005), (124, .bool xd.2)]
def qDJ7y_H (r : RPic) (rM : Nat → Int) (rN : Nat → Int) (rS : Nat → Int) (rC : List Man) (x : Int) (r4 : Int × Int × Man) (xd : Bool × Bool) : Heap := [(1000, ⟨[.one (sl 1001 16384 1), .one (sl 1002 256 1), .one (.int .i64 r.At), .one (.int .i64 r.S.V.Column), .one (.int .i64 r.S.V.Line), .one (.int .i64 r.S.V.Across), .one (.int .i64 r.S.V.Down), .one (.int .i64 r.S.V.Row), .one (.int .i64 r.S.T.Column), .one (.int .i64 r.S.T.Line), .one (.int .i64 r.S.T.Across), .one (.int .i64 r.S.T.Down), .one (.int .i64 r.S.T.Row), .one (.int .i64 r.S.X), .one (.bool r.S.W), .one (.int .i64 r.Control), .one (.int .i64 r.Mask), .one (.bool r.Blank), .one (.bool xd.1), .one (.bool r.Many), .one (.int .i64 r.Waits), .one (.int .i64 r.Bus), .one (.bool r.Upright), .one (.int .i64 r.Line), .one (.int .i64 r.Dot), .one (.int .i64 r.Begun), .one (.int .i64 r.Done), .one (sl 1004 (List.length rC) 4), .one (sl 1003 61440 1)], 59, false⟩)]
def qDJ7y_T1 (r : RPic) (rM : Nat → Int) (rN : Nat → Int) (rS : Nat → Int) (rC : List Man) (x : Int) (r4 : Int × Int × Man) (xd : Bool × Bool) (r_ : Bool) : Tm := [(0, pt 1000), (1, .int .i64 x), (4, .int .i64 ((qDJ2 r rM rN rS rC x).1)), (5, .int .i64 ((qDJ2 r rM rN rS rC x).2)), (6, .int .i64 r4.2.1), (7, pt 1005)]
def qDJ7y_H1 (r : RPic) (rM : Nat → Int) (rN : Nat → Int) (rS : Nat → Int) (rC : List Man) (x : Int) (r4 : Int × Int × Man) (xd : Bool × Bool) (r_ : Bool) : Heap := [(1000, ⟨[.one (sl 1001 16384 1), .one (sl 1002 256 1), .one (.int .i64 r.At), .one (.int .i64 r.S.V.Column), .one (.int .i64 r.S.V.Line), .one (.int .i64 r.S.V.Across), .one (.int .i64 r.S.V.Down), .one (.int .i64 r.S.V.Row), .one (.int .i64 r.S.T.Column), .one (.int .i64 r.S.T.Line), .one (.int .i64 r.S.T.Across), .one (.int .i64 r.S.T.Down), .one (.int .i64 r.S.T.Row), .one (.int .i64 r.S.X), .one (.bool r.S.W), .one (.int .i64 r.Control), .one (.int .i64 r.Mask), .one (.bool r.Blank), .one (.bool r_), .one (.bool r.Many), .one (.int .i64 r.Waits), .one (.int .i64 r.Bus), .one (.bool r.Upright), .one (.int .i64 r.Line), .one (.int .i64 r.Dot), .one (.int .i64 r.Begun), .one (.int .i64 r.Done), .one (sl 1004 (List.length rC) 4), .one (sl 1003 61440 1)], 59, false⟩)]
theorem qDJ7y_p1 (r : RPic) (rM : Nat → Int) (rN : Nat → Int) (rS : Nat → Int) (rC : List Man) (x : Int) (r4 : Int × Int × Man) (xd : Bool × Bool) (d1 : xd.2 = true) : Runs Try.prog 179 (bodyOf Try.f78 [1, 1, 1, 1, 0, 1]) (qDJ7y_T r rM rN rS rC x r4 xd) (qDJ7y_H r rM rN rS rC x r4 xd) 1006 .normal (qDJ7y_T1 r rM rN rS rC x r4 xd true) (qDJ7y_H1 r rM rN rS rC x r4 xd true) 1006 := by
  exact runs_of_x hG hM 400 [.yes] (J d1 trivial) (by kernel_rfl)
theorem qDJ7y_p2 (r : RPic) (rM : Nat → Int) (rN : Nat → Int) (rS : Nat → Int) (rC : List Man) (x : Int) (r4 : Int × Int × Man) (xd : Bool × Bool) (d1 : xd.2 = false) : Runs Try.prog 179 (bodyOf Try.f78 [1, 1, 1, 1, 0, 1]) (qDJ7y_T r rM rN rS rC x r4 xd) (qDJ7y_H r rM rN rS rC x r4 xd) 1006 .normal (qDJ7y_T1 r rM rN rS rC x r4 xd xd.1) (qDJ7y_H1 r rM rN rS rC x r4 xd xd.1) 1006 := by
  exact runs_of_x hG hM 400 [.no] (J d1 trivial) (by kernel_rfl)
theorem qDJ7y_runs (r : RPic) (rM : Nat → Int) (rN : Nat → Int) (rS : Nat → Int) (rC : List Man) (x : Int) (r4 : Int × Int × Man) (xd : Bool × Bool) : Runs Try.prog 179 (bodyOf Try.f78 [1, 1, 1, 1, 0, 1]) (qDJ7y_T r rM rN rS rC x r4 xd) (qDJ7y_H r rM rN rS rC x r4 xd) 1006 .normal (qDJ7y_T1 r rM rN rS rC x r4 xd (qDJ7y r rM rN rS rC x r4 xd)) (qDJ7y_H1 r rM rN rS rC x r4 xd (qDJ7y r rM rN rS rC x r4 xd)) 1006 := by
  rcases bt xd.2 with d1 | d1
  ·
    rw [show qDJ7y r rM rN rS rC x r4 xd = true from by unfold qDJ7y; rw [if_pos d1]]
    exact qDJ7y_p1 r rM rN rS rC x r4 xd d1
  ·
    rw [show qDJ7y r rM rN rS rC x r4 xd = xd.1 from by unfold qDJ7y; rw [if_neg (nt d1)]]
    exact qDJ7y_p2 r rM rN rS rC x r4 xd d1
def qDJ8y (r : RPic) (rM : Nat → Int) (rN : Nat → Int) (rS : Nat → Int) (rC : List Man) (x : Int) (r4 : Int × Int × Man) : Bool :=
  if (decide (r4.2.1 > 0)) = true then
    if (((qDJ2 r rM rN rS rC x).1 : Int) == 0) = true then
      true
    else
      (!(rBit r4.2.2.Look 32))
  else
    false
def qDJ8y_T (r : RPic) (rM : Nat → Int) (rN : Nat → Int) (rS : Nat → Int) (rC : List Man) (x : Int) (r4 : Int × Int × Man) : Tm := [(0, pt 1000), (1, .int .i64 x), (4, .int .i64 ((qDJ2 r rM rN rS rC x).1)), (5, .int .i64 ((qDJ2 r rM rN rS rC x).2)), (6, .int .i64 r4.2.1), (7, pt 1005), (10, .int .i64 0)]
def qDJ8y_H (r : RPic) (rM : Nat → Int) (rN : Nat → Int) (rS : Nat → Int) (rC : List Man) (x : Int) (r4 : Int × Int × Man) : Heap := [(1005, ⟨[.one (.int .i64 r4.2.2.X), .one (.int .i64 r4.2.2.Look), .one (.bool r4.2.2.First), .one (.func (.yield 1) ⟨[.int .i64 (r4.2.2.Dots 0), .int .i64 (r4.2.2.Dots 1), .int .i64 (r4.2.2.Dots 2), .int .i64 (r4.2.2.Dots 3), .int .i64 (r4.2.2.Dots 4), .int .i64 (r4.2.2.Dots 5), .int .i64 (r4.2.2.Dots 6), .int .i64 (r4.2.2.Dots 7)]⟩ ⟨[.bool r4.2.2.Full]⟩)], 119, false⟩)]
def qDJ8y_T1 (r : RPic) (rM : Nat → Int) (rN : Nat → Int) (rS : Nat → Int) (rC : List Man) (x : Int) (r4 : Int × Int × Man) (r_ : Bool) : Tm := [(0, pt 1000), (1, .int .i64 x), (4, .int .i64 ((qDJ2 r rM rN rS rC x).1)), (5, .int .i64 ((qDJ2 r rM rN rS rC x).2)), (6, .int .i64 r4.2.1), (7, pt 1005), (10, .int .i64 0), (139, .bool r_)]
def qDJ8y_H1 (r : RPic) (rM : Nat → Int) (rN : Nat → Int) (rS : Nat → Int) (rC : List Man) (x : Int) (r4 : Int × Int × Man) (r_ : Bool) : Heap := [(1005, ⟨[.one (.int .i64 r4.2.2.X), .one (.int .i64 r4.2.2.Look), .one (.bool r4.2.2.First), .one (.func (.yield 1) ⟨[.int .i64 (r4.2.2.Dots 0), .int .i64 (r4.2.2.Dots 1), .int .i64 (r4.2.2.Dots 2), .int .i64 (r4.2.2.Dots 3), .int .i64 (r4.2.2.Dots 4), .int .i64 (r4.2.2.Dots 5), .int .i64 (r4.2.2.Dots 6), .int .i64 (r4.2.2.Dots 7)]⟩ ⟨[.bool r4.2.2.Full]⟩)], 119, false⟩)]
theorem qDJ8y_p1 (r : RPic) (rM : Nat → Int) (rN : Nat → Int) (rS : Nat → Int) (rC : List Man) (x : Int) (r4 : Int × Int × Man) (d1 : (decide (r4.2.1 > 0)) = true) (d2 : (((qDJ2 r rM rN rS rC x).1 : Int) == 0) = true) : Runs Try.prog 179 (bodyOf Try.f78 [1, 1, 1, 1, 1, 1, 0, 0]) (qDJ8y_T r rM rN rS rC x r4) (qDJ8y_H r rM rN rS rC x r4) 1006 .normal (qDJ8y_T1 r rM rN rS rC x r4 true) (qDJ8y_H1 r rM rN rS rC x r4 true) 1006 := by
  exact runs_of_x hG hM 400 [.yes, .yes, .yes, .yes, .yes, .yes, .yes, .yes, .yes, .yes] (J d1 (J d1 (J d1 (J d2 (J d2 (J d2 (J d2 (J d1 (J d2 (J d1 trivial)))))))))) (by kernel_rfl)
theorem qDJ8y_p2 (r : RPic) (rM : Nat → Int) (rN : Nat → Int) (rS : Nat → Int) (rC : List Man) (x : Int) (r4 : Int × Int × Man) (d1 : (decide (r4.2.1 > 0)) = true) (d2 : (((qDJ2 r rM rN rS rC x).1 : Int) == 0) = false) : Runs Try.prog 179 (bodyOf Try.f78 [1, 1, 1, 1, 1, 1, 0, 0]) (qDJ8y_T r rM rN rS rC x r4) (qDJ8y_H r rM rN rS rC x r4) 1006 .normal (qDJ8y_T1 r rM rN rS rC x r4 (!(rBit r4.2.2.Look 32))) (qDJ8y_H1 r rM rN rS rC x r4 (!(rBit r4.2.2.Look 32))) 1006 := by
  exact runs_of_x hG hM 400 [.yes, .yes, .yes, .no, .no, .no, .call [] [] 1000 (.bool (rBit r4.2.2.Look 32)) [], .no, .yes, .no, .yes] (J d1 (J d1 (J d1 (J d2 (J d2 (J d2 (J (rBit_ok r4.2.2.Look 32 (by decide : (32 : Int) ≠ 0)) (J d2 (J d1 (J d2 (J d1 trivial))))))))))) (by kernel_rfl)
theorem qDJ8y_p3 (r : RPic) (rM : Nat → Int) (rN : Nat → Int) (rS : Nat → Int) (rC : List Man) (x : Int) (r4 : Int × Int × Man) (d1 : (decide (r4.2.1 > 0)) = false) : Runs Try.prog 179 (bodyOf Try.f78 [1, 1, 1, 1, 1, 1, 0, 0]) (qDJ8y_T r rM rN rS rC x r4) (qDJ8y_H r rM rN rS rC x r4) 1006 .normal (qDJ8y_T1 r rM rN rS rC x r4 false) (qDJ8y_H1 r rM rN rS rC x r4 false) 1006 := by
  exact runs_of_x hG hM 400 [.no, .no, .no, .no, .no] (J d1 (J d1 (J d1 (J d1 (J d1 trivial))))) (by kernel_rfl)
theorem qDJ8y_runs (r : RPic) (rM : Nat → Int) (rN : Nat → Int) (rS : Nat → Int) (rC : List Man) (x : Int) (r4 : Int × Int × Man) : Runs Try.prog 179 (bodyOf Try.f78 [1, 1, 1, 1, 1, 1, 0, 0]) (qDJ8y_T r rM rN rS rC x r4) (qDJ8y_H r rM rN rS rC x r4) 1006 .normal (qDJ8y_T1 r rM rN rS rC x r4 (qDJ8y r rM rN rS rC x r4)) (qDJ8y_H1 r rM rN rS rC x r4 (qDJ8y r rM rN rS rC x r4)) 1006 := by
  rcases bt (decide (r4.2.1 > 0)) with d1 | d1
  ·
    rcases bt (((qDJ2 r rM rN rS rC x).1 : Int) == 0) with d2 | d2
    ·
      rw [show qDJ8y r rM rN rS rC x r4 = true from by unfold qDJ8y; rw [if_pos d1, if_pos d2]]
      exact qDJ8y_p1 r rM rN rS rC x r4 d1 d2
    ·
      rw [show qDJ8y r rM rN rS rC x r4 = (!(rBit r4.2.2.Look 32)) from by unfold qDJ8y; rw [if_pos d1, if_neg (nt d2)]]
      exact qDJ8y_p2 r rM rN rS rC x r4 d1 d2
  ·
    rw [show qDJ8y r rM rN rS rC x r4 = false from by unfold qDJ8y; rw [if_neg (nt d1)]]
    exact qDJ8y_p3 r rM rN rS rC x r4 d1
def qDJ10yn (r : RPic) (rM : Nat → Int) (rN : Nat → Int) (rS : Nat → Int) (rC : List Man) (x : Int) (xe : Bool) : Int :=
  if xe = true then
    (i64.wrap ((i64.wrap (4 * (qDJ2 r rM rN rS rC x).2)) + (qDJ2 r rM rN rS rC x).1))
  else
    0
def qDJ10yn_T (r : RPic) (rM : Nat → Int) (rN : Nat → Int) (rS : Nat → Int) (rC : List Man) (x : Int) (xe : Bool) : Tm := [(0, pt 1000), (1, .int .i64 x), (4, .int .i64 ((qDJ2 r rM rN rS rC x).1)), (5, .int .i64 ((qDJ2 r rM rN rS rC x).2)), (10, .int .i64 0), (148, .bool xe)]
def qDJ10yn_H (r : RPic) (rM : Nat → Int) (rN : Nat → Int) (rS : Nat → Int) (rC : List Man) (x : Int) (xe : Bool) : Heap := []
def qDJ10yn_T1 (r : RPic) (rM : Nat → Int) (rN : Nat → Int) (rS : Nat → Int) (rC : List Man) (x : Int) (xe : Bool) (r_ : Int) : Tm := [(0, pt 1000), (1, .int .i64 x), (10, .int .i64 r_)]
def qDJ10yn_H1 (r : RPic) (rM : Nat → Int) (rN : Nat → Int) (rS : Nat → Int) (rC : List Man) (x : Int) (xe : Bool) (r_ : Int) : Heap := []
theorem qDJ10yn_p1 (r : RPic) (rM : Nat → Int) (rN : Nat → Int) (rS : Nat → Int) (rC : List Man) (x : Int) (xe : Bool) (e1 : xe = true) : Runs Try.prog 179 (bodyOf Try.f78 [1, 1, 1, 1, 1, 1, 0, 1, 1, 1]) (qDJ10yn_T r rM rN rS rC x xe) (qDJ10yn_H r rM rN rS rC x xe) 1006 .normal (qDJ10yn_T1 r rM rN rS rC x xe (i64.wrap ((i64.wrap (4 * (qDJ2 r rM rN rS rC x).2)) + (qDJ2 r rM rN rS rC x).1))) (qDJ10yn_H1 r rM rN rS rC x xe (i64.wrap ((i64.wrap (4 * (qDJ2 r rM rN rS rC x).2)) + (qDJ2 r rM rN rS rC x).1))) 1006 := by
  exact runs_of_x hG hM 400 [.yes] (J e1 trivial) (by kernel_rfl)
theorem qDJ10yn_p2 (r : RPic) (rM : Nat → Int) (rN : Nat → Int) (rS : Nat → Int) (rC : List Man) (x : Int) (xe : Bool) (e1 : xe = false) : Runs Try.prog 179 (bodyOf Try.f78 [1, 1, 1, 1, 1, 1, 0, 1, 1, 1]) (qDJ10yn_T r rM rN rS rC x xe) (qDJ10yn_H r rM rN rS rC x xe) 1006 .normal (qDJ10yn_T1 r rM rN rS rC x xe 0) (qDJ10yn_H1 r rM rN rS rC x xe 0) 1006 := by
  exact runs_of_x hG hM 400 [.no] (J e1 trivial) (by kernel_rfl)
theorem qDJ10yn_runs (r : RPic) (rM : Nat → Int) (rN : Nat → Int) (rS : Nat → Int) (rC : List Man) (x : Int) (xe : Bool) : Runs Try.prog 179 (bodyOf Try.f78 [1, 1, 1, 1, 1, 1, 0, 1, 1, 1]) (qDJ10yn_T r rM rN rS rC x xe) (qDJ10yn_H r rM rN rS rC x xe) 1006 .normal (qDJ10yn_T1 r rM rN rS rC x xe (qDJ10yn r rM rN rS rC x xe)) (qDJ10yn_H1 r rM rN rS rC x xe (qDJ10yn r rM rN rS rC x xe)) 1006 := by
  rcases bt xe with e1 | e1
  ·
    rw [show qDJ10yn r rM rN rS rC x xe = (i64.wrap ((i64.wrap (4 * (qDJ2 r rM rN rS rC x).2)) + (qDJ2 r rM rN rS rC x).1)) from by unfold qDJ10yn; rw [if_pos e1]]
    exact qDJ10yn_p1 r rM rN rS rC x xe e1
  ·
    rw [show qDJ10yn r rM rN rS rC x xe = 0 from by unfold qDJ10yn; rw [if_neg (nt e1)]]
    exact qDJ10yn_p2 r rM rN rS rC x xe e1
def qDJ9y (r : RPic) (rM : Nat → Int) (rN : Nat → Int) (rS : Nat → Int) (rC : List Man) (x : Int) (r4 : Int × Int × Man) (xd : Bool) : Int :=
  if xd = true then
    (i64.wrap ((i64.wrap (16 + (i64.wrap (4 * (Int.tmod r4.2.2.Look 4))))) + r4.2.1))
  else
    (qDJ10yn r rM rN rS rC x (decide (((qDJ2 r rM rN rS rC x).1 : Int) > 0)))
def qDJ9y_T (r : RPic) (rM : Nat → Int) (rN : Nat → Int) (rS : Nat → Int) (rC : List Man) (x : Int) (r4 : Int × Int × Man) (xd : Bool) : Tm := [(0, pt 1000), (1, .int .i64 x), (4, .int .i64 ((qDJ2 r rM rN rS rC x).1)), (5, .int .i64 ((qDJ2 r rM rN rS rC x).2)), (6, .int .i64 r4.2.1), (7, pt 1005), (10, .int .i64 0), (139, .bool xd)]
def qDJ9y_H (r : RPic) (rM : Nat → Int) (rN : Nat → Int) (rS : Nat → Int) (rC : List Man) (x : Int) (r4 : Int × Int × Man) (xd : Bool) : Heap := [(1005, ⟨[.one (.int .i64 r4.2.2.X), .one (.int .i64 r4.2.2.Look), .one (.bool r4.2.2.First), .one (.func (.yield 1) ⟨[.int .i64 (r4.2.2.Dots 0), .int .i64 (r4.2.2.Dots 1), .int .i64 (r4.2.2.Dots 2), .int .i64 (r4.2.2.Dots 3), .int .i64 (r4.2.2.Dots 4), .int .i64 (r4.2.2.Dots 5), .int .i64 (r4.2.2.Dots 6), .int .i64 (r4.2.2.Dots 7)]⟩ ⟨[.bool r4.2.2.Full]⟩)], 119, false⟩)]
def qDJ9y_T1 (r : RPic) (rM : Nat → Int) (rN : Nat → Int) (rS : Nat → Int) (rC : List Man) (x : Int) (r4 : Int × Int × Man) (xd : Bool) (r_ : Int) : Tm := [(0, pt 1000), (1, .int .i64 x), (10, .int .i64 r_)]
def qDJ9y_H1 (r : RPic) (rM : Nat → Int) (rN : Nat → Int) (rS : Nat → Int) (rC : List Man) (x : Int) (r4 : Int × Int × Man) (xd : Bool) (r_ : Int) : Heap := [(1005, ⟨[.one (.int .i64 r4.2.2.X), .one (.int .i64 r4.2.2.Look), .one (.bool r4.2.2.First), .one (.func (.yield 1) ⟨[.int .i64 (r4.2.2.Dots 0), .int .i64 (r4.2.2.Dots 1), .int .i64 (r4.2.2.Dots 2), .int .i64 (r4.2.2.Dots 3), .int .i64 (r4.2.2.Dots 4), .int .i64 (r4.2.2.Dots 5), .int .i64 (r4.2.2.Dots 6), .int .i64 (r4.2.2.Dots 7)]⟩ ⟨[.bool r4.2.2.Full]⟩)], 119, false⟩)]
theorem qDJ9y_p1 (r : RPic) (rM : Nat → Int) (rN : Nat → Int) (rS : Nat → Int) (rC : List Man) (x : Int) (r4 : Int × Int × Man) (xd : Bool) (d1 : xd = true) : Runs Try.prog 179 (bodyOf Try.f78 [1, 1, 1, 1, 1, 1, 0, 1]) (qDJ9y_T r rM rN rS rC x r4 xd) (qDJ9y_H r rM rN rS rC x r4 xd) 1006 .normal (qDJ9y_T1 r rM rN rS rC x r4 xd (i64.wrap ((i64.wrap (16 + (i64.wrap (4 * (Int.tmod r4.2.2.Look 4))))) + r4.2.1))) (qDJ9y_H1 r rM rN rS rC x r4 xd (i64.wrap ((i64.wrap (16 + (i64.wrap (4 * (Int.tmod r4.2.2.Look 4))))) + r4.2.1))) 1006 := by
  exact runs_of_x hG hM 400 [.yes] (J d1 (J (by decide : ((4 : Int) ≠ 0)) trivial)) (by kernel_rfl)
theorem qDJ9y_p2 (r : RPic) (rM : Nat → Int) (rN : Nat → Int) (rS : Nat → Int) (rC : List Man) (x : Int) (r4 : Int × Int × Man) (xd : Bool) (d1 : xd = false) : Runs Try.prog 179 (bodyOf Try.f78 [1, 1, 1, 1, 1, 1, 0, 1]) (qDJ9y_T r rM rN rS rC x r4 xd) (qDJ9y_H r rM rN rS rC x r4 xd) 1006 .normal (qDJ9y_T1 r rM rN rS rC x r4 xd (qDJ10yn r rM rN rS rC x (decide (((qDJ2 r rM rN rS rC x).1 : Int) > 0)))) (qDJ9y_H1 r rM rN rS rC x r4 xd (qDJ10yn r rM rN rS rC x (decide (((qDJ2 r rM rN rS rC x).1 : Int) > 0)))) 1006 := by
  exact runs_of_x hG hM 400 [.no, .segk 2 0 [0, 1, 4, 5, 10, 148] [] .normal (qDJ10yn_T1 r rM rN rS rC x (NEk4 r rM rN rS rC x) (qDJ10yn r rM rN rS rC x (NEk4 r rM rN rS rC x))) (qDJ10yn_H1 r rM rN rS rC x (NEk4 r rM rN rS rC x) (qDJ10yn r rM rN rS rC x (NEk4 r rM rN rS rC x))) 1006] (J d1 (J (qDJ10yn_runs r rM rN rS rC x (NEk4 r rM rN rS rC x)) trivial)) (by kernel_rfl)
theorem qDJ9y_runs (r : RPic) (rM : Nat → Int) (rN : Nat → Int) (rS : Nat → Int) (rC : List Man) (x : Int) (r4 : Int × Int × Man) (xd : Bool) : Runs Try.prog 179 (bodyOf Try.f78 [1, 1, 1, 1, 1, 1, 0, 1]) (qDJ9y_T r rM rN rS rC x r4 xd) (qDJ9y_H r rM rN rS rC x r4 xd) 1006 .normal (qDJ9y_T1 r rM rN rS rC x r4 xd (qDJ9y r rM rN rS rC x r4 xd)) (qDJ9y_H1 r rM rN rS rC x r4 xd (qDJ9y r rM rN rS rC x r4 xd)) 1006 := by
  rcases bt xd with d1 | d1
  ·
    rw [show qDJ9y r rM rN rS rC x r4 xd = (i64.wrap ((i64.wrap (16 + (i64.wrap (4 * (Int.tmod r4.2.2.Look 4))))) + r4.2.1)) from by unfold qDJ9y; rw [if_pos d1]]
    exact qDJ9y_p1 r rM rN rS rC x r4 xd d1
  ·
    rw [show qDJ9y r rM rN rS rC x r4 xd = (qDJ10yn r rM rN rS rC x (NEk4 r rM rN rS rC x)) from by unfold qDJ9y; rw [if_neg (nt d1)]]
    exact qDJ9y_p2 r rM rN rS rC x r4 xd d1
def qDJ11y (r : RPic) (x : Int) (xd : Int) : Int :=
  if (rBit r.Mask 1) = true then
    (i64.wrap ((i64.wrap (Int.tdiv xd 16)) * 16))
  else
    xd
def qDJ11y_T (r : RPic) (x : Int) (xd : Int) : Tm := [(0, pt 1000), (1, .int .i64 x), (11, .int .i64 xd), (161, .bool (rBit r.Mask 1))]
def qDJ11y_H (r : RPic) (x : Int) (xd : Int) : Heap := []
def qDJ11y_T1 (r : RPic) (x : Int) (xd : Int) (r_ : Int) : Tm := [(0, pt 1000), (1, .int .i64 x), (11, .int .i64 r_)]
def qDJ11y_H1 (r : RPic) (x : Int) (xd : Int) (r_ : Int) : Heap := []
theorem qDJ11y_p1 (r : RPic) (x : Int) (xd : Int) (d1 : (rBit r.Mask 1) = true) : Runs Try.prog 179 (bodyOf Try.f78 [1, 1, 1, 1, 1, 1, 1, 1, 0, 1]) (qDJ11y_T r x xd) (qDJ11y_H r x xd) 1006 .normal (qDJ11y_T1 r x xd (i64.wrap ((i64.wrap (Int.tdiv xd 16)) * 16))) (qDJ11y_H1 r x xd (i64.wrap ((i64.wrap (Int.tdiv xd 16)) * 16))) 1006 := by
  exact runs_of_x hG hM 400 [.yes] (J d1 (J (by decide : ((16 : Int) ≠ 0)) trivial)) (by kernel_rfl)
theorem qDJ11y_p2 (r : RPic) (x : Int) (xd : Int) (d1 : (rBit r.Mask 1) = false) : Runs Try.prog 179 (bodyOf Try.f78 [1, 1, 1, 1, 1, 1, 1, 1, 0, 1]) (qDJ11y_T r x xd) (qDJ11y_H r x xd) 1006 .normal (qDJ11y_T1 r x xd xd) (qDJ11y_H1 r x xd xd) 1006 := by
  exact runs_of_x hG hM 400 [.no] (J d1 trivial) (by kernel_rfl)
theorem qDJ11y_runs (r : RPic) (x : Int) (xd : Int) : Runs Try.prog 179 (bodyOf Try.f78 [1, 1, 1, 1, 1, 1, 1, 1, 0, 1]) (qDJ11y_T r x xd) (qDJ11y_H r x xd) 1006 .normal (qDJ11y_T1 r x xd (qDJ11y r x xd)) (qDJ11y_H1 r x xd (qDJ11y r x xd)) 1006 := by
  rcases bt (rBit r.Mask 1) with d1 | d1
  ·
    rw [show qDJ11y r x xd = (i64.wrap ((i64.wrap (Int.tdiv xd 16)) * 16)) from by unfold qDJ11y; rw [if_pos d1]]
    exact qDJ11y_p1 r x xd d1
  ·
    rw [show qDJ11y r x xd = xd from by unfold qDJ11y; rw [if_neg (nt d1)]]
    exact qDJ11y_p2 r x xd d1
def qDJ4n (r : RPic) (rM : Nat → Int) (rN : Nat → Int) (rS : Nat → Int) (rC : List Man) (x : Int) (xd : Bool) : Int :=
  if xd = true then
    (i64.wrap ((i64.wrap (4 * (qDJ2 r rM rN rS rC x).2)) + (qDJ2 r rM rN rS rC x).1))
  else
    0
def qDJ4n_T (r : RPic) (rM : Nat → Int) (rN : Nat → Int) (rS : Nat → Int) (rC : List Man) (x : Int) (xd : Bool) : Tm := [(0, pt 1000), (1, .int .i64 x), (4, .int .i64 ((qDJ2 r rM rN rS rC x).1)), (5, .int .i64 ((qDJ2 r rM rN rS rC x).2)), (10, .int .i64 0), (148, .bool xd)]
def qDJ4n_H (r : RPic) (rM : Nat → Int) (rN : Nat → Int) (rS : Nat → Int) (rC : List Man) (x : Int) (xd : Bool) : Heap := []
def qDJ4n_T1 (r : RPic) (rM : Nat → Int) (rN : Nat → Int) (rS : Nat → Int) (rC : List Man) (x : Int) (xd : Bool) (r_ : Int) : Tm := [(0, pt 1000), (1, .int .i64 x), (10, .int .i64 r_)]
def qDJ4n_H1 (r : RPic) (rM : Nat → Int) (rN : Nat → Int) (rS : Nat → Int) (rC : List Man) (x : Int) (xd : Bool) (r_ : Int) : Heap := []
theorem qDJ4n_p1 (r : RPic) (rM : Nat → Int) (rN : Nat → Int) (rS : Nat → Int) (rC : List Man) (x : Int) (xd : Bool) (d1 : xd = true) : Runs Try.prog 179 (bodyOf Try.f78 [1, 1, 1, 1, 1, 1, 0, 1, 1, 1]) (qDJ4n_T r rM rN rS rC x xd) (qDJ4n_H r rM rN rS rC x xd) 1006 .normal (qDJ4n_T1 r rM rN rS rC x xd (i64.wrap ((i64.wrap (4 * (qDJ2 r rM rN rS rC x).2)) + (qDJ2 r rM rN rS rC x).1))) (qDJ4n_H1 r rM rN rS rC x xd (i64.wrap ((i64.wrap (4 * (qDJ2 r rM rN rS rC x).2)) + (qDJ2 r rM rN rS rC x).1))) 1006 := by
  exact runs_of_x hG hM 400 [.yes] (J d1 trivial) (by kernel_rfl)
theorem qDJ4n_p2 (r : RPic) (rM : Nat → Int) (rN : Nat → Int) (rS : Nat → Int) (rC : List Man) (x : Int) (xd : Bool) (d1 : xd = false) : Runs Try.prog 179 (bodyOf Try.f78 [1, 1, 1, 1, 1, 1, 0, 1, 1, 1]) (qDJ4n_T r rM rN rS rC x xd) (qDJ4n_H r rM rN rS rC x xd) 1006 .normal (qDJ4n_T1 r rM rN rS rC x xd 0) (qDJ4n_H1 r rM rN rS rC x xd 0) 1006 := by
  exact runs_of_x hG hM 400 [.no] (J d1 trivial) (by kernel_rfl)
theorem qDJ4n_runs (r : RPic) (rM : Nat → Int) (rN : Nat → Int) (rS : Nat → Int) (rC : List Man) (x : Int) (xd : Bool) : Runs Try.prog 179 (bodyOf Try.f78 [1, 1, 1, 1, 1, 1, 0, 1, 1, 1]) (qDJ4n_T r rM rN rS rC x xd) (qDJ4n_H r rM rN rS rC x xd) 1006 .normal (qDJ4n_T1 r rM rN rS rC x xd (qDJ4n r rM rN rS rC x xd)) (qDJ4n_H1 r rM rN rS rC x xd (qDJ4n r rM rN rS rC x xd)) 1006 := by
  rcases bt xd with d1 | d1
  ·
    rw [show qDJ4n r rM rN rS rC x xd = (i64.wrap ((i64.wrap (4 * (qDJ2 r rM rN rS rC x).2)) + (qDJ2 r rM rN rS rC x).1)) from by unfold qDJ4n; rw [if_pos d1]]
    exact qDJ4n_p1 r rM rN rS rC x xd d1
  ·
    rw [show qDJ4n r rM rN rS rC x xd = 0 from by unfold qDJ4n; rw [if_neg (nt d1)]]
    exact qDJ4n_p2 r rM rN rS rC x xd d1
abbrev NEk1 (r : RPic) (rM rN rS : Nat → Int) (rC : List Man) (x : Int) (r4 : Int × Int × Man) := (rPeek ({ r with Hit := (qDJ7y r rM rN rS rC x r4 (r.Hit, (qDJ6y r rM rN rS rC x r4))) } : RPic) rM rN rS rC (i64.wrap (16128 + (qDJ9y r rM rN rS rC x r4 (qDJ8y r rM rN rS rC x r4)))))
theorem rDraw_p1 (r : RPic) (rM : Nat → Int) (rN : Nat → Int) (rS : Nat → Int) (rC : List Man) (x : Int) (w1c : ∀ j, rng 256 (rM j)) (w2c : PlaceOk r.S.V) (w3c : 0 ≤ (i64.wrap ((Int.tmod x 8) + r.S.X)) ∧ (i64.wrap ((Int.tmod x 8) + r.S.X)) < 16) (c1 : (qDJ3 r rC x ((qDJ2 r rM rN rS rC x).1, (qDJ2 r rM rN rS rC x).2)) = true) (r4 : Int × Int × Man) (l4 : LoopR (qDL4y r rM rN rS rC x) ((i64.wrap ((((List.length rC) : Nat) : Int) - 1)), 0, ({ X := 0, Look := 0, First := false, Dots := (fun _ => 0), Full := false } : Man)) r4) (w4c : 0 ≤ (i64.wrap (16128 + (qDJ9y r rM rN rS rC x r4 (qDJ8y r rM rN rS rC x r4))))) (w5c : 0 ≤ (i64.wrap ((i64.wrap (256 * r.Line)) + x)) ∧ (i64.wrap ((i64.wrap (256 * r.Line)) + x)) < ((61440 : Nat) : Int)) : FnSpec Try.prog 78 1005 [pt 1000, .int .i64 x] [(1000, (RPic.bl r (sl 1001 16384 1) (sl 1002 256 1) (sl 1004 (List.length rC) 4) (sl 1003 61440 1) false)), (1001, iB 16384 rM false), (1002, iB 256 rN false), (1003, iB 61440 rS false), (1004, mB rC false)] (.tuple ⟨[]⟩) [(1000, (RPic.bl ((({ r with Hit := (qDJ7y r rM rN rS rC x r4 (r.Hit, (qDJ6y r rM rN rS rC x r4))) } : RPic), (upd rS (Int.toNat (i64.wrap ((i64.wrap (256 * r.Line)) + x))) (u8.wrap (qDJ11y r x (rPeek ({ r with Hit := (qDJ7y r rM rN rS rC x r4 (r.Hit, (qDJ6y r rM rN rS rC x r4))) } : RPic) rM rN rS rC (i64.wrap (16128 + (qDJ9y r rM rN rS rC x r4 (qDJ8y r rM rN rS rC x r4))))))))).1) (sl 1001 16384 1) (sl 1002 256 1) (sl 1004 (List.length rC) 4) (sl 1003 61440 1) false)), (1001, iB 16384 rM false), (1002, iB 256 rN false), (1003, ⟨[.ints .u8 61440 ((({ r with Hit := (qDJ7y r rM rN rS rC x r4 (r.Hit, (qDJ6y r rM rN rS rC x r4))) } : RPic), (upd rS (Int.toNat (i64.wrap ((i64.wrap (256 * r.Line)) + x))) (u8.wrap (qDJ11y r x (rPeek ({ r with Hit := (qDJ7y r rM rN rS rC x r4 (r.Hit, (qDJ6y r rM rN rS rC x r4))) } : RPic) rM rN rS rC (i64.wrap (16128 + (qDJ9y r rM rN rS rC x r4 (qDJ8y r rM rN rS rC x r4))))))))).2)], 5, false⟩), (1004, mB rC false)] := by
  exact fn_of_x hG hM Try.func78 (by kernel_rfl) (by kernel_rfl) 400 [.segk 0 2 [0, 1, 4, 5, 6, 7] [1000] .normal (qDJ1_T1 r rC x (qDJ1 r rC x)) (qDJ1_H1 r rC x (qDJ1 r rC x)) 1006, .segk 2 0 [0, 1, 4, 5, 6, 7, 28] [1000, 1001, 1002, 1003, 1004] .normal (qDJ2_T1 r rM rN rS rC x (qDJ2 r rM rN rS rC x)) (qDJ2_H1 r rM rN rS rC x (qDJ2 r rM rN rS rC x)) 1006, .segk 0 4 [0, 1, 4, 5, 6, 7] [1000] .normal (qDJ3_T1 r rC x ((qDJ2 r rM rN rS rC x).1, (qDJ2 r rM rN rS rC x).2) (qDJ3 r rC x ((qDJ2 r rM rN rS rC x).1, (qDJ2 r rM rN rS rC x).2))) (qDJ3_H1 r rC x ((qDJ2 r rM rN rS rC x).1, (qDJ2 r rM rN rS rC x).2) (qDJ3 r rC x ((qDJ2 r rM rN rS rC x).1, (qDJ2 r rM rN rS rC x).2))) 1006, .yes, .segk 1 0 [0, 1, 4, 5, 6, 7, 8] [1000, 1004, 1005] .normal (qDL4y_T1 r rM rN rS rC x r4) (qDL4y_H1 r rM rN rS rC x r4) 1006, .segk 0 11 [0, 1, 4, 5, 6, 7] [1005] .normal (qDJ6y_T1 r rM rN rS rC x r4 (qDJ6y r rM rN rS rC x r4)) (qDJ6y_H1 r rM rN rS rC x r4 (qDJ6y r rM rN rS rC x r4)) 1006, .segk 2 0 [0, 1, 4, 5, 6, 7, 124] [1000] .normal (qDJ7y_T1 r rM rN rS rC x r4 (r.Hit, (qDJ6y r rM rN rS rC x r4)) (qDJ7y r rM rN rS rC x r4 (r.Hit, (qDJ6y r rM rN rS rC x r4)))) (qDJ7y_H1 r rM rN rS rC x r4 (r.Hit, (qDJ6y r rM rN rS rC x r4)) (qDJ7y r rM rN rS rC x r4 (r.Hit, (qDJ6y r rM rN rS rC x r4)))) 1006, .segk 0 14 [0, 1, 4, 5, 6, 7, 10] [1005] .normal (qDJ8y_T1 r rM rN rS rC x r4 (qDJ8y r rM rN rS rC x r4)) (qDJ8y_H1 r rM rN rS rC x r4 (qDJ8y r rM rN rS rC x r4)) 1006, .segk 2 0 [0, 1, 4, 5, 6, 7, 10, 139] [1005] .normal (qDJ9y_T1 r rM rN rS rC x r4 (qDJ8y r rM rN rS rC x r4) (qDJ9y r rM rN rS rC x r4 (qDJ8y r rM rN rS rC x r4))) (qDJ9y_H1 r rM rN rS rC x r4 (qDJ8y r rM rN rS rC x r4) (qDJ9y r rM rN rS rC x r4 (qDJ8y r rM rN rS rC x r4))) 1006, .callr [(1000, 1000), (1001, 1001), (1002, 1002), (1003, 1003), (1004, 1004)] [1000, 1001, 1002, 1003, 1004] [] 1005 (.int .i64 (NEk1 r rM rN rS rC x r4)) [], .call [] [] 1000 (.bool (rBit r.Mask 1)) [], .segk 2 0 [0, 1, 11, 161] [] .normal (qDJ11y_T1 r x (NEk1 r rM rN rS rC x r4) (qDJ11y r x (NEk1 r rM rN rS rC x r4))) (qDJ11y_H1 r x (NEk1 r rM rN rS rC x r4) (qDJ11y r x (NEk1 r rM rN rS rC x r4))) 1006, .sym] (J (qDJ1_runs r rC x) (J (qDJ2_runs r rM rN rS rC x w1c w2c w3c) (J (qDJ3_runs r rC x ((qDJ2 r rM rN rS rC x).1, (qDJ2 r rM rN rS rC x).2)) (J c1 (J (Runs.preW (show HW [(1000, (RPic.bl r (sl 1001 16384 1) (sl 1002 256 1) (sl 1004 (List.length rC) 4) (sl 1003 61440 1) false)), (1004, mB rC false), (1005, ⟨[.one (.int .i64 0), .one (.int .i64 0), .one (.bool false), .one (.slice none 0 0)], 119, false⟩)] (qDL4y_H r rM rN rS rC x ((i64.wrap ((((List.length rC) : Nat) : Int) - 1)), 0, ({ X := 0, Look := 0, First := false, Dots := (fun _ => 0), Full := false } : Man))) from (HW.cons 1000 (SW.refl _) (by exact rfl) (by exact rfl) (HW.cons 1004 (SW.refl _) (by exact rfl) (by exact rfl) (HW.cons 1005 (SW.cons _ (SW.cons _ (SW.cons _ (SW.one (VW.nil 1 _ rfl) SW.nil)))) (by exact rfl) (by exact rfl) HW.nil)))) (qDL4y_runs r rM rN rS rC x ((i64.wrap ((((List.length rC) : Nat) : Int) - 1)), 0, ({ X := 0, Look := 0, First := false, Dots := (fun _ => 0), Full := false } : Man)) r4 l4)) (J (qDJ6y_runs r rM rN rS rC x r4) (J (qDJ7y_runs r rM rN rS rC x r4 (r.Hit, (qDJ6y r rM rN rS rC x r4))) (J (qDJ8y_runs r rM rN rS rC x r4) (J (qDJ9y_runs r rM rN rS rC x r4 (qDJ8y r rM rN rS rC x r4)) (J (rPeek_ok ({ r with Hit := (qDJ7y r rM rN rS rC x r4 (r.Hit, (qDJ6y r rM rN rS rC x r4))) } : RPic) rM rN rS rC (i64.wrap (16128 + (qDJ9y r rM rN rS rC x r4 (qDJ8y r rM rN rS rC x r4)))) w4c) (J (rBit_ok r.Mask 1 (by decide : (1 : Int) ≠ 0)) (J (qDJ11y_runs r x (NEk1 r rM rN rS rC x r4)) (J w5c (J (lt_nat w5c) trivial)))))))))))))) (by kernel_rfl)
abbrev NEk2 (r : RPic) (rM rN rS : Nat → Int) (rC : List Man) (x : Int) := (rPeek r rM rN rS rC (i64.wrap (16128 + (qDJ4n r rM rN rS rC x (NEk4 r rM rN rS rC x)))))
theorem rDraw_p2 (r : RPic) (rM : Nat → Int) (rN : Nat → Int) (rS : Nat → Int) (rC : List Man) (x : Int) (w1c : ∀ j, rng 256 (rM j)) (w2c : PlaceOk r.S.V) (w3c : 0 ≤ (i64.wrap ((Int.tmod x 8) + r.S.X)) ∧ (i64.wrap ((Int.tmod x 8) + r.S.X)) < 16) (c1 : (qDJ3 r rC x ((qDJ2 r rM rN rS rC x).1, (qDJ2 r rM rN rS rC x).2)) = false) (w4c : 0 ≤ (i64.wrap (16128 + (qDJ4n r rM rN rS rC x (decide (((qDJ2 r rM rN rS rC x).1 : Int) > 0)))))) (w5c : 0 ≤ (i64.wrap ((i64.wrap (256 * r.Line)) + x)) ∧ (i64.wrap ((i64.wrap (256 * r.Line)) + x)) < ((61440 : Nat) : Int)) : FnSpec Try.prog 78 1005 [pt 1000, .int .i64 x] [(1000, (RPic.bl r (sl 1001 16384 1) (sl 1002 256 1) (sl 1004 (List.length rC) 4) (sl 1003 61440 1) false)), (1001, iB 16384 rM false), (1002, iB 256 rN false), (1003, iB 61440 rS false), (1004, mB rC false)] (.tuple ⟨[]⟩) [(1000, (RPic.bl ((r, (upd rS (Int.toNat (i64.wrap ((i64.wrap (256 * r.Line)) + x))) (u8.wrap (qDJ11y r x (rPeek r rM rN rS rC (i64.wrap (16128 + (qDJ4n r rM rN rS rC x (decide (((qDJ2 r rM rN rS rC x).1 : Int) > 0)))))))))).1) (sl 1001 16384 1) (sl 1002 256 1) (sl 1004 (List.length rC) 4) (sl 1003 61440 1) false)), (1001, iB 16384 rM false), (1002, iB 256 rN false), (1003, ⟨[.ints .u8 61440 ((r, (upd rS (Int.toNat (i64.wrap ((i64.wrap (256 * r.Line)) + x))) (u8.wrap (qDJ11y r x (rPeek r rM rN rS rC (i64.wrap (16128 + (qDJ4n r rM rN rS rC x (decide (((qDJ2 r rM rN rS rC x).1 : Int) > 0)))))))))).2)], 5, false⟩), (1004, mB rC false)] := by
  exact fn_of_x hG hM Try.func78 (by kernel_rfl) (by kernel_rfl) 400 [.segk 0 2 [0, 1, 4, 5, 6, 7] [1000] .normal (qDJ1_T1 r rC x (qDJ1 r rC x)) (qDJ1_H1 r rC x (qDJ1 r rC x)) 1006, .segk 2 0 [0, 1, 4, 5, 6, 7, 28] [1000, 1001, 1002, 1003, 1004] .normal (qDJ2_T1 r rM rN rS rC x (qDJ2 r rM rN rS rC x)) (qDJ2_H1 r rM rN rS rC x (qDJ2 r rM rN rS rC x)) 1006, .segk 0 4 [0, 1, 4, 5, 6, 7] [1000] .normal (qDJ3_T1 r rC x ((qDJ2 r rM rN rS rC x).1, (qDJ2 r rM rN rS rC x).2) (qDJ3 r rC x ((qDJ2 r rM rN rS rC x).1, (qDJ2 r rM rN rS rC x).2))) (qDJ3_H1 r rC x ((qDJ2 r rM rN rS rC x).1, (qDJ2 r rM rN rS rC x).2) (qDJ3 r rC x ((qDJ2 r rM rN rS rC x).1, (qDJ2 r rM rN rS rC x).2))) 1006, .no, .no, .no, .no, .no, .no, .no, .no, .no, .no, .no, .no, .no, .no, .no, .no, .no, .segk 2 0 [0, 1, 4, 5, 10, 148] [] .normal (qDJ4n_T1 r rM rN rS rC x (NEk4 r rM rN rS rC x) (qDJ4n r rM rN rS rC x (NEk4 r rM rN rS rC x))) (qDJ4n_H1 r rM rN rS rC x (NEk4 r rM rN rS rC x) (qDJ4n r rM rN rS rC x (NEk4 r rM rN rS rC x))) 1006, .callr [(1000, 1000), (1001, 1001), (1002, 1002), (1003, 1003), (1004, 1004)] [1000, 1001, 1002, 1003, 1004] [] 1005 (.int .i64 (NEk2 r rM rN rS rC x)) [], .call [] [] 1000 (.bool (rBit r.Mask 1)) [], .segk 2 0 [0, 1, 11, 161] [] .normal (qDJ11y_T1 r x (NEk2 r rM rN rS rC x) (qDJ11y r x (NEk2 r rM rN rS rC x))) (qDJ11y_H1 r x (NEk2 r rM rN rS rC x) (qDJ11y r x (NEk2 r rM rN rS rC x))) 1006, .sym] (J (qDJ1_runs r rC x) (J (qDJ2_runs r rM rN rS rC x w1c w2c w3c) (J (qDJ3_runs r rC x ((qDJ2 r rM rN rS rC x).1, (qDJ2 r rM rN rS rC x).2)) (J c1 (J T0 (J T0 (J T0 (J T0 (J T0 (J T0 (J T0 (J T0 (J T0 (J T0 (J T0 (J T0 (J T0 (J T0 (J T0 (J T0 (J (qDJ4n_runs r rM rN rS rC x (NEk4 r rM rN rS rC x)) (J (rPeek_ok r rM rN rS rC (i64.wrap (16128 + (qDJ4n r rM rN rS rC x (NEk4 r rM rN rS rC x)))) w4c) (J (rBit_ok r.Mask 1 (by decide : (1 : Int) ≠ 0)) (J (qDJ11y_runs r x (NEk2 r rM rN rS rC x)) (J w5c (J (lt_nat w5c) trivial)))))))))))))))))))))))))) (by kernel_rfl)
end Go.Proofs.Ytgnhhnmpeklciaa
namespace Go.Proofs.Ytgnhhnmpeklciaa
open Go VX
open Go.IntKind (i64 u8 u16)
structure ManOk (c : Man) : Prop where
  x : 0 ≤ c.X ∧ c.X < 256
  look : 0 ≤ c.Look ∧ c.Look < 256
  dots : ∀ j, 0 ≤ c.Dots j ∧ c.Dots j < 4
def noR : Man := { X := 0, Look := 0, First := false, Dots := (fun _ => 0), Full := false }
def findR (x : Int) : List Man → Int × Man
  | [] => (0, noR)
  | c :: L => if c.X ≤ x ∧ x < c.X + 8 ∧ c.Dots (x - c.X).toNat > 0 then (c.Dots (x - c.X).toNat, { c with Full := true }) else findR x L
def tileR (r : RPic) (rM : Nat → Int) (rN : Nat → Int) (rS : Nat → Int) (rC : List Man) (x : Int) : Int × Int := if rBit r.Mask 8 = true ∧ (x > 7 ∨ rBit r.Mask 2 = true) then rTileF r rM rN rS rC r.S.V (x % 8 + r.S.X) else (0, 0)
def manR (r : RPic) (C : List Man) (x : Int) : Int × Man := if rBit r.Mask 16 = true ∧ (x > 7 ∨ rBit r.Mask 4 = true) then findR x C else (0, noR)
def atR (t : Int × Int) (s : Int × Man) : Int := if 0 < s.1 ∧ (t.1 = 0 ∨ rBit s.2.Look 32 = false) then 16 + 4 * (s.2.Look % 4) + s.1 else if 0 < t.1 then 4 * t.2 + t.1 else 0
def hitR (b : Bool) (t : Int × Int) (s : Int × Man) (x : Int) : Bool := if 0 < s.1 ∧ s.2.First = true ∧ 0 < t.1 ∧ x ≠ 255 then true else b
def greyR (mask c : Int) : Int := if rBit mask 1 = true then c / 16 * 16 else c
def rDrawF (r : RPic) (rM : Nat → Int) (rN : Nat → Int) (rS : Nat → Int) (rC : List Man) (x : Int) : RPic × (Nat → Int) :=
  ({ r with Hit := hitR r.Hit (tileR r rM rN rS rC x) (manR r rC x) x },
   upd rS (256 * r.Line + x).toNat (greyR r.Mask (rPeek r rM rN rS rC (16128 + atR (tileR r rM rN rS rC x) (manR r rC x)))))
theorem noR_ok : ManOk noR := ⟨⟨by decide, by decide⟩, ⟨by decide, by decide⟩, fun _ => ⟨Int.le_refl 0, show (0 : Int) < 4 by decide⟩⟩
theorem findR_ok (x : Int) : ∀ C : List Man, (∀ c ∈ C, ManOk c) → ManOk (findR x C).2 ∧ 0 ≤ (findR x C).1 ∧ (findR x C).1 < 4
  | [], _ => ⟨noR_ok, by show (0 : Int) ≤ 0; decide, by show (0 : Int) < 4; decide⟩
  | c :: L, h => by
    have hc := h c (List.mem_cons_self)
    unfold findR
    split
    · exact ⟨⟨hc.x, hc.look, hc.dots⟩, (hc.dots _).1, (hc.dots _).2⟩
    · exact findR_ok x L fun d hd => h d (List.mem_cons_of_mem _ hd)
theorem rNum_rng {a b : Int} (h0 : 0 ≤ a) (h1 : 0 ≤ b) (ha : a < 256) (hb : b < 256) (j : Nat) : 0 ≤ rNum a b j ∧ rNum a b j < 4 := by
  have hd : 0 < dotD j := by unfold dotD; split <;> decide
  have q1 : 0 ≤ a / dotD j := Int.ediv_nonneg h0 (Int.le_of_lt hd)
  have q2 : 0 ≤ b / dotD j := Int.ediv_nonneg h1 (Int.le_of_lt hd)
  have q3 : a / dotD j ≤ a := Int.ediv_le_self _ h0
  have q4 : b / dotD j ≤ b := Int.ediv_le_self _ h1
  unfold rNum
  rw [td_e _ h0, td_e _ h1, w64 (x := a / dotD j) (by omega) (by omega), w64 (x := b / dotD j) (by omega) (by omega), tm_e 2 q1, tm_e 2 q2, w64 (x := 2 * _) (by omega) (by omega), w64 (by omega) (by omega)]
  omega
theorem tileF_rng {r : RPic} {M N S : Nat → Int} {C : List Man} (w : ∀ j, rng 256 (M j)) (v : Place) (x : Int) : (0 ≤ (rTileF r M N S C v x).1 ∧ (rTileF r M N S C v x).1 < 4) ∧ 0 ≤ (rTileF r M N S C v x).2 ∧ (rTileF r M N S C v x).2 < 4 := by
  unfold rTileF
  refine ⟨rNum_rng (w _).1 (w _).1 (w _).2 (w _).2 _, ?_, ?_⟩
  · simp only; omega
  · simp only; omega
theorem tileR_rng {r : RPic} {M N S : Nat → Int} {C : List Man} (w : ∀ j, rng 256 (M j)) (x : Int) : (0 ≤ (tileR r M N S C x).1 ∧ (tileR r M N S C x).1 < 4) ∧ 0 ≤ (tileR r M N S C x).2 ∧ (tileR r M N S C x).2 < 4 := by
  unfold tileR; split
  · exact tileF_rng w _ _
  · exact ⟨⟨by show (0 : Int) ≤ 0; decide, by show (0 : Int) < 4; decide⟩, by show (0 : Int) ≤ 0; decide, by show (0 : Int) < 4; decide⟩
theorem atR_rng {t : Int × Int} {s : Int × Man} (h1 : (0 ≤ t.1 ∧ t.1 < 4) ∧ 0 ≤ t.2 ∧ t.2 < 4) (h2 : 0 ≤ s.1 ∧ s.1 < 4) : 0 ≤ atR t s ∧ atR t s < 32 := by
  unfold atR; split
  · omega
  · split <;> omega
theorem find_loop (r : RPic) (rM : Nat → Int) (rN : Nat → Int) (rS : Nat → Int) (rC : List Man) (x : Int) (hx : 0 ≤ x ∧ x < 256) (hC : ∀ c ∈ rC, ManOk c) (hL : rC.length ≤ 8) : ∀ (n : Nat) (p M : List Man), p.length = n → rC = p ++ M →
    LoopR (qDL4y r rM rN rS rC x) ((n : Int) - 1, findR x M) (-1, findR x rC)
  | 0, p, M, hp, h => by
    have : p = [] := List.eq_nil_of_length_eq_zero hp
    subst this
    have : M = rC := by rw [h]; rfl
    subst this
    exact .last (.p4 (decide_eq_false (show ¬ (((0 : Nat) : Int) - 1 ≥ 0) by decide)))
  | n + 1, p, M, hp, h => by
    obtain ⟨q, s, rfl⟩ : ∃ q s, p = q ++ [s] := ⟨p.dropLast, p.getLast (by intro e; rw [e] at hp; simp at hp), (List.dropLast_concat_getLast _).symm⟩
    have hq : q.length = n := by simpa using hp
    have hlen : rC.length = n + 1 + M.length := by rw [h]; simp [hq]; omega
    have ei : ((n + 1 : Nat) : Int) - 1 = (n : Int) := by omega
    have hg : List.getD rC (Int.toNat (((n + 1 : Nat) : Int) - 1)) Man.nil = s := by
      rw [ei, Int.toNat_natCast, h, List.append_assoc, List.getD_eq_getElem?_getD, List.getElem?_append_right (by omega), hq]
      simp
    have hs : ManOk s := hC s (by rw [h]; simp)
    obtain ⟨hsx, hsl, hsd⟩ := hs
    have ih := find_loop r rM rN rS rC x hx hC hL n q (s :: M) hq (by rw [h]; simp)
    have hw : i64.wrap (((n + 1 : Nat) : Int) - 1 - 1) = (n : Int) - 1 := by rw [w64 (by omega) (by omega)]; omega
    have hd : (decide ((((n + 1 : Nat) : Int) - 1) ≥ 0)) = true := decide_eq_true (by omega)
    have hr : 0 ≤ (((n + 1 : Nat) : Int) - 1) ∧ (((n + 1 : Nat) : Int) - 1) < (((List.length rC) : Nat) : Int) := by omega
    by_cases c1 : s.X ≤ x
    · by_cases c2 : x < s.X + 8
      · have hwx : i64.wrap (x - s.X) = x - s.X := w64 (by omega) (by omega)
        have h8 : (x - s.X).toNat < 8 := by omega
        have st := qDL4y.p1 (r := r) (rM := rM) (rN := rN) (rS := rS) (rC := rC) (x := x) (xd := (((n + 1 : Nat) : Int) - 1, findR x M)) hd hr (by simp only [hg]; exact decide_eq_true c1) (by simp only [hg]; rw [w64 (by omega) (by omega)]; exact decide_eq_true c2) (by simp only [hg]; rw [hwx]; omega)
        simp only [hg, hw] at st
        rw [hwx, at8_eq _ h8] at st
        have e : ∀ b : Bool, b = decide (s.Dots (x - s.X).toNat > 0) → (qDJ5yyyy r rM rN rS rC x (((n + 1 : Nat) : Int) - 1, findR x M) ((findR x M).2, s.Dots (x - s.X).toNat, b, b)) = findR x (s :: M) := by
          intro b hb
          unfold qDJ5yyyy
          simp only [hg, hwx]
          rw [at8_eq _ h8, hb]
          simp only [findR, decide_eq_true_eq]
          by_cases c3 : s.Dots (x - s.X).toNat > 0
          · rw [if_pos c3, if_pos ⟨c1, c2, c3⟩]
          · rw [if_neg c3, if_neg (fun k => c3 k.2.2)]
        rw [e _ rfl] at st
        exact .more st ih
      · have st := qDL4y.p2 (r := r) (rM := rM) (rN := rN) (rS := rS) (rC := rC) (x := x) (xd := (((n + 1 : Nat) : Int) - 1, findR x M)) hd hr (by simp only [hg]; exact decide_eq_true c1) (by simp only [hg]; rw [w64 (by omega) (by omega)]; exact decide_eq_false c2)
        simp only [hw] at st
        have e : findR x (s :: M) = findR x M := by simp only [findR]; rw [if_neg (fun k => c2 k.2.1)]
        rw [e] at ih
        exact .more st ih
    · have st := qDL4y.p3 (r := r) (rM := rM) (rN := rN) (rS := rS) (rC := rC) (x := x) (xd := (((n + 1 : Nat) : Int) - 1, findR x M)) hd hr (by simp only [hg]; exact decide_eq_false c1)
      simp only [hw] at st
      have e : findR x (s :: M) = findR x M := by simp only [findR]; rw [if_neg (fun k => c1 k.1)]
      rw [e] at ih
      exact .more st ih
section
variable (r : RPic) (rM : Nat → Int) (rN : Nat → Int) (rS : Nat → Int) (rC : List Man) (x : Int)
theorem dj2 (hX : 0 ≤ r.S.X ∧ r.S.X < 8) (hx : 0 ≤ x ∧ x < 256) : qDJ2 r rM rN rS rC x = tileR r rM rN rS rC x := by
  unfold qDJ2 qDJ1 tileR
  rw [tm_e 8 hx.1, w64 (x := x % 8 + r.S.X) (by omega) (by omega)]
  cases rBit r.Mask 8 with
  | false => simp
  | true =>
    by_cases h : x > 7
    · simp [h]
    · simp [h]
theorem dj3 (t : Int × Int) : qDJ3 r rC x t = decide (rBit r.Mask 16 = true ∧ (x > 7 ∨ rBit r.Mask 4 = true)) := by
  unfold qDJ3
  cases rBit r.Mask 16 with
  | false => simp
  | true =>
    by_cases h : x > 7
    · simp [h]
    · simp [h]
variable {r rM rN rS rC x} (t : Int × Int) (ht : qDJ2 r rM rN rS rC x = t) (s : Int × Man) (i : Int)
include ht
theorem dj7 (b : Bool) : qDJ7y r rM rN rS rC x (i, s) (b, qDJ6y r rM rN rS rC x (i, s)) = hitR b t s x := by
  unfold qDJ7y qDJ6y hitR
  rw [ht]
  by_cases h1 : 0 < s.1
  · by_cases h2 : s.2.First = true
    · by_cases h3 : 0 < t.1
      · by_cases h4 : x = 255
        · simp [h1, h2, h3, h4]
        · simp [h1, h2, h3, h4]
      · simp [h1, h2, h3]
    · simp [h1, h2]
  · simp [h1]
theorem dj9 (h1 : (0 ≤ t.1 ∧ t.1 < 4) ∧ 0 ≤ t.2 ∧ t.2 < 4) (h2 : 0 ≤ s.1 ∧ s.1 < 4) (h3 : ManOk s.2) : qDJ9y r rM rN rS rC x (i, s) (qDJ8y r rM rN rS rC x (i, s)) = atR t s := by
  have hl := h3.look
  unfold qDJ9y qDJ8y qDJ10yn atR
  rw [ht]
  have e1 : i64.wrap (i64.wrap (4 * t.2) + t.1) = 4 * t.2 + t.1 := by rw [w64 (x := 4 * t.2) (by omega) (by omega), w64 (by omega) (by omega)]
  have e2 : i64.wrap (i64.wrap (16 + i64.wrap (4 * Int.tmod s.2.Look 4)) + s.1) = 16 + 4 * (s.2.Look % 4) + s.1 := by
    rw [tm_e 4 hl.1, w64 (x := 4 * _) (by omega) (by omega), w64 (x := 16 + _) (by omega) (by omega), w64 (by omega) (by omega)]
  simp only [e1, e2]
  by_cases c1 : 0 < s.1
  · by_cases c2 : t.1 = 0
    · simp [c1, c2]
    · cases c3 : rBit s.2.Look 32 <;> simp [c1, c2, c3]
  · simp [c1]
theorem dj4 (h1 : (0 ≤ t.1 ∧ t.1 < 4) ∧ 0 ≤ t.2 ∧ t.2 < 4) : qDJ4n r rM rN rS rC x (decide (t.1 > 0)) = atR t (0, noR) := by
  unfold qDJ4n atR
  rw [ht]
  have e1 : i64.wrap (i64.wrap (4 * t.2) + t.1) = 4 * t.2 + t.1 := by rw [w64 (x := 4 * t.2) (by omega) (by omega), w64 (by omega) (by omega)]
  simp only [e1]
  simp
end
theorem dj11 (r : RPic) (x c : Int) (h : rng 256 c) : qDJ11y r x c = greyR r.Mask c ∧ 0 ≤ greyR r.Mask c ∧ greyR r.Mask c < 256 := by
  have h0 := h.1; have h1 : c < 256 := h.2
  unfold qDJ11y greyR
  rw [td_e 16 h0, w64 (x := c / 16) (by omega) (by omega), w64 (by omega) (by omega)]
  refine ⟨rfl, ?_, ?_⟩ <;> split <;> omega
theorem rDrawF_ok (r : RPic) (rM : Nat → Int) (rN : Nat → Int) (rS : Nat → Int) (rC : List Man) (x : Int) (w : ∀ j, rng 256 (rM j)) (hv : PlaceOk r.S.V) (hX : 0 ≤ r.S.X ∧ r.S.X < 8) (hx : 0 ≤ x ∧ x < 256) (hl : 0 ≤ r.Line ∧ r.Line < 240) (hC : ∀ c ∈ rC, ManOk c) (hL : rC.length ≤ 8) : FnSpec Try.prog 78 1005 [pt 1000, .int .i64 x] [(1000, (RPic.bl r (sl 1001 16384 1) (sl 1002 256 1) (sl 1004 (List.length rC) 4) (sl 1003 61440 1) false)), (1001, iB 16384 rM false), (1002, iB 256 rN false), (1003, iB 61440 rS false), (1004, mB rC false)] (.tuple ⟨[]⟩) [(1000, (RPic.bl (rDrawF r rM rN rS rC x).1 (sl 1001 16384 1) (sl 1002 256 1) (sl 1004 (List.length rC) 4) (sl 1003 61440 1) false)), (1001, iB 16384 rM false), (1002, iB 256 rN false), (1003, ⟨[.ints .u8 61440 (rDrawF r rM rN rS rC x).2], 5, false⟩), (1004, mB rC false)] := by
  have ht := dj2 r rM rN rS rC x hX hx
  have rt := tileR_rng (r := r) (N := rN) (S := rS) (C := rC) w x
  have wp := fun a => rPeek_rng (r := r) (N := rN) (S := rS) (C := rC) w a
  have hw5 : i64.wrap (i64.wrap (256 * r.Line) + x) = 256 * r.Line + x := by rw [w64 (x := 256 * r.Line) (by omega) (by omega), w64 (by omega) (by omega)]
  have hw3 : i64.wrap (Int.tmod x 8 + r.S.X) = x % 8 + r.S.X := by rw [tm_e 8 hx.1, w64 (by omega) (by omega)]
  have h3 := dj3 r rC x ((qDJ2 r rM rN rS rC x).1, (qDJ2 r rM rN rS rC x).2)
  have g : ∀ a, u8.wrap (qDJ11y r x (rPeek r rM rN rS rC a)) = greyR r.Mask (rPeek r rM rN rS rC a) := fun a => by
    obtain ⟨e, g0, g1⟩ := dj11 r x _ (wp a)
    rw [e, IntKind.wrap_u8]; omega
  unfold rDrawF
  generalize hT : tileR r rM rN rS rC x = t at ht rt
  by_cases c : rBit r.Mask 16 = true ∧ (x > 7 ∨ rBit r.Mask 4 = true)
  · have em : manR r rC x = findR x rC := if_pos c
    rw [em]
    obtain ⟨mk, ms⟩ := findR_ok x rC hC
    generalize hS : findR x rC = s at mk ms
    have lp := find_loop r rM rN rS rC x hx hC hL rC.length rC [] rfl (by simp)
    rw [hS] at lp
    have a0 := atR_rng rt ms
    have ea := dj9 t ht s (-1) rt ms mk
    have ea2 : i64.wrap (16128 + qDJ9y r rM rN rS rC x (-1, s) (qDJ8y r rM rN rS rC x (-1, s))) = 16128 + atR t s := by rw [ea, w64 (by omega) (by omega)]
    have p := rDraw_p1 r rM rN rS rC x w hv (by rw [hw3]; omega) (by rw [h3]; exact decide_eq_true c) (-1, s) (by rw [w64 (by omega) (by omega)]; exact lp) (by rw [ea2]; omega) (by rw [hw5]; omega)
    rw [ea2, hw5, dj7 t ht s (-1) r.Hit] at p
    have g' := g (16128 + atR t s)
    have e : u8.wrap (qDJ11y r x (rPeek ({ r with Hit := hitR r.Hit t s x } : RPic) rM rN rS rC (16128 + atR t s))) = greyR r.Mask (rPeek r rM rN rS rC (16128 + atR t s)) := g'
    rw [e] at p
    exact p
  · have em : manR r rC x = (0, noR) := if_neg c
    rw [em]
    have a0 := atR_rng (s := (0, noR)) rt ⟨Int.le_refl 0, show (0 : Int) < 4 by decide⟩
    have ea := dj4 (x := x) t ht rt
    have ea2 : i64.wrap (16128 + qDJ4n r rM rN rS rC x (decide (((qDJ2 r rM rN rS rC x).1 : Int) > 0))) = 16128 + atR t (0, noR) := by rw [ht, ea, w64 (by omega) (by omega)]
    have p := rDraw_p2 r rM rN rS rC x w hv (by rw [hw3]; omega) (by rw [h3]; exact decide_eq_false c) (by rw [ea2]; omega) (by rw [hw5]; omega)
    rw [ea2, hw5, g] at p
    have eh : hitR r.Hit t (0, noR) x = r.Hit := by unfold hitR; rw [if_neg (fun k => absurd k.1 (by decide))]
    rw [eh]
    exact p
end Go.Proofs.Ytgnhhnmpeklciaa
namespace Go.Proofs.Ytgnhhnmpeklciaa
open Go VX
open Go.IntKind (i64 u8 u16)
def qHJ1 (r : RPic) : Bool :=
  if (decide (r.Line > 239)) = true then
    true
  else
    ((Int.tmod (i64.wrap (Int.tdiv r.Mask 8)) 4) == 0)
def qHJ1_T (r : RPic) : Tm := [(0, pt 1000)]
def qHJ1_H (r : RPic) : Heap := [(1000, (RPic.bl r (sl 1001 16384 1) (sl 1002 256 1) (.slice none 0 0) (sl 1003 61440 1) false))]
def qHJ1_T1 (r : RPic) (r_ : Bool) : Tm := [(0, pt 1000), (28, .bool r_)]
def qHJ1_H1 (r : RPic) (r_ : Bool) : Heap := [(1000, (RPic.bl r (sl 1001 16384 1) (sl 1002 256 1) (.slice none 0 0) (sl 1003 61440 1) false))]
theorem qHJ1_p1 (r : RPic) (d1 : (decide (r.Line > 239)) = true) : Runs Try.prog 196 (bodyOf Try.f83 [1, 0, 0]) (qHJ1_T r) (qHJ1_H r) 1005 .normal (qHJ1_T1 r true) (qHJ1_H1 r true) 1005 := by
  exact runs_of_x hG hM 400 [.yes, .yes, .yes, .yes, .yes, .yes, .yes, .yes] (J d1 (J d1 (J d1 (J d1 (J d1 (J d1 (J d1 (J d1 trivial)))))))) (by kernel_rfl)
theorem qHJ1_p2 (r : RPic) (d1 : (decide (r.Line > 239)) = false) : Runs Try.prog 196 (bodyOf Try.f83 [1, 0, 0]) (qHJ1_T r) (qHJ1_H r) 1005 .normal (qHJ1_T1 r ((Int.tmod (i64.wrap (Int.tdiv r.Mask 8)) 4) == 0)) (qHJ1_H1 r ((Int.tmod (i64.wrap (Int.tdiv r.Mask 8)) 4) == 0)) 1005 := by
  exact runs_of_x hG hM 400 [.no, .no, .no, .no, .no, .no, .no, .no] (J d1 (J d1 (J d1 (J d1 (J d1 (J (by decide : ((8 : Int) ≠ 0)) (J d1 (J (by decide : ((4 : Int) ≠ 0)) (J d1 (J d1 trivial)))))))))) (by kernel_rfl)
theorem qHJ1_runs (r : RPic) : Runs Try.prog 196 (bodyOf Try.f83 [1, 0, 0]) (qHJ1_T r) (qHJ1_H r) 1005 .normal (qHJ1_T1 r (qHJ1 r)) (qHJ1_H1 r (qHJ1 r)) 1005 := by
  rcases bt (decide (r.Line > 239)) with d1 | d1
  ·
    rw [show qHJ1 r = true from by unfold qHJ1; rw [if_pos d1]]
    exact qHJ1_p1 r d1
  ·
    rw [show qHJ1 r = ((Int.tmod (i64.wrap (Int.tdiv r.Mask 8)) 4) == 0) from by unfold qHJ1; rw [if_neg (nt d1)]]
    exact qHJ1_p2 r d1
def qHJ2n (r : RPic) : Int :=
  if (rBit r.Control 32) = true then
    16
  else
    8
def qHJ2n_T (r : RPic) : Tm := [(0, pt 1000), (2, .int .i64 8), (33, .bool (rBit r.Control 32))]
def qHJ2n_H (r : RPic) : Heap := []
def qHJ2n_T1 (r : RPic) (r_ : Int) : Tm := [(0, pt 1000), (2, .int .i64 r_)]
def qHJ2n_H1 (r : RPic) (r_ : Int) : Heap := []
theorem qHJ2n_p1 (r : RPic) (d1 : (rBit r.Control 32) = true) : Runs Try.prog 196 (bodyOf Try.f83 [1, 1, 1, 0, 1]) (qHJ2n_T r) (qHJ2n_H r) 1005 .normal (qHJ2n_T1 r 16) (qHJ2n_H1 r 16) 1005 := by
  exact runs_of_x hG hM 400 [.yes] (J d1 trivial) (by kernel_rfl)
theorem qHJ2n_p2 (r : RPic) (d1 : (rBit r.Control 32) = false) : Runs Try.prog 196 (bodyOf Try.f83 [1, 1, 1, 0, 1]) (qHJ2n_T r) (qHJ2n_H r) 1005 .normal (qHJ2n_T1 r 8) (qHJ2n_H1 r 8) 1005 := by
  exact runs_of_x hG hM 400 [.no] (J d1 trivial) (by kernel_rfl)
theorem qHJ2n_runs (r : RPic) : Runs Try.prog 196 (bodyOf Try.f83 [1, 1, 1, 0, 1]) (qHJ2n_T r) (qHJ2n_H r) 1005 .normal (qHJ2n_T1 r (qHJ2n r)) (qHJ2n_H1 r (qHJ2n r)) 1005 := by
  rcases bt (rBit r.Control 32) with d1 | d1
  ·
    rw [show qHJ2n r = 16 from by unfold qHJ2n; rw [if_pos d1]]
    exact qHJ2n_p1 r d1
  ·
    rw [show qHJ2n r = 8 from by unfold qHJ2n; rw [if_neg (nt d1)]]
    exact qHJ2n_p2 r d1
def qHJ4ny (r : RPic) (xd : (List Man) × Int × RPic) (xe : Int × Int × Int × Int) : Bool :=
  if (decide (xe.2.2.2 < 0)) = true then
    true
  else
    (decide (xe.2.2.2 ≥ (qHJ2n r)))
def qHJ4ny_T (r : RPic) (xd : (List Man) × Int × RPic) (xe : Int × Int × Int × Int) : Tm := [(0, pt 1000), (2, .int .i64 (qHJ2n r)), (3, .int .i64 xd.2.1), (5, .int .i64 xe.1), (6, .int .i64 xe.2.1), (7, .int .i64 xe.2.2.1), (8, .int .i64 xe.2.2.2)]
def qHJ4ny_H (r : RPic) (xd : (List Man) × Int × RPic) (xe : Int × Int × Int × Int) : Heap := []
def qHJ4ny_T1 (r : RPic) (xd : (List Man) × Int × RPic) (xe : Int × Int × Int × Int) (r_ : Bool) : Tm := [(0, pt 1000), (2, .int .i64 (qHJ2n r)), (3, .int .i64 xd.2.1), (5, .int .i64 xe.1), (6, .int .i64 xe.2.1), (7, .int .i64 xe.2.2.1), (8, .int .i64 xe.2.2.2), (89, .bool r_)]
def qHJ4ny_H1 (r : RPic) (xd : (List Man) × Int × RPic) (xe : Int × Int × Int × Int) (r_ : Bool) : Heap := []
theorem qHJ4ny_p1 (r : RPic) (xd : (List Man) × Int × RPic) (xe : Int × Int × Int × Int) (e1 : (decide (xe.2.2.2 < 0)) = true) : Runs Try.prog 196 (bodyOf Try.f83 [1, 1, 1, 1, 1, 0, 0, 1, 0, 0, 1, 1, 0, 0]) (qHJ4ny_T r xd xe) (qHJ4ny_H r xd xe) 1006 .normal (qHJ4ny_T1 r xd xe true) (qHJ4ny_H1 r xd xe true) 1006 := by
  exact runs_of_x hG hM 400 [.yes, .yes, .yes, .yes] (J e1 (J e1 (J e1 (J e1 trivial)))) (by kernel_rfl)
theorem qHJ4ny_p2 (r : RPic) (xd : (List Man) × Int × RPic) (xe : Int × Int × Int × Int) (e1 : (decide (xe.2.2.2 < 0)) = false) : Runs Try.prog 196 (bodyOf Try.f83 [1, 1, 1, 1, 1, 0, 0, 1, 0, 0, 1, 1, 0, 0]) (qHJ4ny_T r xd xe) (qHJ4ny_H r xd xe) 1006 .normal (qHJ4ny_T1 r xd xe (decide (xe.2.2.2 ≥ (qHJ2n r)))) (qHJ4ny_H1 r xd xe (decide (xe.2.2.2 ≥ (qHJ2n r)))) 1006 := by
  exact runs_of_x hG hM 400 [.no, .no, .no, .no] (J e1 (J e1 (J e1 (J e1 trivial)))) (by kernel_rfl)
theorem qHJ4ny_runs (r : RPic) (xd : (List Man) × Int × RPic) (xe : Int × Int × Int × Int) : Runs Try.prog 196 (bodyOf Try.f83 [1, 1, 1, 1, 1, 0, 0, 1, 0, 0, 1, 1, 0, 0]) (qHJ4ny_T r xd xe) (qHJ4ny_H r xd xe) 1006 .normal (qHJ4ny_T1 r xd xe (qHJ4ny r xd xe)) (qHJ4ny_H1 r xd xe (qHJ4ny r xd xe)) 1006 := by
  rcases bt (decide (xe.2.2.2 < 0)) with e1 | e1
  ·
    rw [show qHJ4ny r xd xe = true from by unfold qHJ4ny; rw [if_pos e1]]
    exact qHJ4ny_p1 r xd xe e1
  ·
    rw [show qHJ4ny r xd xe = (decide (xe.2.2.2 ≥ (qHJ2n r))) from by unfold qHJ4ny; rw [if_neg (nt e1)]]
    exact qHJ4ny_p2 r xd xe e1
def qHJ5nynn (r : RPic) (rN : Nat → Int) (xd : (List Man) × Int × RPic) (xe : Bool) : Int :=
  if xe = true then
    (i64.wrap ((i64.wrap ((qHJ2n r) - 1)) - (i64.wrap (xd.2.2.Line - (i64.wrap (rN (Int.toNat (i64.wrap (4 * xd.2.1)))))))))
  else
    (i64.wrap (xd.2.2.Line - (i64.wrap (rN (Int.toNat (i64.wrap (4 * xd.2.1)))))))
def qHJ5nynn_T (r : RPic) (rN : Nat → Int) (xd : (List Man) × Int × RPic) (xe : Bool) : Tm := [(0, pt 1000), (2, .int .i64 (qHJ2n r)), (3, .int .i64 xd.2.1), (5, .int .i64 (i64.wrap (rN (Int.toNat (i64.wrap ((i64.wrap (4 * xd.2.1)) + 1)))))), (6, .int .i64 (i64.wrap (rN (Int.toNat (i64.wrap ((i64.wrap (4 * xd.2.1)) + 2)))))), (7, .int .i64 (i64.wrap (rN (Int.toNat (i64.wrap ((i64.wrap (4 * xd.2.1)) + 3)))))), (8, .int .i64 (i64.wrap (xd.2.2.Line - (i64.wrap (rN (Int.toNat (i64.wrap (4 * xd.2.1)))))))), (100, .bool xe)]
def qHJ5nynn_H (r : RPic) (rN : Nat → Int) (xd : (List Man) × Int × RPic) (xe : Bool) : Heap := []
def qHJ5nynn_T1 (r : RPic) (rN : Nat → Int) (xd : (List Man) × Int × RPic) (xe : Bool) (r_ : Int) : Tm := [(0, pt 1000), (2, .int .i64 (qHJ2n r)), (3, .int .i64 xd.2.1), (5, .int .i64 (i64.wrap (rN (Int.toNat (i64.wrap ((i64.wrap (4 * xd.2.1)) + 1)))))), (6, .int .i64 (i64.wrap (rN (Int.toNat (i64.wrap ((i64.wrap (4 * xd.2.1)) + 2)))))), (7, .int .i64 (i64.wrap (rN (Int.toNat (i64.wrap ((i64.wrap (4 * xd.2.1)) + 3)))))), (8, .int .i64 r_)]
def qHJ5nynn_H1 (r : RPic) (rN : Nat → Int) (xd : (List Man) × Int × RPic) (xe : Bool) (r_ : Int) : Heap := []
theorem qHJ5nynn_p1 (r : RPic) (rN : Nat → Int) (xd : (List Man) × Int × RPic) (xe : Bool) (e1 : xe = true) : Runs Try.prog 196 (bodyOf Try.f83 [1, 1, 1, 1, 1, 0, 0, 1, 0, 0, 1, 1, 1, 1, 0, 1]) (qHJ5nynn_T r rN xd xe) (qHJ5nynn_H r rN xd xe) 1006 .normal (qHJ5nynn_T1 r rN xd xe (i64.wrap ((i64.wrap ((qHJ2n r) - 1)) - (i64.wrap (xd.2.2.Line - (i64.wrap (rN (Int.toNat (i64.wrap (4 * xd.2.1)))))))))) (qHJ5nynn_H1 r rN xd xe (i64.wrap ((i64.wrap ((qHJ2n r) - 1)) - (i64.wrap (xd.2.2.Line - (i64.wrap (rN (Int.toNat (i64.wrap (4 * xd.2.1)))))))))) 1006 := by
  exact runs_of_x hG hM 400 [.yes] (J e1 trivial) (by kernel_rfl)
theorem qHJ5nynn_p2 (r : RPic) (rN : Nat → Int) (xd : (List Man) × Int × RPic) (xe : Bool) (e1 : xe = false) : Runs Try.prog 196 (bodyOf Try.f83 [1, 1, 1, 1, 1, 0, 0, 1, 0, 0, 1, 1, 1, 1, 0, 1]) (qHJ5nynn_T r rN xd xe) (qHJ5nynn_H r rN xd xe) 1006 .normal (qHJ5nynn_T1 r rN xd xe (i64.wrap (xd.2.2.Line - (i64.wrap (rN (Int.toNat (i64.wrap (4 * xd.2.1)))))))) (qHJ5nynn_H1 r rN xd xe (i64.wrap (xd.2.2.Line - (i64.wrap (rN (Int.toNat (i64.wrap (4 * xd.2.1)))))))) 1006 := by
  exact runs_of_x hG hM 400 [.no] (J e1 trivial) (by kernel_rfl)
theorem qHJ5nynn_runs (r : RPic) (rN : Nat → Int) (xd : (List Man) × Int × RPic) (xe : Bool) : Runs Try.prog 196 (bodyOf Try.f83 [1, 1, 1, 1, 1, 0, 0, 1, 0, 0, 1, 1, 1, 1, 0, 1]) (qHJ5nynn_T r rN xd xe) (qHJ5nynn_H r rN xd xe) 1006 .normal (qHJ5nynn_T1 r rN xd xe (qHJ5nynn r rN xd xe)) (qHJ5nynn_H1 r rN xd xe (qHJ5nynn r rN xd xe)) 1006 := by
  rcases bt xe with e1 | e1
  ·
    rw [show qHJ5nynn r rN xd xe = (i64.wrap ((i64.wrap ((qHJ2n r) - 1)) - (i64.wrap (xd.2.2.Line - (i64.wrap (rN (Int.toNat (i64.wrap (4 * xd.2.1))))))))) from by unfold qHJ5nynn; rw [if_pos e1]]
    exact qHJ5nynn_p1 r rN xd xe e1
  ·
    rw [show qHJ5nynn r rN xd xe = (i64.wrap (xd.2.2.Line - (i64.wrap (rN (Int.toNat (i64.wrap (4 * xd.2.1))))))) from by unfold qHJ5nynn; rw [if_neg (nt e1)]]
    exact qHJ5nynn_p2 r rN xd xe e1
def qHJ7nynnn (r : RPic) (rN : Nat → Int) (xd : (List Man) × Int × RPic) (xe : Int × Int) : Int :=
  if (rBit xd.2.2.Control 8) = true then
    (i64.wrap (xe.2 + 4096))
  else
    xe.2
def qHJ7nynnn_T (r : RPic) (rN : Nat → Int) (xd : (List Man) × Int × RPic) (xe : Int × Int) : Tm := [(0, pt 1000), (2, .int .i64 (qHJ2n r)), (3, .int .i64 xd.2.1), (6, .int .i64 (i64.wrap (rN (Int.toNat (i64.wrap ((i64.wrap (4 * xd.2.1)) + 2)))))), (7, .int .i64 (i64.wrap (rN (Int.toNat (i64.wrap ((i64.wrap (4 * xd.2.1)) + 3)))))), (9, .int .i64 xe.2), (130, .bool (rBit xd.2.2.Control 8))]
def qHJ7nynnn_H (r : RPic) (rN : Nat → Int) (xd : (List Man) × Int × RPic) (xe : Int × Int) : Heap := []
def qHJ7nynnn_T1 (r : RPic) (rN : Nat → Int) (xd : (List Man) × Int × RPic) (xe : Int × Int) (r_ : Int) : Tm := [(0, pt 1000), (2, .int .i64 (qHJ2n r)), (3, .int .i64 xd.2.1), (6, .int .i64 (i64.wrap (rN (Int.toNat (i64.wrap ((i64.wrap (4 * xd.2.1)) + 2)))))), (7, .int .i64 (i64.wrap (rN (Int.toNat (i64.wrap ((i64.wrap (4 * xd.2.1)) + 3)))))), (9, .int .i64 r_)]
def qHJ7nynnn_H1 (r : RPic) (rN : Nat → Int) (xd : (List Man) × Int × RPic) (xe : Int × Int) (r_ : Int) : Heap := []
theorem qHJ7nynnn_p1 (r : RPic) (rN : Nat → Int) (xd : (List Man) × Int × RPic) (xe : Int × Int) (f1 : (rBit xd.2.2.Control 8) = true) : Runs Try.prog 196 (bodyOf Try.f83 [1, 1, 1, 1, 1, 0, 0, 1, 0, 0, 1, 1, 1, 1, 1, 1, 0, 1, 1, 1]) (qHJ7nynnn_T r rN xd xe) (qHJ7nynnn_H r rN xd xe) 1006 .normal (qHJ7nynnn_T1 r rN xd xe (i64.wrap (xe.2 + 4096))) (qHJ7nynnn_H1 r rN xd xe (i64.wrap (xe.2 + 4096))) 1006 := by
  exact runs_of_x hG hM 400 [.yes] (J f1 trivial) (by kernel_rfl)
theorem qHJ7nynnn_p2 (r : RPic) (rN : Nat → Int) (xd : (List Man) × Int × RPic) (xe : Int × Int) (f1 : (rBit xd.2.2.Control 8) = false) : Runs Try.prog 196 (bodyOf Try.f83 [1, 1, 1, 1, 1, 0, 0, 1, 0, 0, 1, 1, 1, 1, 1, 1, 0, 1, 1, 1]) (qHJ7nynnn_T r rN xd xe) (qHJ7nynnn_H r rN xd xe) 1006 .normal (qHJ7nynnn_T1 r rN xd xe xe.2) (qHJ7nynnn_H1 r rN xd xe xe.2) 1006 := by
  exact runs_of_x hG hM 400 [.no] (J f1 trivial) (by kernel_rfl)
theorem qHJ7nynnn_runs (r : RPic) (rN : Nat → Int) (xd : (List Man) × Int × RPic) (xe : Int × Int) : Runs Try.prog 196 (bodyOf Try.f83 [1, 1, 1, 1, 1, 0, 0, 1, 0, 0, 1, 1, 1, 1, 1, 1, 0, 1, 1, 1]) (qHJ7nynnn_T r rN xd xe) (qHJ7nynnn_H r rN xd xe) 1006 .normal (qHJ7nynnn_T1 r rN xd xe (qHJ7nynnn r rN xd xe)) (qHJ7nynnn_H1 r rN xd xe (qHJ7nynnn r rN xd xe)) 1006 := by
  rcases bt (rBit xd.2.2.Control 8) with f1 | f1
  ·
    rw [show qHJ7nynnn r rN xd xe = (i64.wrap (xe.2 + 4096)) from by unfold qHJ7nynnn; rw [if_pos f1]]
    exact qHJ7nynnn_p1 r rN xd xe f1
  ·
    rw [show qHJ7nynnn r rN xd xe = xe.2 from by unfold qHJ7nynnn; rw [if_neg (nt f1)]]
    exact qHJ7nynnn_p2 r rN xd xe f1
def qHJ6nynn (r : RPic) (rN : Nat → Int) (xd : (List Man) × Int × RPic) (xe : Int × Int) : Int :=
  if ((qHJ2n r) == 16) = true then
    (i64.wrap ((i64.wrap ((i64.wrap (4096 * (Int.tmod (i64.wrap (rN (Int.toNat (i64.wrap ((i64.wrap (4 * xd.2.1)) + 1))))) 2))) + (i64.wrap (16 * (i64.wrap ((i64.wrap ((i64.wrap (rN (Int.toNat (i64.wrap ((i64.wrap (4 * xd.2.1)) + 1))))) - (Int.tmod (i64.wrap (rN (Int.toNat (i64.wrap ((i64.wrap (4 * xd.2.1)) + 1))))) 2))) + (i64.wrap (Int.tdiv xe.1 8)))))))) + (Int.tmod xe.1 8)))
  else
    (qHJ7nynnn r rN xd xe)
def qHJ6nynn_T (r : RPic) (rN : Nat → Int) (xd : (List Man) × Int × RPic) (xe : Int × Int) : Tm := [(0, pt 1000), (2, .int .i64 (qHJ2n r)), (3, .int .i64 xd.2.1), (5, .int .i64 (i64.wrap (rN (Int.toNat (i64.wrap ((i64.wrap (4 * xd.2.1)) + 1)))))), (6, .int .i64 (i64.wrap (rN (Int.toNat (i64.wrap ((i64.wrap (4 * xd.2.1)) + 2)))))), (7, .int .i64 (i64.wrap (rN (Int.toNat (i64.wrap ((i64.wrap (4 * xd.2.1)) + 3)))))), (8, .int .i64 xe.1), (9, .int .i64 xe.2), (110, .bool ((qHJ2n r) == 16))]
def qHJ6nynn_H (r : RPic) (rN : Nat → Int) (xd : (List Man) × Int × RPic) (xe : Int × Int) : Heap := [(1000, (RPic.bl xd.2.2 (sl 1001 16384 1) (sl 1002 256 1) (sl 1005 (List.length xd.1) 4) (sl 1003 61440 1) false))]
def qHJ6nynn_T1 (r : RPic) (rN : Nat → Int) (xd : (List Man) × Int × RPic) (xe : Int × Int) (r_ : Int) : Tm := [(0, pt 1000), (2, .int .i64 (qHJ2n r)), (3, .int .i64 xd.2.1), (6, .int .i64 (i64.wrap (rN (Int.toNat (i64.wrap ((i64.wrap (4 * xd.2.1)) + 2)))))), (7, .int .i64 (i64.wrap (rN (Int.toNat (i64.wrap ((i64.wrap (4 * xd.2.1)) + 3)))))), (9, .int .i64 r_)]
def qHJ6nynn_H1 (r : RPic) (rN : Nat → Int) (xd : (List Man) × Int × RPic) (xe : Int × Int) (r_ : Int) : Heap := [(1000, (RPic.bl xd.2.2 (sl 1001 16384 1) (sl 1002 256 1) (sl 1005 (List.length xd.1) 4) (sl 1003 61440 1) false))]
theorem qHJ6nynn_p1 (r : RPic) (rN : Nat → Int) (xd : (List Man) × Int × RPic) (xe : Int × Int) (e1 : ((qHJ2n r) == 16) = true) : Runs Try.prog 196 (bodyOf Try.f83 [1, 1, 1, 1, 1, 0, 0, 1, 0, 0, 1, 1, 1, 1, 1, 1, 0, 1]) (qHJ6nynn_T r rN xd xe) (qHJ6nynn_H r rN xd xe) 1006 .normal (qHJ6nynn_T1 r rN xd xe (i64.wrap ((i64.wrap ((i64.wrap (4096 * (Int.tmod (i64.wrap (rN (Int.toNat (i64.wrap ((i64.wrap (4 * xd.2.1)) + 1))))) 2))) + (i64.wrap (16 * (i64.wrap ((i64.wrap ((i64.wrap (rN (Int.toNat (i64.wrap ((i64.wrap (4 * xd.2.1)) + 1))))) - (Int.tmod (i64.wrap (rN (Int.toNat (i64.wrap ((i64.wrap (4 * xd.2.1)) + 1))))) 2))) + (i64.wrap (Int.tdiv xe.1 8)))))))) + (Int.tmod xe.1 8)))) (qHJ6nynn_H1 r rN xd xe (i64.wrap ((i64.wrap ((i64.wrap (4096 * (Int.tmod (i64.wrap (rN (Int.toNat (i64.wrap ((i64.wrap (4 * xd.2.1)) + 1))))) 2))) + (i64.wrap (16 * (i64.wrap ((i64.wrap ((i64.wrap (rN (Int.toNat (i64.wrap ((i64.wrap (4 * xd.2.1)) + 1))))) - (Int.tmod (i64.wrap (rN (Int.toNat (i64.wrap ((i64.wrap (4 * xd.2.1)) + 1))))) 2))) + (i64.wrap (Int.tdiv xe.1 8)))))))) + (Int.tmod xe.1 8)))) 1006 := by
  exact runs_of_x hG hM 400 [.yes] (J e1 (J (by decide : ((2 : Int) ≠ 0)) (J (by decide : ((2 : Int) ≠ 0)) (J (by decide : ((8 : Int) ≠ 0)) (J (by decide : ((8 : Int) ≠ 0)) trivial))))) (by kernel_rfl)
theorem qHJ6nynn_p2 (r : RPic) (rN : Nat → Int) (xd : (List Man) × Int × RPic) (xe : Int × Int) (e1 : ((qHJ2n r) == 16) = false) : Runs Try.prog 196 (bodyOf Try.f83 [1, 1, 1, 1, 1, 0, 0, 1, 0, 0, 1, 1, 1, 1, 1, 1, 0, 1]) (qHJ6nynn_T r rN xd xe) (qHJ6nynn_H r rN xd xe) 1006 .normal (qHJ6nynn_T1 r rN xd xe (qHJ7nynnn r rN xd xe)) (qHJ6nynn_H1 r rN xd xe (qHJ7nynnn r rN xd xe)) 1006 := by
  exact runs_of_x hG hM 400 [.no, .call [] [] 1000 (.bool (rBit xd.2.2.Control 8)) [], .segk 2 0 [0, 2, 3, 6, 7, 9, 130] [] .normal (qHJ7nynnn_T1 r rN xd xe (qHJ7nynnn r rN xd xe)) (qHJ7nynnn_H1 r rN xd xe (qHJ7nynnn r rN xd xe)) 1006] (J e1 (J (rBit_ok xd.2.2.Control 8 (by decide : (8 : Int) ≠ 0)) (J (qHJ7nynnn_runs r rN xd xe) trivial))) (by kernel_rfl)
theorem qHJ6nynn_runs (r : RPic) (rN : Nat → Int) (xd : (List Man) × Int × RPic) (xe : Int × Int) : Runs Try.prog 196 (bodyOf Try.f83 [1, 1, 1, 1, 1, 0, 0, 1, 0, 0, 1, 1, 1, 1, 1, 1, 0, 1]) (qHJ6nynn_T r rN xd xe) (qHJ6nynn_H r rN xd xe) 1006 .normal (qHJ6nynn_T1 r rN xd xe (qHJ6nynn r rN xd xe)) (qHJ6nynn_H1 r rN xd xe (qHJ6nynn r rN xd xe)) 1006 := by
  rcases bt ((qHJ2n r) == 16) with e1 | e1
  ·
    rw [show qHJ6nynn r rN xd xe = (i64.wrap ((i64.wrap ((i64.wrap (4096 * (Int.tmod (i64.wrap (rN (Int.toNat (i64.wrap ((i64.wrap (4 * xd.2.1)) + 1))))) 2))) + (i64.wrap (16 * (i64.wrap ((i64.wrap ((i64.wrap (rN (Int.toNat (i64.wrap ((i64.wrap (4 * xd.2.1)) + 1))))) - (Int.tmod (i64.wrap (rN (Int.toNat (i64.wrap ((i64.wrap (4 * xd.2.1)) + 1))))) 2))) + (i64.wrap (Int.tdiv xe.1 8)))))))) + (Int.tmod xe.1 8))) from by unfold qHJ6nynn; rw [if_pos e1]]
    exact qHJ6nynn_p1 r rN xd xe e1
  ·
    rw [show qHJ6nynn r rN xd xe = (qHJ7nynnn r rN xd xe) from by unfold qHJ6nynn; rw [if_neg (nt e1)]]
    exact qHJ6nynn_p2 r rN xd xe e1
inductive qHL3n (r : RPic) (rM : Nat → Int) (rN : Nat → Int) (rS : Nat → Int) (xd : (List Man) × Int × RPic) : ((List Man) × Int × RPic) ⊕ (((List Man) × Int × RPic) ⊕ ((List Man) × Int × RPic)) → Prop
  | p1 (d1 : (decide (xd.2.1 < 64)) = true) (w1d : 0 ≤ (i64.wrap (4 * xd.2.1)) ∧ (i64.wrap (4 * xd.2.1)) < ((256 : Nat) : Int)) (w2d : 0 ≤ (i64.wrap ((i64.wrap (4 * xd.2.1)) + 1)) ∧ (i64.wrap ((i64.wrap (4 * xd.2.1)) + 1)) < ((256 : Nat) : Int)) (w3d : 0 ≤ (i64.wrap ((i64.wrap (4 * xd.2.1)) + 2)) ∧ (i64.wrap ((i64.wrap (4 * xd.2.1)) + 2)) < ((256 : Nat) : Int)) (w4d : 0 ≤ (i64.wrap ((i64.wrap (4 * xd.2.1)) + 3)) ∧ (i64.wrap ((i64.wrap (4 * xd.2.1)) + 3)) < ((256 : Nat) : Int)) (d2 : (qHJ4ny r xd ((i64.wrap (rN (Int.toNat (i64.wrap ((i64.wrap (4 * xd.2.1)) + 1))))), (i64.wrap (rN (Int.toNat (i64.wrap ((i64.wrap (4 * xd.2.1)) + 2))))), (i64.wrap (rN (Int.toNat (i64.wrap ((i64.wrap (4 * xd.2.1)) + 3))))), (i64.wrap (xd.2.2.Line - (i64.wrap (rN (Int.toNat (i64.wrap (4 * xd.2.1))))))))) = true) : qHL3n r rM rN rS xd (.inl (xd.1, (i64.wrap (xd.2.1 + 1)), xd.2.2))
  | p2 (d1 : (decide (xd.2.1 < 64)) = true) (w1d : 0 ≤ (i64.wrap (4 * xd.2.1)) ∧ (i64.wrap (4 * xd.2.1)) < ((256 : Nat) : Int)) (w2d : 0 ≤ (i64.wrap ((i64.wrap (4 * xd.2.1)) + 1)) ∧ (i64.wrap ((i64.wrap (4 * xd.2.1)) + 1)) < ((256 : Nat) : Int)) (w3d : 0 ≤ (i64.wrap ((i64.wrap (4 * xd.2.1)) + 2)) ∧ (i64.wrap ((i64.wrap (4 * xd.2.1)) + 2)) < ((256 : Nat) : Int)) (w4d : 0 ≤ (i64.wrap ((i64.wrap (4 * xd.2.1)) + 3)) ∧ (i64.wrap ((i64.wrap (4 * xd.2.1)) + 3)) < ((256 : Nat) : Int)) (d2 : (qHJ4ny r xd ((i64.wrap (rN (Int.toNat (i64.wrap ((i64.wrap (4 * xd.2.1)) + 1))))), (i64.wrap (rN (Int.toNat (i64.wrap ((i64.wrap (4 * xd.2.1)) + 2))))), (i64.wrap (rN (Int.toNat (i64.wrap ((i64.wrap (4 * xd.2.1)) + 3))))), (i64.wrap (xd.2.2.Line - (i64.wrap (rN (Int.toNat (i64.wrap (4 * xd.2.1))))))))) = false) (d3 : (((((List.length xd.1) : Nat) : Int) : Int) == 8) = true) : qHL3n r rM rN rS xd (.inr (.inr (xd.1, xd.2.1, ({ xd.2.2 with Many := true } : RPic))))
  | p3 (d1 : (decide (xd.2.1 < 64)) = true) (w1d : 0 ≤ (i64.wrap (4 * xd.2.1)) ∧ (i64.wrap (4 * xd.2.1)) < ((256 : Nat) : Int)) (w2d : 0 ≤ (i64.wrap ((i64.wrap (4 * xd.2.1)) + 1)) ∧ (i64.wrap ((i64.wrap (4 * xd.2.1)) + 1)) < ((256 : Nat) : Int)) (w3d : 0 ≤ (i64.wrap ((i64.wrap (4 * xd.2.1)) + 2)) ∧ (i64.wrap ((i64.wrap (4 * xd.2.1)) + 2)) < ((256 : Nat) : Int)) (w4d : 0 ≤ (i64.wrap ((i64.wrap (4 * xd.2.1)) + 3)) ∧ (i64.wrap ((i64.wrap (4 * xd.2.1)) + 3)) < ((256 : Nat) : Int)) (d2 : (qHJ4ny r xd ((i64.wrap (rN (Int.toNat (i64.wrap ((i64.wrap (4 * xd.2.1)) + 1))))), (i64.wrap (rN (Int.toNat (i64.wrap ((i64.wrap (4 * xd.2.1)) + 2))))), (i64.wrap (rN (Int.toNat (i64.wrap ((i64.wrap (4 * xd.2.1)) + 3))))), (i64.wrap (xd.2.2.Line - (i64.wrap (rN (Int.toNat (i64.wrap (4 * xd.2.1))))))))) = false) (d3 : (((((List.length xd.1) : Nat) : Int) : Int) == 8) = false) (w5d : 0 ≤ (qHJ6nynn r rN xd ((qHJ5nynn r rN xd (rBit (i64.wrap (rN (Int.toNat (i64.wrap ((i64.wrap (4 * xd.2.1)) + 2))))) 128)), (i64.wrap ((i64.wrap (16 * (i64.wrap (rN (Int.toNat (i64.wrap ((i64.wrap (4 * xd.2.1)) + 1))))))) + (qHJ5nynn r rN xd (rBit (i64.wrap (rN (Int.toNat (i64.wrap ((i64.wrap (4 * xd.2.1)) + 2))))) 128)))))) ∧ (qHJ6nynn r rN xd ((qHJ5nynn r rN xd (rBit (i64.wrap (rN (Int.toNat (i64.wrap ((i64.wrap (4 * xd.2.1)) + 2))))) 128)), (i64.wrap ((i64.wrap (16 * (i64.wrap (rN (Int.toNat (i64.wrap ((i64.wrap (4 * xd.2.1)) + 1))))))) + (qHJ5nynn r rN xd (rBit (i64.wrap (rN (Int.toNat (i64.wrap ((i64.wrap (4 * xd.2.1)) + 2))))) 128)))))) < ((16384 : Nat) : Int)) (w6d : 0 ≤ (i64.wrap ((qHJ6nynn r rN xd ((qHJ5nynn r rN xd (rBit (i64.wrap (rN (Int.toNat (i64.wrap ((i64.wrap (4 * xd.2.1)) + 2))))) 128)), (i64.wrap ((i64.wrap (16 * (i64.wrap (rN (Int.toNat (i64.wrap ((i64.wrap (4 * xd.2.1)) + 1))))))) + (qHJ5nynn r rN xd (rBit (i64.wrap (rN (Int.toNat (i64.wrap ((i64.wrap (4 * xd.2.1)) + 2))))) 128)))))) + 8)) ∧ (i64.wrap ((qHJ6nynn r rN xd ((qHJ5nynn r rN xd (rBit (i64.wrap (rN (Int.toNat (i64.wrap ((i64.wrap (4 * xd.2.1)) + 2))))) 128)), (i64.wrap ((i64.wrap (16 * (i64.wrap (rN (Int.toNat (i64.wrap ((i64.wrap (4 * xd.2.1)) + 1))))))) + (qHJ5nynn r rN xd (rBit (i64.wrap (rN (Int.toNat (i64.wrap ((i64.wrap (4 * xd.2.1)) + 2))))) 128)))))) + 8)) < ((16384 : Nat) : Int)) (d4 : (rBit (i64.wrap (rN (Int.toNat (i64.wrap ((i64.wrap (4 * xd.2.1)) + 2))))) 64) = true) (w7d : (List.length xd.1) + 1 ≤ 1048576) : qHL3n r rM rN rS xd (.inl ((xd.1 ++ [({ X := (i64.wrap (rN (Int.toNat (i64.wrap ((i64.wrap (4 * xd.2.1)) + 3))))), Look := (i64.wrap (rN (Int.toNat (i64.wrap ((i64.wrap (4 * xd.2.1)) + 2))))), First := (xd.2.1 == 0), Dots := (rev8 (rNum (i64.wrap (rM (Int.toNat (qHJ6nynn r rN xd ((qHJ5nynn r rN xd (rBit (i64.wrap (rN (Int.toNat (i64.wrap ((i64.wrap (4 * xd.2.1)) + 2))))) 128)), (i64.wrap ((i64.wrap (16 * (i64.wrap (rN (Int.toNat (i64.wrap ((i64.wrap (4 * xd.2.1)) + 1))))))) + (qHJ5nynn r rN xd (rBit (i64.wrap (rN (Int.toNat (i64.wrap ((i64.wrap (4 * xd.2.1)) + 2))))) 128))))))))) (i64.wrap (rM (Int.toNat (i64.wrap ((qHJ6nynn r rN xd ((qHJ5nynn r rN xd (rBit (i64.wrap (rN (Int.toNat (i64.wrap ((i64.wrap (4 * xd.2.1)) + 2))))) 128)), (i64.wrap ((i64.wrap (16 * (i64.wrap (rN (Int.toNat (i64.wrap ((i64.wrap (4 * xd.2.1)) + 1))))))) + (qHJ5nynn r rN xd (rBit (i64.wrap (rN (Int.toNat (i64.wrap ((i64.wrap (4 * xd.2.1)) + 2))))) 128)))))) + 8))))))), Full := true } : Man)]), (i64.wrap (xd.2.1 + 1)), xd.2.2))
  | p4 (d1 : (decide (xd.2.1 < 64)) = true) (w1d : 0 ≤ (i64.wrap (4 * xd.2.1)) ∧ (i64.wrap (4 * xd.2.1)) < ((256 : Nat) : Int)) (w2d : 0 ≤ (i64.wrap ((i64.wrap (4 * xd.2.1)) + 1)) ∧ (i64.wrap ((i64.wrap (4 * xd.2.1)) + 1)) < ((256 : Nat) : Int)) (w3d : 0 ≤ (i64.wrap ((i64.wrap (4 * xd.2.1)) + 2)) ∧ (i64.wrap ((i64.wrap (4 * xd.2.1)) + 2)) < ((256 : Nat) : Int)) (w4d : 0 ≤ (i64.wrap ((i64.wrap (4 * xd.2.1)) + 3)) ∧ (i64.wrap ((i64.wrap (4 * xd.2.1)) + 3)) < ((256 : Nat) : Int)) (d2 : (qHJ4ny r xd ((i64.wrap (rN (Int.toNat (i64.wrap ((i64.wrap (4 * xd.2.1)) + 1))))), (i64.wrap (rN (Int.toNat (i64.wrap ((i64.wrap (4 * xd.2.1)) + 2))))), (i64.wrap (rN (Int.toNat (i64.wrap ((i64.wrap (4 * xd.2.1)) + 3))))), (i64.wrap (xd.2.2.Line - (i64.wrap (rN (Int.toNat (i64.wrap (4 * xd.2.1))))))))) = false) (d3 : (((((List.length xd.1) : Nat) : Int) : Int) == 8) = false) (w5d : 0 ≤ (qHJ6nynn r rN xd ((qHJ5nynn r rN xd (rBit (i64.wrap (rN (Int.toNat (i64.wrap ((i64.wrap (4 * xd.2.1)) + 2))))) 128)), (i64.wrap ((i64.wrap (16 * (i64.wrap (rN (Int.toNat (i64.wrap ((i64.wrap (4 * xd.2.1)) + 1))))))) + (qHJ5nynn r rN xd (rBit (i64.wrap (rN (Int.toNat (i64.wrap ((i64.wrap (4 * xd.2.1)) + 2))))) 128)))))) ∧ (qHJ6nynn r rN xd ((qHJ5nynn r rN xd (rBit (i64.wrap (rN (Int.toNat (i64.wrap ((i64.wrap (4 * xd.2.1)) + 2))))) 128)), (i64.wrap ((i64.wrap (16 * (i64.wrap (rN (Int.toNat (i64.wrap ((i64.wrap (4 * xd.2.1)) + 1))))))) + (qHJ5nynn r rN xd (rBit (i64.wrap (rN (Int.toNat (i64.wrap ((i64.wrap (4 * xd.2.1)) + 2))))) 128)))))) < ((16384 : Nat) : Int)) (w6d : 0 ≤ (i64.wrap ((qHJ6nynn r rN xd ((qHJ5nynn r rN xd (rBit (i64.wrap (rN (Int.toNat (i64.wrap ((i64.wrap (4 * xd.2.1)) + 2))))) 128)), (i64.wrap ((i64.wrap (16 * (i64.wrap (rN (Int.toNat (i64.wrap ((i64.wrap (4 * xd.2.1)) + 1))))))) + (qHJ5nynn r rN xd (rBit (i64.wrap (rN (Int.toNat (i64.wrap ((i64.wrap (4 * xd.2.1)) + 2))))) 128)))))) + 8)) ∧ (i64.wrap ((qHJ6nynn r rN xd ((qHJ5nynn r rN xd (rBit (i64.wrap (rN (Int.toNat (i64.wrap ((i64.wrap (4 * xd.2.1)) + 2))))) 128)), (i64.wrap ((i64.wrap (16 * (i64.wrap (rN (Int.toNat (i64.wrap ((i64.wrap (4 * xd.2.1)) + 1))))))) + (qHJ5nynn r rN xd (rBit (i64.wrap (rN (Int.toNat (i64.wrap ((i64.wrap (4 * xd.2.1)) + 2))))) 128)))))) + 8)) < ((16384 : Nat) : Int)) (d4 : (rBit (i64.wrap (rN (Int.toNat (i64.wrap ((i64.wrap (4 * xd.2.1)) + 2))))) 64) = false) (w7d : (List.length xd.1) + 1 ≤ 1048576) : qHL3n r rM rN rS xd (.inl ((xd.1 ++ [({ X := (i64.wrap (rN (Int.toNat (i64.wrap ((i64.wrap (4 * xd.2.1)) + 3))))), Look := (i64.wrap (rN (Int.toNat (i64.wrap ((i64.wrap (4 * xd.2.1)) + 2))))), First := (xd.2.1 == 0), Dots := (rNum (i64.wrap (rM (Int.toNat (qHJ6nynn r rN xd ((qHJ5nynn r rN xd (rBit (i64.wrap (rN (Int.toNat (i64.wrap ((i64.wrap (4 * xd.2.1)) + 2))))) 128)), (i64.wrap ((i64.wrap (16 * (i64.wrap (rN (Int.toNat (i64.wrap ((i64.wrap (4 * xd.2.1)) + 1))))))) + (qHJ5nynn r rN xd (rBit (i64.wrap (rN (Int.toNat (i64.wrap ((i64.wrap (4 * xd.2.1)) + 2))))) 128))))))))) (i64.wrap (rM (Int.toNat (i64.wrap ((qHJ6nynn r rN xd ((qHJ5nynn r rN xd (rBit (i64.wrap (rN (Int.toNat (i64.wrap ((i64.wrap (4 * xd.2.1)) + 2))))) 128)), (i64.wrap ((i64.wrap (16 * (i64.wrap (rN (Int.toNat (i64.wrap ((i64.wrap (4 * xd.2.1)) + 1))))))) + (qHJ5nynn r rN xd (rBit (i64.wrap (rN (Int.toNat (i64.wrap ((i64.wrap (4 * xd.2.1)) + 2))))) 128)))))) + 8)))))), Full := true } : Man)]), (i64.wrap (xd.2.1 + 1)), xd.2.2))
  | p5 (d1 : (decide (xd.2.1 < 64)) = false) : qHL3n r rM rN rS xd (.inr (.inl (xd.1, xd.2.1, xd.2.2)))
def qHL3n_T (r : RPic) (rM : Nat → Int) (rN : Nat → Int) (rS : Nat → Int) (xd : (List Man) × Int × RPic) : Tm := [(0, pt 1000), (2, .int .i64 (qHJ2n r)), (3, .int .i64 xd.2.1)]
def qHL3n_H (r : RPic) (rM : Nat → Int) (rN : Nat → Int) (rS : Nat → Int) (xd : (List Man) × Int × RPic) : Heap := [(1000, (RPic.bl xd.2.2 (sl 1001 16384 1) (sl 1002 256 1) (sl 1005 (List.length xd.1) 4) (sl 1003 61440 1) false)), (1001, iB 16384 rM false), (1002, iB 256 rN false), (1005, ⟨[rowsL Man.cells Man.nil 4 xd.1], 119, false⟩)]
def qHL3n_T1 (r : RPic) (rM : Nat → Int) (rN : Nat → Int) (rS : Nat → Int) : (((List Man) × Int × RPic) ⊕ ((List Man) × Int × RPic)) → Tm
  | .inl q_ => qHL3n_T r rM rN rS q_
  | .inr q_ => qHL3n_T r rM rN rS q_
def qHL3n_H1 (r : RPic) (rM : Nat → Int) (rN : Nat → Int) (rS : Nat → Int) : (((List Man) × Int × RPic) ⊕ ((List Man) × Int × RPic)) → Heap
  | .inl q_ => qHL3n_H r rM rN rS q_
  | .inr q_ => qHL3n_H r rM rN rS q_
def qHL3n_ex : (((List Man) × Int × RPic) ⊕ ((List Man) × Int × RPic)) → Ex
  | .inl _ => .exit 0
  | .inr _ => .ret
abbrev NGk2 (rN : Nat → Int) (xd : (List Man) × Int × RPic) := (i64.wrap (rN (Int.toNat (i64.wrap ((i64.wrap (4 * xd.2.1)) + 2)))))
abbrev NGk1 (rN : Nat → Int) (xd : (List Man) × Int × RPic) := ((i64.wrap (rN (Int.toNat (i64.wrap ((i64.wrap (4 * xd.2.1)) + 1))))), (NGk2 rN xd), (i64.wrap (rN (Int.toNat (i64.wrap ((i64.wrap (4 * xd.2.1)) + 3))))), (i64.wrap (xd.2.2.Line - (i64.wrap (rN (Int.toNat (i64.wrap (4 * xd.2.1))))))))
theorem qHL3n_p1 (r : RPic) (rM : Nat → Int) (rN : Nat → Int) (rS : Nat → Int) (xd : (List Man) × Int × RPic) (d1 : (decide (xd.2.1 < 64)) = true) (w1d : 0 ≤ (i64.wrap (4 * xd.2.1)) ∧ (i64.wrap (4 * xd.2.1)) < ((256 : Nat) : Int)) (w2d : 0 ≤ (i64.wrap ((i64.wrap (4 * xd.2.1)) + 1)) ∧ (i64.wrap ((i64.wrap (4 * xd.2.1)) + 1)) < ((256 : Nat) : Int)) (w3d : 0 ≤ (i64.wrap ((i64.wrap (4 * xd.2.1)) + 2)) ∧ (i64.wrap ((i64.wrap (4 * xd.2.1)) + 2)) < ((256 : Nat) : Int)) (w4d : 0 ≤ (i64.wrap ((i64.wrap (4 * xd.2.1)) + 3)) ∧ (i64.wrap ((i64.wrap (4 * xd.2.1)) + 3)) < ((256 : Nat) : Int)) (d2 : (qHJ4ny r xd ((i64.wrap (rN (Int.toNat (i64.wrap ((i64.wrap (4 * xd.2.1)) + 1))))), (i64.wrap (rN (Int.toNat (i64.wrap ((i64.wrap (4 * xd.2.1)) + 2))))), (i64.wrap (rN (Int.toNat (i64.wrap ((i64.wrap (4 * xd.2.1)) + 3))))), (i64.wrap (xd.2.2.Line - (i64.wrap (rN (Int.toNat (i64.wrap (4 * xd.2.1))))))))) = true) : RunsM Try.prog 196 (bodyOf Try.f83 [1, 1, 1, 1, 1, 0, 0]) 1005 (qHL3n_T r rM rN rS xd) (qHL3n_H r rM rN rS xd) 1006 .normal (qHL3n_T r rM rN rS (xd.1, (i64.wrap (xd.2.1 + 1)), xd.2.2)) (qHL3n_H r rM rN rS (xd.1, (i64.wrap (xd.2.1 + 1)), xd.2.2)) 1006 := by
  exact runsM_of_x hG hM 400 1005 [.yes, .sym, .sym, .sym, .sym, .segk 0 10 [0, 2, 3, 5, 6, 7, 8] [] .normal (qHJ4ny_T1 r xd (NGk1 rN xd) (qHJ4ny r xd (NGk1 rN xd))) (qHJ4ny_H1 r xd (NGk1 rN xd) (qHJ4ny r xd (NGk1 rN xd))) 1006, .yes] [(1000, 1000), (1001, 1001), (1002, 1002), (1003, 1003), (1005, 1005)] (J d1 (J w1d (J (lt_nat w1d) (J w2d (J (lt_nat w2d) (J w3d (J (lt_nat w3d) (J w4d (J (lt_nat w4d) (J (qHJ4ny_runs r xd (NGk1 rN xd)) (J d2 trivial))))))))))) (by kernel_rfl)
theorem qHL3n_p2 (r : RPic) (rM : Nat → Int) (rN : Nat → Int) (rS : Nat → Int) (xd : (List Man) × Int × RPic) (d1 : (decide (xd.2.1 < 64)) = true) (w1d : 0 ≤ (i64.wrap (4 * xd.2.1)) ∧ (i64.wrap (4 * xd.2.1)) < ((256 : Nat) : Int)) (w2d : 0 ≤ (i64.wrap ((i64.wrap (4 * xd.2.1)) + 1)) ∧ (i64.wrap ((i64.wrap (4 * xd.2.1)) + 1)) < ((256 : Nat) : Int)) (w3d : 0 ≤ (i64.wrap ((i64.wrap (4 * xd.2.1)) + 2)) ∧ (i64.wrap ((i64.wrap (4 * xd.2.1)) + 2)) < ((256 : Nat) : Int)) (w4d : 0 ≤ (i64.wrap ((i64.wrap (4 * xd.2.1)) + 3)) ∧ (i64.wrap ((i64.wrap (4 * xd.2.1)) + 3)) < ((256 : Nat) : Int)) (d2 : (qHJ4ny r xd ((i64.wrap (rN (Int.toNat (i64.wrap ((i64.wrap (4 * xd.2.1)) + 1))))), (i64.wrap (rN (Int.toNat (i64.wrap ((i64.wrap (4 * xd.2.1)) + 2))))), (i64.wrap (rN (Int.toNat (i64.wrap ((i64.wrap (4 * xd.2.1)) + 3))))), (i64.wrap (xd.2.2.Line - (i64.wrap (rN (Int.toNat (i64.wrap (4 * xd.2.1))))))))) = false) (d3 : (((((List.length xd.1) : Nat) : Int) : Int) == 8) = true) : RunsM Try.prog 196 (bodyOf Try.f83 [1, 1, 1, 1, 1, 0, 0]) 1005 (qHL3n_T r rM rN rS xd) (qHL3n_H r rM rN rS xd) 1006 .ret (qHL3n_T1 r rM rN rS (.inr (xd.1, xd.2.1, ({ xd.2.2 with Many := true } : RPic)))) (qHL3n_H1 r rM rN rS (.inr (xd.1, xd.2.1, ({ xd.2.2 with Many := true } : RPic)))) 1006 := by
  exact runsM_of_x hG hM 400 1005 [.yes, .sym, .sym, .sym, .sym, .segk 0 10 [0, 2, 3, 5, 6, 7, 8] [] .normal (qHJ4ny_T1 r xd (NGk1 rN xd) (qHJ4ny r xd (NGk1 rN xd))) (qHJ4ny_H1 r xd (NGk1 rN xd) (qHJ4ny r xd (NGk1 rN xd))) 1006, .no, .yes] [(1000, 1000), (1001, 1001), (1002, 1002), (1003, 1003), (1005, 1005)] (J d1 (J w1d (J (lt_nat w1d) (J w2d (J (lt_nat w2d) (J w3d (J (lt_nat w3d) (J w4d (J (lt_nat w4d) (J (qHJ4ny_runs r xd (NGk1 rN xd)) (J d2 (J d3 trivial)))))))))))) (by kernel_rfl)
abbrev NGk0 (r : RPic) (rN : Nat → Int) (xd : (List Man) × Int × RPic) := ((qHJ5nynn r rN xd (rBit (NGk2 rN xd) 128)), (i64.wrap ((i64.wrap (16 * (i64.wrap (rN (Int.toNat (i64.wrap ((i64.wrap (4 * xd.2.1)) + 1))))))) + (qHJ5nynn r rN xd (rBit (NGk2 rN xd) 128)))))
abbrev NGk3 (rM : Nat → Int) (r : RPic) (rN : Nat → Int) (xd : (List Man) × Int × RPic) := (i64.wrap (rM (Int.toNat (i64.wrap ((qHJ6nynn r rN xd (NGk0 r rN xd)) + 8)))))
abbrev NGk4 (rM : Nat → Int) (r : RPic) (rN : Nat → Int) (xd : (List Man) × Int × RPic) := (i64.wrap (rM (Int.toNat (qHJ6nynn r rN xd (NGk0 r rN xd)))))
abbrev NGk5 (rN : Nat → Int) (xd : (List Man) × Int × RPic) (rM : Nat → Int) (r : RPic) := ({ X := (i64.wrap (rN (Int.toNat (i64.wrap ((i64.wrap (4 * xd.2.1)) + 3))))), Look := (NGk2 rN xd), First := (xd.2.1 == 0), Dots := (rev8 (rNum (NGk4 rM r rN xd) (NGk3 rM r rN xd))), Full := true } : Man)
theorem qHL3n_p3 (r : RPic) (rM : Nat → Int) (rN : Nat → Int) (rS : Nat → Int) (xd : (List Man) × Int × RPic) (d1 : (decide (xd.2.1 < 64)) = true) (w1d : 0 ≤ (i64.wrap (4 * xd.2.1)) ∧ (i64.wrap (4 * xd.2.1)) < ((256 : Nat) : Int)) (w2d : 0 ≤ (i64.wrap ((i64.wrap (4 * xd.2.1)) + 1)) ∧ (i64.wrap ((i64.wrap (4 * xd.2.1)) + 1)) < ((256 : Nat) : Int)) (w3d : 0 ≤ (i64.wrap ((i64.wrap (4 * xd.2.1)) + 2)) ∧ (i64.wrap ((i64.wrap (4 * xd.2.1)) + 2)) < ((256 : Nat) : Int)) (w4d : 0 ≤ (i64.wrap ((i64.wrap (4 * xd.2.1)) + 3)) ∧ (i64.wrap ((i64.wrap (4 * xd.2.1)) + 3)) < ((256 : Nat) : Int)) (d2 : (qHJ4ny r xd ((i64.wrap (rN (Int.toNat (i64.wrap ((i64.wrap (4 * xd.2.1)) + 1))))), (i64.wrap (rN (Int.toNat (i64.wrap ((i64.wrap (4 * xd.2.1)) + 2))))), (i64.wrap (rN (Int.toNat (i64.wrap ((i64.wrap (4 * xd.2.1)) + 3))))), (i64.wrap (xd.2.2.Line - (i64.wrap (rN (Int.toNat (i64.wrap (4 * xd.2.1))))))))) = false) (d3 : (((((List.length xd.1) : Nat) : Int) : Int) == 8) = false) (w5d : 0 ≤ (qHJ6nynn r rN xd ((qHJ5nynn r rN xd (rBit (i64.wrap (rN (Int.toNat (i64.wrap ((i64.wrap (4 * xd.2.1)) + 2))))) 128)), (i64.wrap ((i64.wrap (16 * (i64.wrap (rN (Int.toNat (i64.wrap ((i64.wrap (4 * xd.2.1)) + 1))))))) + (qHJ5nynn r rN xd (rBit (i64.wrap (rN (Int.toNat (i64.wrap ((i64.wrap (4 * xd.2.1)) + 2))))) 128)))))) ∧ (qHJ6nynn r rN xd ((qHJ5nynn r rN xd (rBit (i64.wrap (rN (Int.toNat (i64.wrap ((i64.wrap (4 * xd.2.1)) + 2))))) 128)), (i64.wrap ((i64.wrap (16 * (i64.wrap (rN (Int.toNat (i64.wrap ((i64.wrap (4 * xd.2.1)) + 1))))))) + (qHJ5nynn r rN xd (rBit (i64.wrap (rN (Int.toNat (i64.wrap ((i64.wrap (4 * xd.2.1)) + 2))))) 128)))))) < ((16384 : Nat) : Int)) (w6d : 0 ≤ (i64.wrap ((qHJ6nynn r rN xd ((qHJ5nynn r rN xd (rBit (i64.wrap (rN (Int.toNat (i64.wrap ((i64.wrap (4 * xd.2.1)) + 2))))) 128)), (i64.wrap ((i64.wrap (16 * (i64.wrap (rN (Int.toNat (i64.wrap ((i64.wrap (4 * xd.2.1)) + 1))))))) + (qHJ5nynn r rN xd (rBit (i64.wrap (rN (Int.toNat (i64.wrap ((i64.wrap (4 * xd.2.1)) + 2))))) 128)))))) + 8)) ∧ (i64.wrap ((qHJ6nynn r rN xd ((qHJ5nynn r rN xd (rBit (i64.wrap (rN (Int.toNat (i64.wrap ((i64.wrap (4 * xd.2.1)) + 2))))) 128)), (i64.wrap ((i64.wrap (16 * (i64.wrap (rN (Int.toNat (i64.wrap ((i64.wrap (4 * xd.2.1)) + 1))))))) + (qHJ5nynn r rN xd (rBit (i64.wrap (rN (Int.toNat (i64.wrap ((i64.wrap (4 * xd.2.1)) + 2))))) 128)))))) + 8)) < ((16384 : Nat) : Int)) (d4 : (rBit (i64.wrap (rN (Int.toNat (i64.wrap ((i64.wrap (4 * xd.2.1)) + 2))))) 64) = true) (w7d : (List.length xd.1) + 1 ≤ 1048576) : RunsM Try.prog 196 (bodyOf Try.f83 [1, 1, 1, 1, 1, 0, 0]) 1005 (qHL3n_T r rM rN rS xd) (qHL3n_H r rM rN rS xd) 1006 .normal (qHL3n_T r rM rN rS ((xd.1 ++ [({ X := (i64.wrap (rN (Int.toNat (i64.wrap ((i64.wrap (4 * xd.2.1)) + 3))))), Look := (i64.wrap (rN (Int.toNat (i64.wrap ((i64.wrap (4 * xd.2.1)) + 2))))), First := (xd.2.1 == 0), Dots := (rev8 (rNum (i64.wrap (rM (Int.toNat (qHJ6nynn r rN xd ((qHJ5nynn r rN xd (rBit (i64.wrap (rN (Int.toNat (i64.wrap ((i64.wrap (4 * xd.2.1)) + 2))))) 128)), (i64.wrap ((i64.wrap (16 * (i64.wrap (rN (Int.toNat (i64.wrap ((i64.wrap (4 * xd.2.1)) + 1))))))) + (qHJ5nynn r rN xd (rBit (i64.wrap (rN (Int.toNat (i64.wrap ((i64.wrap (4 * xd.2.1)) + 2))))) 128))))))))) (i64.wrap (rM (Int.toNat (i64.wrap ((qHJ6nynn r rN xd ((qHJ5nynn r rN xd (rBit (i64.wrap (rN (Int.toNat (i64.wrap ((i64.wrap (4 * xd.2.1)) + 2))))) 128)), (i64.wrap ((i64.wrap (16 * (i64.wrap (rN (Int.toNat (i64.wrap ((i64.wrap (4 * xd.2.1)) + 1))))))) + (qHJ5nynn r rN xd (rBit (i64.wrap (rN (Int.toNat (i64.wrap ((i64.wrap (4 * xd.2.1)) + 2))))) 128)))))) + 8))))))), Full := true } : Man)]), (i64.wrap (xd.2.1 + 1)), xd.2.2)) (qHL3n_H r rM rN rS ((xd.1 ++ [({ X := (i64.wrap (rN (Int.toNat (i64.wrap ((i64.wrap (4 * xd.2.1)) + 3))))), Look := (i64.wrap (rN (Int.toNat (i64.wrap ((i64.wrap (4 * xd.2.1)) + 2))))), First := (xd.2.1 == 0), Dots := (rev8 (rNum (i64.wrap (rM (Int.toNat (qHJ6nynn r rN xd ((qHJ5nynn r rN xd (rBit (i64.wrap (rN (Int.toNat (i64.wrap ((i64.wrap (4 * xd.2.1)) + 2))))) 128)), (i64.wrap ((i64.wrap (16 * (i64.wrap (rN (Int.toNat (i64.wrap ((i64.wrap (4 * xd.2.1)) + 1))))))) + (qHJ5nynn r rN xd (rBit (i64.wrap (rN (Int.toNat (i64.wrap ((i64.wrap (4 * xd.2.1)) + 2))))) 128))))))))) (i64.wrap (rM (Int.toNat (i64.wrap ((qHJ6nynn r rN xd ((qHJ5nynn r rN xd (rBit (i64.wrap (rN (Int.toNat (i64.wrap ((i64.wrap (4 * xd.2.1)) + 2))))) 128)), (i64.wrap ((i64.wrap (16 * (i64.wrap (rN (Int.toNat (i64.wrap ((i64.wrap (4 * xd.2.1)) + 1))))))) + (qHJ5nynn r rN xd (rBit (i64.wrap (rN (Int.toNat (i64.wrap ((i64.wrap (4 * xd.2.1)) + 2))))) 128)))))) + 8))))))), Full := true } : Man)]), (i64.wrap (xd.2.1 + 1)), xd.2.2)) 1006 := by
  exact runsM_of_x hG hM 400 1005 [.yes, .sym, .sym, .sym, .sym, .segk 0 10 [0, 2, 3, 5, 6, 7, 8] [] .normal (qHJ4ny_T1 r xd (NGk1 rN xd) (qHJ4ny r xd (NGk1 rN xd))) (qHJ4ny_H1 r xd (NGk1 rN xd) (qHJ4ny r xd (NGk1 rN xd))) 1006, .no, .no, .call [] [] 1000 (.bool (rBit (NGk2 rN xd) 128)) [], .segk 2 0 [0, 2, 3, 5, 6, 7, 8, 100] [] .normal (qHJ5nynn_T1 r rN xd (rBit (NGk2 rN xd) 128) (qHJ5nynn r rN xd (rBit (NGk2 rN xd) 128))) (qHJ5nynn_H1 r rN xd (rBit (NGk2 rN xd) 128) (qHJ5nynn r rN xd (rBit (NGk2 rN xd) 128))) 1006, .segk 2 0 [0, 2, 3, 5, 6, 7, 8, 9, 110] [1000] .normal (qHJ6nynn_T1 r rN xd (NGk0 r rN xd) (qHJ6nynn r rN xd (NGk0 r rN xd))) (qHJ6nynn_H1 r rN xd (NGk0 r rN xd) (qHJ6nynn r rN xd (NGk0 r rN xd))) 1006, .sym, .sym, .call [] [] 1000 (.func (.yield 1) ⟨[.int .i64 (rNum (NGk4 rM r rN xd) (NGk3 rM r rN xd) 0), .int .i64 (rNum (NGk4 rM r rN xd) (NGk3 rM r rN xd) 1), .int .i64 (rNum (NGk4 rM r rN xd) (NGk3 rM r rN xd) 2), .int .i64 (rNum (NGk4 rM r rN xd) (NGk3 rM r rN xd) 3), .int .i64 (rNum (NGk4 rM r rN xd) (NGk3 rM r rN xd) 4), .int .i64 (rNum (NGk4 rM r rN xd) (NGk3 rM r rN xd) 5), .int .i64 (rNum (NGk4 rM r rN xd) (NGk3 rM r rN xd) 6), .int .i64 (rNum (NGk4 rM r rN xd) (NGk3 rM r rN xd) 7)]⟩ ⟨[.bool true]⟩) [], .call [] [] 1000 (.bool (rBit (NGk2 rN xd) 64)) [], .yes, .lit 7, .lit 6, .lit 5, .lit 4, .lit 3, .lit 2, .lit 1, .lit 0, .born, .eq 193 (sl 1008 (List.length (xd.1 ++ [(NGk5 rN xd rM r)])) 4), .list [rowsL Man.cells Man.nil 4 (xd.1 ++ [(NGk5 rN xd rM r)])]] [(1000, 1000), (1001, 1001), (1002, 1002), (1003, 1003), (1008, 1005)] (J d1 (J w1d (J (lt_nat w1d) (J w2d (J (lt_nat w2d) (J w3d (J (lt_nat w3d) (J w4d (J (lt_nat w4d) (J (qHJ4ny_runs r xd (NGk1 rN xd)) (J d2 (J d3 (J (rBit_ok (NGk2 rN xd) 128 (by decide : (128 : Int) ≠ 0)) (J (qHJ5nynn_runs r rN xd (rBit (NGk2 rN xd) 128)) (J (qHJ6nynn_runs r rN xd (NGk0 r rN xd)) (J w5d (J (lt_nat w5d) (J w6d (J (lt_nat w6d) (J (rNum_ok (NGk4 rM r rN xd) (NGk3 rM r rN xd)) (J (rBit_ok (NGk2 rN xd) 64 (by decide : (64 : Int) ≠ 0)) (J d4 (J T1 (J (Eq.refl (7 : Int)) (J T1 (J (Eq.refl (6 : Int)) (J T1 (J (Eq.refl (5 : Int)) (J T1 (J (Eq.refl (4 : Int)) (J T1 (J (Eq.refl (3 : Int)) (J T1 (J (Eq.refl (2 : Int)) (J T1 (J (Eq.refl (1 : Int)) (J T1 (J (Eq.refl (0 : Int)) (J (sl_snoc 1008 4 xd.1 (NGk5 rN xd rM r)) (J (Man_snoc xd.1 (NGk5 rN xd rM r)) (J w7d (J (rows_size Man.cells Man.nil 4 119 false xd.1) trivial)))))))))))))))))))))))))))))))))))))))))) (by kernel_rfl)
abbrev NGk6 (rN : Nat → Int) (xd : (List Man) × Int × RPic) (rM : Nat → Int) (r : RPic) := ({ X := (i64.wrap (rN (Int.toNat (i64.wrap ((i64.wrap (4 * xd.2.1)) + 3))))), Look := (NGk2 rN xd), First := (xd.2.1 == 0), Dots := (rNum (NGk4 rM r rN xd) (NGk3 rM r rN xd)), Full := true } : Man)
theorem qHL3n_p4 (r : RPic) (rM : Nat → Int) (rN : Nat → Int) (rS : Nat → Int) (xd : (List Man) × Int × RPic) (d1 : (decide (xd.2.1 < 64)) = true) (w1d : 0 ≤ (i64.wrap (4 * xd.2.1)) ∧ (i64.wrap (4 * xd.2.1)) < ((256 : Nat) : Int)) (w2d : 0 ≤ (i64.wrap ((i64.wrap (4 * xd.2.1)) + 1)) ∧ (i64.wrap ((i64.wrap (4 * xd.2.1)) + 1)) < ((256 : Nat) : Int)) (w3d : 0 ≤ (i64.wrap ((i64.wrap (4 * xd.2.1)) + 2)) ∧ (i64.wrap ((i64.wrap (4 * xd.2.1)) + 2)) < ((256 : Nat) : Int)) (w4d : 0 ≤ (i64.wrap ((i64.wrap (4 * xd.2.1)) + 3)) ∧ (i64.wrap ((i64.wrap (4 * xd.2.1)) + 3)) < ((256 : Nat) : Int)) (d2 : (qHJ4ny r xd ((i64.wrap (rN (Int.toNat (i64.wrap ((i64.wrap (4 * xd.2.1)) + 1))))), (i64.wrap (rN (Int.toNat (i64.wrap ((i64.wrap (4 * xd.2.1)) + 2))))), (i64.wrap (rN (Int.toNat (i64.wrap ((i64.wrap (4 * xd.2.1)) + 3))))), (i64.wrap (xd.2.2.Line - (i64.wrap (rN (Int.toNat (i64.wrap (4 * xd.2.1))))))))) = false) (d3 : (((((List.length xd.1) : Nat) : Int) : Int) == 8) = false) (w5d : 0 ≤ (qHJ6nynn r rN xd ((qHJ5nynn r rN xd (rBit (i64.wrap (rN (Int.toNat (i64.wrap ((i64.wrap (4 * xd.2.1)) + 2))))) 128)), (i64.wrap ((i64.wrap (16 * (i64.wrap (rN (Int.toNat (i64.wrap ((i64.wrap (4 * xd.2.1)) + 1))))))) + (qHJ5nynn r rN xd (rBit (i64.wrap (rN (Int.toNat (i64.wrap ((i64.wrap (4 * xd.2.1)) + 2))))) 128)))))) ∧ (qHJ6nynn r rN xd ((qHJ5nynn r rN xd (rBit (i64.wrap (rN (Int.toNat (i64.wrap ((i64.wrap (4 * xd.2.1)) + 2))))) 128)), (i64.wrap ((i64.wrap (16 * (i64.wrap (rN (Int.toNat (i64.wrap ((i64.wrap (4 * xd.2.1)) + 1))))))) + (qHJ5nynn r rN xd (rBit (i64.wrap (rN (Int.toNat (i64.wrap ((i64.wrap (4 * xd.2.1)) + 2))))) 128)))))) < ((16384 : Nat) : Int)) (w6d : 0 ≤ (i64.wrap ((qHJ6nynn r rN xd ((qHJ5nynn r rN xd (rBit (i64.wrap (rN (Int.toNat (i64.wrap ((i64.wrap (4 * xd.2.1)) + 2))))) 128)), (i64.wrap ((i64.wrap (16 * (i64.wrap (rN (Int.toNat (i64.wrap ((i64.wrap (4 * xd.2.1)) + 1))))))) + (qHJ5nynn r rN xd (rBit (i64.wrap (rN (Int.toNat (i64.wrap ((i64.wrap (4 * xd.2.1)) + 2))))) 128)))))) + 8)) ∧ (i64.wrap ((qHJ6nynn r rN xd ((qHJ5nynn r rN xd (rBit (i64.wrap (rN (Int.toNat (i64.wrap ((i64.wrap (4 * xd.2.1)) + 2))))) 128)), (i64.wrap ((i64.wrap (16 * (i64.wrap (rN (Int.toNat (i64.wrap ((i64.wrap (4 * xd.2.1)) + 1))))))) + (qHJ5nynn r rN xd (rBit (i64.wrap (rN (Int.toNat (i64.wrap ((i64.wrap (4 * xd.2.1)) + 2))))) 128)))))) + 8)) < ((16384 : Nat) : Int)) (d4 : (rBit (i64.wrap (rN (Int.toNat (i64.wrap ((i64.wrap (4 * xd.2.1)) + 2))))) 64) = false) (w7d : (List.length xd.1) + 1 ≤ 1048576) : RunsM Try.prog 196 (bodyOf Try.f83 [1, 1, 1, 1, 1, 0, 0]) 1005 (qHL3n_T r rM rN rS xd) (qHL3n_H r rM rN rS xd) 1006 .normal (qHL3n_T r rM rN rS ((xd.1 ++ [({ X := (i64.wrap (rN (Int.toNat (i64.wrap ((i64.wrap (4 * xd.2.1)) + 3))))), Look := (i64.wrap (rN (Int.toNat (i64.wrap ((i64.wrap (4 * xd.2.1)) + 2))))), First := (xd.2.1 == 0), Dots := (rNum (i64.wrap (rM (Int.toNat (qHJ6nynn r rN xd ((qHJ5nynn r rN xd (rBit (i64.wrap (rN (Int.toNat (i64.wrap ((i64.wrap (4 * xd.2.1)) + 2))))) 128)), (i64.wrap ((i64.wrap (16 * (i64.wrap (rN (Int.toNat (i64.wrap ((i64.wrap (4 * xd.2.1)) + 1))))))) + (qHJ5nynn r rN xd (rBit (i64.wrap (rN (Int.toNat (i64.wrap ((i64.wrap (4 * xd.2.1)) + 2))))) 128))))))))) (i64.wrap (rM (Int.toNat (i64.wrap ((qHJ6nynn r rN xd ((qHJ5nynn r rN xd (rBit (i64.wrap (rN (Int.toNat (i64.wrap ((i64.wrap (4 * xd.2.1)) + 2))))) 128)), (i64.wrap ((i64.wrap (16 * (i64.wrap (rN (Int.toNat (i64.wrap ((i64.wrap (4 * xd.2.1)) + 1))))))) + (qHJ5nynn r rN xd (rBit (i64.wrap (rN (Int.toNat (i64.wrap ((i64.wrap (4 * xd.2.1)) + 2))))) 128)))))) + 8)))))), Full := true } : Man)]), (i64.wrap (xd.2.1 + 1)), xd.2.2)) (qHL3n_H r rM rN rS ((xd.1 ++ [({ X := (i64.wrap (rN (Int.toNat (i64.wrap ((i64.wrap (4 * xd.2.1)) + 3))))), Look := (i64.wrap (rN (Int.toNat (i64.wrap ((i64.wrap (4 * xd.2.1)) + 2))))), First := (xd.2.1 == 0), Dots := (rNum (i64.wrap (rM (Int.toNat (qHJ6nynn r rN xd ((qHJ5nynn r rN xd (rBit (i64.wrap (rN (Int.toNat (i64.wrap ((i64.wrap (4 * xd.2.1)) + 2))))) 128)), (i64.wrap ((i64.wrap (16 * (i64.wrap (rN (Int.toNat (i64.wrap ((i64.wrap (4 * xd.2.1)) + 1))))))) + (qHJ5nynn r rN xd (rBit (i64.wrap (rN (Int.toNat (i64.wrap ((i64.wrap (4 * xd.2.1)) + 2))))) 128))))))))) (i64.wrap (rM (Int.toNat (i64.wrap ((qHJ6nynn r rN xd ((qHJ5nynn r rN xd (rBit (i64.wrap (rN (Int.toNat (i64.wrap ((i64.wrap (4 * xd.2.1)) + 2))))) 128)), (i64.wrap ((i64.wrap (16 * (i64.wrap (rN (Int.toNat (i64.wrap ((i64.wrap (4 * xd.2.1)) + 1))))))) + (qHJ5nynn r rN xd (rBit (i64.wrap (rN (Int.toNat (i64.wrap ((i64.wrap (4 * xd.2.1)) + 2))))) 128)))))) + 8)))))), Full := true } : Man)]), (i64.wrap (xd.2.1 + 1)), xd.2.2)) 1006 := by
  exact runsM_of_x hG hM 400 1005 [.yes, .sym, .sym, .sym, .sym, .segk 0 10 [0, 2, 3, 5, 6, 7, 8] [] .normal (qHJ4ny_T1 r xd (NGk1 rN xd) (qHJ4ny r xd (NGk1 rN xd))) (qHJ4ny_H1 r xd (NGk1 rN xd) (qHJ4ny r xd (NGk1 rN xd))) 1006, .no, .no, .call [] [] 1000 (.bool (rBit (NGk2 rN xd) 128)) [], .segk 2 0 [0, 2, 3, 5, 6, 7, 8, 100] [] .normal (qHJ5nynn_T1 r rN xd (rBit (NGk2 rN xd) 128) (qHJ5nynn r rN xd (rBit (NGk2 rN xd) 128))) (qHJ5nynn_H1 r rN xd (rBit (NGk2 rN xd) 128) (qHJ5nynn r rN xd (rBit (NGk2 rN xd) 128))) 1006, .segk 2 0 [0, 2, 3, 5, 6, 7, 8, 9, 110] [1000] .normal (qHJ6nynn_T1 r rN xd (NGk0 r rN xd) (qHJ6nynn r rN xd (NGk0 r rN xd))) (qHJ6nynn_H1 r rN xd (NGk0 r rN xd) (qHJ6nynn r rN xd (NGk0 r rN xd))) 1006, .sym, .sym, .call [] [] 1000 (.func (.yield 1) ⟨[.int .i64 (rNum (NGk4 rM r rN xd) (NGk3 rM r rN xd) 0), .int .i64 (rNum (NGk4 rM r rN xd) (NGk3 rM r rN xd) 1), .int .i64 (rNum (NGk4 rM r rN xd) (NGk3 rM r rN xd) 2), .int .i64 (rNum (NGk4 rM r rN xd) (NGk3 rM r rN xd) 3), .int .i64 (rNum (NGk4 rM r rN xd) (NGk3 rM r rN xd) 4), .int .i64 (rNum (NGk4 rM r rN xd) (NGk3 rM r rN xd) 5), .int .i64 (rNum (NGk4 rM r rN xd) (NGk3 rM r rN xd) 6), .int .i64 (rNum (NGk4 rM r rN xd) (NGk3 rM r rN xd) 7)]⟩ ⟨[.bool true]⟩) [], .call [] [] 1000 (.bool (rBit (NGk2 rN xd) 64)) [], .no, .eq 193 (sl 1008 (List.length (xd.1 ++ [(NGk6 rN xd rM r)])) 4), .list [rowsL Man.cells Man.nil 4 (xd.1 ++ [(NGk6 rN xd rM r)])]] [(1000, 1000), (1001, 1001), (1002, 1002), (1003, 1003), (1008, 1005)] (J d1 (J w1d (J (lt_nat w1d) (J w2d (J (lt_nat w2d) (J w3d (J (lt_nat w3d) (J w4d (J (lt_nat w4d) (J (qHJ4ny_runs r xd (NGk1 rN xd)) (J d2 (J d3 (J (rBit_ok (NGk2 rN xd) 128 (by decide : (128 : Int) ≠ 0)) (J (qHJ5nynn_runs r rN xd (rBit (NGk2 rN xd) 128)) (J (qHJ6nynn_runs r rN xd (NGk0 r rN xd)) (J w5d (J (lt_nat w5d) (J w6d (J (lt_nat w6d) (J (rNum_ok (NGk4 rM r rN xd) (NGk3 rM r rN xd)) (J (rBit_ok (NGk2 rN xd) 64 (by decide : (64 : Int) ≠ 0)) (J d4 (J (sl_snoc 1008 4 xd.1 (NGk6 rN xd rM r)) (J (Man_snoc xd.1 (NGk6 rN xd rM r)) (J w7d (J (rows_size Man.cells Man.nil 4 119 false xd.1) trivial)))))))))))))))))))))))))) (by kernel_rfl)
theorem qHL3n_p5 (r : RPic) (rM : Nat → Int) (rN : Nat → Int) (rS : Nat → Int) (xd : (List Man) × Int × RPic) (d1 : (decide (xd.2.1 < 64)) = false) : RunsM Try.prog 196 (bodyOf Try.f83 [1, 1, 1, 1, 1, 0, 0]) 1005 (qHL3n_T r rM rN rS xd) (qHL3n_H r rM rN rS xd) 1006 (.exit 0) (qHL3n_T1 r rM rN rS (.inl (xd.1, xd.2.1, xd.2.2))) (qHL3n_H1 r rM rN rS (.inl (xd.1, xd.2.1, xd.2.2))) 1006 := by
  exact runsM_of_x hG hM 400 1005 [.no] [(1000, 1000), (1001, 1001), (1002, 1002), (1003, 1003), (1005, 1005)] (J d1 trivial) (by kernel_rfl)
theorem qHL3n_runs (r : RPic) (rM : Nat → Int) (rN : Nat → Int) (rS : Nat → Int) (x_ : (List Man) × Int × RPic) (y_ : ((List Man) × Int × RPic) ⊕ ((List Man) × Int × RPic)) (h_ : LoopR (qHL3n r rM rN rS) x_ y_) : RunsM Try.prog 196 (.block 0 (.loop (bodyOf Try.f83 [1, 1, 1, 1, 1, 0, 0]))) 1005 (qHL3n_T r rM rN rS x_) (qHL3n_H r rM rN rS x_) 1006 (outOf 0 (qHL3n_ex y_)) (qHL3n_T1 r rM rN rS y_) (qHL3n_H1 r rM rN rS y_) 1006 := by
  refine block_loopM hG (qHL3n r rM rN rS) (qHL3n_T r rM rN rS) (qHL3n_H r rM rN rS) qHL3n_ex (qHL3n_T1 r rM rN rS) (qHL3n_H1 r rM rN rS) ?_ ?_ ?_ x_ y_ h_
  · intro s r _ hr; cases r <;> cases hr
  · intro xd y_ hx
    cases hx with
    | p1 d1 w1d w2d w3d w4d d2 => exact qHL3n_p1 r rM rN rS xd d1 w1d w2d w3d w4d d2
    | p3 d1 w1d w2d w3d w4d d2 d3 w5d w6d d4 w7d => exact qHL3n_p3 r rM rN rS xd d1 w1d w2d w3d w4d d2 d3 w5d w6d d4 w7d
    | p4 d1 w1d w2d w3d w4d d2 d3 w5d w6d d4 w7d => exact qHL3n_p4 r rM rN rS xd d1 w1d w2d w3d w4d d2 d3 w5d w6d d4 w7d
  · intro xd y_ hx
    cases hx with
    | p2 d1 w1d w2d w3d w4d d2 d3 => exact qHL3n_p2 r rM rN rS xd d1 w1d w2d w3d w4d d2 d3
    | p5 d1 => exact qHL3n_p5 r rM rN rS xd d1
theorem rChoose_p1 (r : RPic) (rM : Nat → Int) (rN : Nat → Int) (rS : Nat → Int) (rC : List Man) (c1 : (qHJ1 r) = true) : FnSpec Try.prog 83 1005 [pt 1000] [(1000, (RPic.bl r (sl 1001 16384 1) (sl 1002 256 1) (sl 1004 (List.length rC) 4) (sl 1003 61440 1) false)), (1001, iB 16384 rM false), (1002, iB 256 rN false), (1003, iB 61440 rS false), (1004, mB rC false)] (.tuple ⟨[]⟩) [(1000, (RPic.bl ((r, ([] : List Man)).1) (sl 1001 16384 1) (sl 1002 256 1) (sl 1005 (List.length ((r, ([] : List Man)).2)) 4) (sl 1003 61440 1) false)), (1001, iB 16384 rM false), (1002, iB 256 rN false), (1003, iB 61440 rS false), (1005, ⟨[rowsL Man.cells Man.nil 4 ((r, ([] : List Man)).2)], 119, false⟩)] := by
  exact fn_ren (v := .tuple ⟨[]⟩) (H1 := [(1000, (RPic.bl r (sl 1001 16384 1) (sl 1002 256 1) (.slice none 0 0) (sl 1003 61440 1) false)), (1001, iB 16384 rM false), (1002, iB 256 rN false), (1003, iB 61440 rS false)]) (fn_of_x hG hM Try.func83 (by kernel_rfl) (by kernel_rfl) 400 [.segk 0 1 [0] [1000] .normal (qHJ1_T1 r (qHJ1 r)) (qHJ1_H1 r (qHJ1 r)) 1005, .yes] (J (qHJ1_runs r) (J c1 trivial)) (by kernel_rfl)) [(1000, 1000), (1001, 1001), (1002, 1002), (1003, 1003)] 1006 (by kernel_rfl)
theorem rChoose_p2 (r : RPic) (rM : Nat → Int) (rN : Nat → Int) (rS : Nat → Int) (rC : List Man) (c1 : (qHJ1 r) = false) (r3 : (List Man) × Int × RPic) (l3 : LoopR (qHL3n r rM rN rS) ([], 0, r) (.inl r3)) : FnSpec Try.prog 83 1005 [pt 1000] [(1000, (RPic.bl r (sl 1001 16384 1) (sl 1002 256 1) (sl 1004 (List.length rC) 4) (sl 1003 61440 1) false)), (1001, iB 16384 rM false), (1002, iB 256 rN false), (1003, iB 61440 rS false), (1004, mB rC false)] (.tuple ⟨[]⟩) [(1000, (RPic.bl ((r3.2.2, r3.1).1) (sl 1001 16384 1) (sl 1002 256 1) (sl 1005 (List.length ((r3.2.2, r3.1).2)) 4) (sl 1003 61440 1) false)), (1001, iB 16384 rM false), (1002, iB 256 rN false), (1003, iB 61440 rS false), (1005, ⟨[rowsL Man.cells Man.nil 4 ((r3.2.2, r3.1).2)], 119, false⟩)] := by
  exact fn_ren (v := .tuple ⟨[]⟩) (H1 := [(1000, (RPic.bl r3.2.2 (sl 1001 16384 1) (sl 1002 256 1) (sl 1005 (List.length r3.1) 4) (sl 1003 61440 1) false)), (1001, iB 16384 rM false), (1002, iB 256 rN false), (1003, iB 61440 rS false), (1005, ⟨[rowsL Man.cells Man.nil 4 r3.1], 119, false⟩)]) (fn_of_x hG hM Try.func83 (by kernel_rfl) (by kernel_rfl) 400 [.segk 0 1 [0] [1000] .normal (qHJ1_T1 r (qHJ1 r)) (qHJ1_H1 r (qHJ1 r)) 1005, .no, .call [] [] 1000 (.bool (rBit r.Control 32)) [], .segk 2 0 [0, 2, 33] [] .normal (qHJ2n_T1 r (qHJ2n r)) (qHJ2n_H1 r (qHJ2n r)) 1005, .segk 1 0 [0, 2, 3] [1000, 1001, 1002] .normal (qHL3n_T1 r rM rN rS (.inl r3)) (qHL3n_H1 r rM rN rS (.inl r3)) 1006] (J (qHJ1_runs r) (J c1 (J (rBit_ok r.Control 32 (by decide : (32 : Int) ≠ 0)) (J (qHJ2n_runs r) (J (runs_of_pre hG (qHL3n_runs r rM rN rS ([], 0, r) (.inl r3) l3) [(1000, 1000), (1001, 1001), (1002, 1002), (1003, 1003)] (T := [(0, pt 1000), (2, .int .i64 (qHJ2n r)), (3, .int .i64 0)]) (H := [(1000, (RPic.bl r (sl 1001 16384 1) (sl 1002 256 1) (.slice none 0 0) (sl 1003 61440 1) false)), (1001, iB 16384 rM false), (1002, iB 256 rN false)]) (by kernel_rfl)) trivial))))) (by kernel_rfl)) [(1000, 1000), (1001, 1001), (1002, 1002), (1003, 1003), (1005, 1005)] 1006 (by kernel_rfl)
theorem rChoose_p3 (r : RPic) (rM : Nat → Int) (rN : Nat → Int) (rS : Nat → Int) (rC : List Man) (c1 : (qHJ1 r) = false) (r3 : (List Man) × Int × RPic) (l3 : LoopR (qHL3n r rM rN rS) ([], 0, r) (.inr r3)) : FnSpec Try.prog 83 1005 [pt 1000] [(1000, (RPic.bl r (sl 1001 16384 1) (sl 1002 256 1) (sl 1004 (List.length rC) 4) (sl 1003 61440 1) false)), (1001, iB 16384 rM false), (1002, iB 256 rN false), (1003, iB 61440 rS false), (1004, mB rC false)] (.tuple ⟨[]⟩) [(1000, (RPic.bl ((r3.2.2, r3.1).1) (sl 1001 16384 1) (sl 1002 256 1) (sl 1005 (List.length ((r3.2.2, r3.1).2)) 4) (sl 1003 61440 1) false)), (1001, iB 16384 rM false), (1002, iB 256 rN false), (1003, iB 61440 rS false), (1005, ⟨[rowsL Man.cells Man.nil 4 ((r3.2.2, r3.1).2)], 119, false⟩)] := by
  exact fn_ren (v := .tuple ⟨[]⟩) (H1 := [(1000, (RPic.bl r3.2.2 (sl 1001 16384 1) (sl 1002 256 1) (sl 1005 (List.length r3.1) 4) (sl 1003 61440 1) false)), (1001, iB 16384 rM false), (1002, iB 256 rN false), (1003, iB 61440 rS false), (1005, ⟨[rowsL Man.cells Man.nil 4 r3.1], 119, false⟩)]) (fn_of_x hG hM Try.func83 (by kernel_rfl) (by kernel_rfl) 400 [.segk 0 1 [0] [1000] .normal (qHJ1_T1 r (qHJ1 r)) (qHJ1_H1 r (qHJ1 r)) 1005, .no, .call [] [] 1000 (.bool (rBit r.Control 32)) [], .segk 2 0 [0, 2, 33] [] .normal (qHJ2n_T1 r (qHJ2n r)) (qHJ2n_H1 r (qHJ2n r)) 1005, .segk 1 0 [0, 2, 3] [1000, 1001, 1002] .ret (qHL3n_T1 r rM rN rS (.inr r3)) (qHL3n_H1 r rM rN rS (.inr r3)) 1006] (J (qHJ1_runs r) (J c1 (J (rBit_ok r.Control 32 (by decide : (32 : Int) ≠ 0)) (J (qHJ2n_runs r) (J (runs_of_pre hG (qHL3n_runs r rM rN rS ([], 0, r) (.inr r3) l3) [(1000, 1000), (1001, 1001), (1002, 1002), (1003, 1003)] (T := [(0, pt 1000), (2, .int .i64 (qHJ2n r)), (3, .int .i64 0)]) (H := [(1000, (RPic.bl r (sl 1001 16384 1) (sl 1002 256 1) (.slice none 0 0) (sl 1003 61440 1) false)), (1001, iB 16384 rM false), (1002, iB 256 rN false)]) (by kernel_rfl)) trivial))))) (by kernel_rfl)) [(1000, 1000), (1001, 1001), (1002, 1002), (1003, 1003), (1005, 1005)] 1006 (by kernel_rfl)
end Go.Proofs.Ytgnhhnmpeklciaa
namespace Go.Proofs.Ytgnhhnmpeklciaa
open Go VX
open Go.IntKind (i64 u8 u16)
def heightR (r : RPic) : Int := if rBit r.Control 32 = true then 16 else 8
def rowR (r : RPic) (N : Nat → Int) (k : Nat) : Int := r.Line - N (4 * k)
def rowT (r : RPic) (N : Nat → Int) (k : Nat) : Int := if rBit (N (4 * k + 2)) 128 = true then heightR r - 1 - rowR r N k else rowR r N k
def fromR (r : RPic) (N : Nat → Int) (k : Nat) : Int :=
  if heightR r = 16 then 4096 * (N (4 * k + 1) % 2) + 16 * (N (4 * k + 1) - N (4 * k + 1) % 2 + rowT r N k / 8) + rowT r N k % 8
  else 16 * N (4 * k + 1) + rowT r N k + if rBit r.Control 8 = true then 4096 else 0
def numsR (r : RPic) (M N : Nat → Int) (k : Nat) : Nat → Int := rNum (M (fromR r N k).toNat) (M (fromR r N k + 8).toNat)
def oneR (r : RPic) (M N : Nat → Int) (k : Nat) : Man :=
  { X := N (4 * k + 3), Look := N (4 * k + 2), First := ((k : Int) == 0), Dots := if rBit (N (4 * k + 2)) 64 = true then rev8 (numsR r M N k) else numsR r M N k, Full := true }
def chooseR (r : RPic) (M N : Nat → Int) : Nat → Nat → List Man → List Man × Bool
  | 0, _, L => (L, false)
  | n + 1, k, L =>
    if rowR r N k < 0 ∨ rowR r N k ≥ heightR r then chooseR r M N n (k + 1) L
    else if L.length = 8 then (L, true)
    else chooseR r M N n (k + 1) (L ++ [oneR r M N k])
def rChooseF (r : RPic) (rM : Nat → Int) (rN : Nat → Int) (rS : Nat → Int) (rC : List Man) : RPic × List Man :=
  if r.Line > 239 ∨ r.Mask / 8 % 4 = 0 then (r, []) else (if (chooseR r rM rN 64 0 []).2 = true then { r with Many := true } else r, (chooseR r rM rN 64 0 []).1)
theorem j2n_eq (r : RPic) : qHJ2n r = heightR r := rfl
theorem height_or (r : RPic) : heightR r = 16 ∨ heightR r = 8 := by unfold heightR; split <;> simp
theorem rowT_rng {r : RPic} {N : Nat → Int} {k : Nat} (h0 : 0 ≤ rowR r N k) (h1 : rowR r N k < heightR r) : 0 ≤ rowT r N k ∧ rowT r N k < heightR r := by
  unfold rowT; split <;> omega
theorem fromR_rng {r : RPic} {N : Nat → Int} (w : ∀ j, rng 256 (N j)) {k : Nat} (h0 : 0 ≤ rowR r N k) (h1 : rowR r N k < heightR r) : 0 ≤ fromR r N k ∧ fromR r N k + 8 < 16384 := by
  obtain ⟨t0, t1⟩ := rowT_rng h0 h1
  have a0 := (w (4 * k + 1)).1; have a1 : N (4 * k + 1) < 256 := (w (4 * k + 1)).2
  have hh := height_or r
  unfold fromR
  split
  · omega
  · split <;> omega
theorem rev8_rng {f : Nat → Int} (h : ∀ j, 0 ≤ f j ∧ f j < 4) (j : Nat) : 0 ≤ rev8 f j ∧ rev8 f j < 4 := by
  rcases Nat.lt_or_ge j 8 with h8 | h8
  · rw [rev8_eq f h8]; exact h _
  · unfold rev8; rw [List.getD_eq_getElem?_getD, List.getElem?_eq_none (by simpa using h8)]; exact ⟨Int.le_refl 0, show (0 : Int) < 4 by decide⟩
theorem choose_loopR (r : RPic) (rM rN rS : Nat → Int) (w : ∀ j, rng 256 (rM j)) (wN : ∀ j, rng 256 (rN j)) (hl : 0 ≤ r.Line ∧ r.Line < 300) : ∀ (n k : Nat) (L : List Man), n + k = 64 → L.length ≤ 8 →
    ((chooseR r rM rN n k L).2 = false ∧ LoopR (qHL3n r rM rN rS) (L, (k : Int), r) (.inl ((chooseR r rM rN n k L).1, 64, r))) ∨
    ((chooseR r rM rN n k L).2 = true ∧ ∃ i, LoopR (qHL3n r rM rN rS) (L, (k : Int), r) (.inr ((chooseR r rM rN n k L).1, i, ({ r with Many := true } : RPic))))
  | 0, k, L, hk, hL => by
    have : k = 64 := by omega
    subst this
    exact .inl ⟨rfl, .last (.p5 (decide_eq_false (by simp)))⟩
  | n + 1, k, L, hk, hL => by
    have hd : (decide (((L, (k : Int), r) : List Man × Int × RPic).2.1 < 64)) = true := decide_eq_true (by show (k : Int) < 64; omega)
    have e0 : i64.wrap (4 * (k : Int)) = 4 * (k : Int) := w64 (by omega) (by omega)
    have e1 : i64.wrap (4 * (k : Int) + 1) = 4 * (k : Int) + 1 := w64 (by omega) (by omega)
    have e2 : i64.wrap (4 * (k : Int) + 2) = 4 * (k : Int) + 2 := w64 (by omega) (by omega)
    have e3 : i64.wrap (4 * (k : Int) + 3) = 4 * (k : Int) + 3 := w64 (by omega) (by omega)
    have t0 : (4 * (k : Int)).toNat = 4 * k := by omega
    have t1 : (4 * (k : Int) + 1).toNat = 4 * k + 1 := by omega
    have t2 : (4 * (k : Int) + 2).toNat = 4 * k + 2 := by omega
    have t3 : (4 * (k : Int) + 3).toNat = 4 * k + 3 := by omega
    have v1 := wN (4 * k + 1)
    have eR : i64.wrap (r.Line - rN (4 * k)) = rowR r rN k := by
      have a0 := (wN (4 * k)).1; have a1 : rN (4 * k) < 256 := (wN (4 * k)).2
      exact w64 (by omega) (by omega)
    have ek : i64.wrap ((k : Int) + 1) = ((k + 1 : Nat) : Int) := by rw [w64 (by omega) (by omega)]; omega
    have g4 : ∀ xe : Int × Int × Int × Int, xe.2.2.2 = rowR r rN k → qHJ4ny r (L, (k : Int), r) xe = decide (rowR r rN k < 0 ∨ rowR r rN k ≥ heightR r) := by
      intro xe h
      unfold qHJ4ny
      rw [h, j2n_eq]
      by_cases c : rowR r rN k < 0
      · simp [c]
      · simp [c]
    have b0 : 0 ≤ 4 * (k : Int) ∧ 4 * (k : Int) < ((256 : Nat) : Int) := by omega
    have b1 : 0 ≤ 4 * (k : Int) + 1 ∧ 4 * (k : Int) + 1 < ((256 : Nat) : Int) := by omega
    have b2 : 0 ≤ 4 * (k : Int) + 2 ∧ 4 * (k : Int) + 2 < ((256 : Nat) : Int) := by omega
    have b3 : 0 ≤ 4 * (k : Int) + 3 ∧ 4 * (k : Int) + 3 < ((256 : Nat) : Int) := by omega
    unfold chooseR
    by_cases c1 : rowR r rN k < 0 ∨ rowR r rN k ≥ heightR r
    · rw [if_pos c1]
      have st := qHL3n.p1 (r := r) (rM := rM) (rN := rN) (rS := rS) (xd := (L, (k : Int), r)) hd
      simp only [e0, e1, e2, e3, t0, t1, t2, t3, rw256 (wN _), eR, ek] at st
      have st := st b0 b1 b2 b3 (by rw [g4 _ rfl]; exact decide_eq_true c1)
      rcases choose_loopR r rM rN rS w wN hl n (k + 1) L (by omega) hL with ⟨q, t⟩ | ⟨q, i, t⟩
      · exact .inl ⟨q, .more st t⟩
      · exact .inr ⟨q, i, .more st t⟩
    · rw [if_neg c1]
      have c1f := decide_eq_false c1
      by_cases c2 : L.length = 8
      · rw [if_pos c2]
        have st := qHL3n.p2 (r := r) (rM := rM) (rN := rN) (rS := rS) (xd := (L, (k : Int), r)) hd
        simp only [e0, e1, e2, e3, t0, t1, t2, t3, rw256 (wN _), eR, ek] at st
        have st := st b0 b1 b2 b3 (by rw [g4 _ rfl]; exact c1f) (by rw [c2]; rfl)
        exact .inr ⟨rfl, _, .last st⟩
      · rw [if_neg c2]
        have h0 : 0 ≤ rowR r rN k := by omega
        have h1 : rowR r rN k < heightR r := by omega
        obtain ⟨u0, u1⟩ := rowT_rng h0 h1
        obtain ⟨f0, f1⟩ := fromR_rng wN h0 h1
        have hh := height_or r
        have a0 := v1.1; have a1 : rN (4 * k + 1) < 256 := v1.2
        have e5 : ∀ b : Bool, b = rBit (rN (4 * k + 2)) 128 → qHJ5nynn r rN (L, (k : Int), r) b = rowT r rN k := by
          intro b hb
          unfold qHJ5nynn rowT
          simp only [e0, t0, rw256 (wN _), eR, j2n_eq, hb]
          rw [w64 (x := heightR r - 1) (by omega) (by omega), w64 (x := heightR r - 1 - _) (by omega) (by omega)]
        have e6 : qHJ6nynn r rN (L, (k : Int), r) (rowT r rN k, i64.wrap (i64.wrap (16 * rN (4 * k + 1)) + rowT r rN k)) = fromR r rN k := by
          have q : i64.wrap (i64.wrap (16 * rN (4 * k + 1)) + rowT r rN k) = 16 * rN (4 * k + 1) + rowT r rN k := by
            rw [w64 (x := 16 * rN (4 * k + 1)) (by omega) (by omega), w64 (by omega) (by omega)]
          rw [q]
          unfold qHJ6nynn qHJ7nynnn fromR
          simp only [e0, e1, t0, t1, rw256 (wN _), j2n_eq]
          rw [tm_e 2 a0, td_e 8 u0, tm_e 8 u0, w64 (x := 4096 * _) (by omega) (by omega), w64 (x := _ - _ % 2) (by omega) (by omega), w64 (x := rowT r rN k / 8) (by omega) (by omega), w64 (x := _ + rowT r rN k / 8) (by omega) (by omega), w64 (x := 16 * _) (by omega) (by omega), w64 (x := 4096 * _ + _) (by omega) (by omega), w64 (x := _ + rowT r rN k % 8) (by omega) (by omega), w64 (x := _ + 4096) (by omega) (by omega)]
          rcases hh with hh | hh
          · rw [hh]; simp
          · rw [hh]; simp; split <;> simp
        have hlen : (L.length : Int) ≠ 8 := by omega
        have ih := choose_loopR r rM rN rS w wN hl n (k + 1) (L ++ [oneR r rM rN k]) (by omega) (by simp; omega)
        have st : qHL3n r rM rN rS (L, (k : Int), r) (.inl (L ++ [oneR r rM rN k], ((k + 1 : Nat) : Int), r)) := by
          cases c4 : rBit (rN (4 * k + 2)) 64 with
          | true =>
            have st := qHL3n.p3 (r := r) (rM := rM) (rN := rN) (rS := rS) (xd := (L, (k : Int), r)) hd
            simp only [e0, e1, e2, e3, t0, t1, t2, t3, rw256 (wN _), eR, ek, e5 _ rfl, e6, rw256 (w _)] at st
            have e8 : i64.wrap (fromR r rN k + 8) = fromR r rN k + 8 := w64 (by omega) (by omega)
            simp only [e8] at st
            have st := st b0 b1 b2 b3 (by rw [g4 _ rfl]; exact c1f) (beq_eq_false_iff_ne.2 hlen) (by omega) (by omega) c4 (by omega)
            have eo : oneR r rM rN k = { X := rN (4 * k + 3), Look := rN (4 * k + 2), First := ((k : Int) == 0), Dots := rev8 (numsR r rM rN k), Full := true } := by unfold oneR; rw [if_pos c4]
            rw [eo]; exact st
          | false =>
            have st := qHL3n.p4 (r := r) (rM := rM) (rN := rN) (rS := rS) (xd := (L, (k : Int), r)) hd
            simp only [e0, e1, e2, e3, t0, t1, t2, t3, rw256 (wN _), eR, ek, e5 _ rfl, e6, rw256 (w _)] at st
            have e8 : i64.wrap (fromR r rN k + 8) = fromR r rN k + 8 := w64 (by omega) (by omega)
            simp only [e8] at st
            have st := st b0 b1 b2 b3 (by rw [g4 _ rfl]; exact c1f) (beq_eq_false_iff_ne.2 hlen) (by omega) (by omega) c4 (by omega)
            have eo : oneR r rM rN k = { X := rN (4 * k + 3), Look := rN (4 * k + 2), First := ((k : Int) == 0), Dots := numsR r rM rN k, Full := true } := by unfold oneR; rw [if_neg (nt c4)]
            rw [eo]; exact st
        rcases ih with ⟨q, t⟩ | ⟨q, i, t⟩
        · exact .inl ⟨q, .more st t⟩
        · exact .inr ⟨q, i, .more st t⟩
theorem rChooseF_ok (r : RPic) (rM : Nat → Int) (rN : Nat → Int) (rS : Nat → Int) (rC : List Man) (w : ∀ j, rng 256 (rM j)) (wN : ∀ j, rng 256 (rN j)) (hl : 0 ≤ r.Line ∧ r.Line < 300) (hm : rng 256 r.Mask) : FnSpec Try.prog 83 1005 [pt 1000] [(1000, (RPic.bl r (sl 1001 16384 1) (sl 1002 256 1) (sl 1004 (List.length rC) 4) (sl 1003 61440 1) false)), (1001, iB 16384 rM false), (1002, iB 256 rN false), (1003, iB 61440 rS false), (1004, mB rC false)] (.tuple ⟨[]⟩) [(1000, (RPic.bl (rChooseF r rM rN rS rC).1 (sl 1001 16384 1) (sl 1002 256 1) (sl 1005 (List.length (rChooseF r rM rN rS rC).2) 4) (sl 1003 61440 1) false)), (1001, iB 16384 rM false), (1002, iB 256 rN false), (1003, iB 61440 rS false), (1005, ⟨[rowsL Man.cells Man.nil 4 (rChooseF r rM rN rS rC).2], 119, false⟩)] := by
  have hj : qHJ1 r = decide (r.Line > 239 ∨ r.Mask / 8 % 4 = 0) := by
    have m0 := hm.1; have m1 : r.Mask < 256 := hm.2
    unfold qHJ1
    rw [td_e 8 m0, w64 (by omega) (by omega), tm_e 4 (by omega)]
    by_cases c : r.Line > 239
    · simp [c]
    · simp only [c, decide_false, false_or]
      rw [if_neg (by decide)]
      by_cases c' : r.Mask / 8 % 4 = 0 <;> simp [c']
  unfold rChooseF
  by_cases c : r.Line > 239 ∨ r.Mask / 8 % 4 = 0
  · rw [if_pos c]
    exact rChoose_p1 r rM rN rS rC (by rw [hj]; exact decide_eq_true c)
  · rw [if_neg c]
    rcases choose_loopR r rM rN rS w wN hl 64 0 [] rfl (by decide) with ⟨q, t⟩ | ⟨q, i, t⟩
    · rw [if_neg (nt q)]
      exact rChoose_p2 r rM rN rS rC (by rw [hj]; exact decide_eq_false c) _ t
    · rw [if_pos q]
      exact rChoose_p3 r rM rN rS rC (by rw [hj]; exact decide_eq_false c) _ t
end Go.Proofs.Ytgnhhnmpeklciaa
namespace Go.Proofs.Ytgnhhnmpeklciaa
open Go VX
open Go.IntKind (i64 u8 u16)
def qCJ1 (r : RPic) (rC : List Man) : Bool :=
  if (r.Line == 241) = true then
    (r.Dot == 1)
  else
    false
def qCJ1_T (r : RPic) (rC : List Man) : Tm := [(0, pt 1000)]
def qCJ1_H (r : RPic) (rC : List Man) : Heap := [(1000, (RPic.bl r (sl 1001 16384 1) (sl 1002 256 1) (sl 1004 (List.length rC) 4) (sl 1003 61440 1) false))]
def qCJ1_T1 (r : RPic) (rC : List Man) (r_ : Bool) : Tm := [(0, pt 1000), (15, .bool r_)]
def qCJ1_H1 (r : RPic) (rC : List Man) (r_ : Bool) : Heap := [(1000, (RPic.bl r (sl 1001 16384 1) (sl 1002 256 1) (sl 1004 (List.length rC) 4) (sl 1003 61440 1) false))]
theorem qCJ1_p1 (r : RPic) (rC : List Man) (d1 : (r.Line == 241) = true) : Runs Try.prog 244 (bodyOf Try.f58 [0, 0]) (qCJ1_T r rC) (qCJ1_H r rC) 1005 .normal (qCJ1_T1 r rC (r.Dot == 1)) (qCJ1_H1 r rC (r.Dot == 1)) 1005 := by
  exact runs_of_x hG hM 400 [.yes, .yes, .yes, .yes, .yes, .yes] (J d1 (J d1 (J d1 (J d1 (J d1 (J d1 trivial)))))) (by kernel_rfl)
theorem qCJ1_p2 (r : RPic) (rC : List Man) (d1 : (r.Line == 241) = false) : Runs Try.prog 244 (bodyOf Try.f58 [0, 0]) (qCJ1_T r rC) (qCJ1_H r rC) 1005 .normal (qCJ1_T1 r rC false) (qCJ1_H1 r rC false) 1005 := by
  exact runs_of_x hG hM 400 [.no, .no, .no, .no, .no, .no] (J d1 (J d1 (J d1 (J d1 (J d1 (J d1 trivial)))))) (by kernel_rfl)
theorem qCJ1_runs (r : RPic) (rC : List Man) : Runs Try.prog 244 (bodyOf Try.f58 [0, 0]) (qCJ1_T r rC) (qCJ1_H r rC) 1005 .normal (qCJ1_T1 r rC (qCJ1 r rC)) (qCJ1_H1 r rC (qCJ1 r rC)) 1005 := by
  rcases bt (r.Line == 241) with d1 | d1
  ·
    rw [show qCJ1 r rC = (r.Dot == 1) from by unfold qCJ1; rw [if_pos d1]]
    exact qCJ1_p1 r rC d1
  ·
    rw [show qCJ1 r rC = false from by unfold qCJ1; rw [if_neg (nt d1)]]
    exact qCJ1_p2 r rC d1
def qCJ2 (r : RPic) (rC : List Man) (xd : RPic) : RPic :=
  if (qCJ1 r rC) = true then
    ({ xd with Blank := true, Done := (i64.wrap (xd.Done + 1)) } : RPic)
  else
    xd
def qCJ2_T (r : RPic) (rC : List Man) (xd : RPic) : Tm := [(0, pt 1000), (15, .bool (qCJ1 r rC))]
def qCJ2_H (r : RPic) (rC : List Man) (xd : RPic) : Heap := [(1000, (RPic.bl xd (sl 1001 16384 1) (sl 1002 256 1) (sl 1004 (List.length rC) 4) (sl 1003 61440 1) false))]
def qCJ2_T1 (r : RPic) (rC : List Man) (xd : RPic) (r_ : RPic) : Tm := [(0, pt 1000)]
def qCJ2_H1 (r : RPic) (rC : List Man) (xd : RPic) (r_ : RPic) : Heap := [(1000, (RPic.bl r_ (sl 1001 16384 1) (sl 1002 256 1) (sl 1004 (List.length rC) 4) (sl 1003 61440 1) false))]
theorem qCJ2_p1 (r : RPic) (rC : List Man) (xd : RPic) (d1 : (qCJ1 r rC) = true) : Runs Try.prog 244 (bodyOf Try.f58 [0, 1]) (qCJ2_T r rC xd) (qCJ2_H r rC xd) 1005 .normal (qCJ2_T1 r rC xd ({ xd with Blank := true, Done := (i64.wrap (xd.Done + 1)) } : RPic)) (qCJ2_H1 r rC xd ({ xd with Blank := true, Done := (i64.wrap (xd.Done + 1)) } : RPic)) 1005 := by
  exact runs_of_x hG hM 400 [.yes] (J d1 trivial) (by kernel_rfl)
theorem qCJ2_p2 (r : RPic) (rC : List Man) (xd : RPic) (d1 : (qCJ1 r rC) = false) : Runs Try.prog 244 (bodyOf Try.f58 [0, 1]) (qCJ2_T r rC xd) (qCJ2_H r rC xd) 1005 .normal (qCJ2_T1 r rC xd xd) (qCJ2_H1 r rC xd xd) 1005 := by
  exact runs_of_x hG hM 400 [.no] (J d1 trivial) (by kernel_rfl)
theorem qCJ2_runs (r : RPic) (rC : List Man) (xd : RPic) : Runs Try.prog 244 (bodyOf Try.f58 [0, 1]) (qCJ2_T r rC xd) (qCJ2_H r rC xd) 1005 .normal (qCJ2_T1 r rC xd (qCJ2 r rC xd)) (qCJ2_H1 r rC xd (qCJ2 r rC xd)) 1005 := by
  rcases bt (qCJ1 r rC) with d1 | d1
  ·
    rw [show qCJ2 r rC xd = ({ xd with Blank := true, Done := (i64.wrap (xd.Done + 1)) } : RPic) from by unfold qCJ2; rw [if_pos d1]]
    exact qCJ2_p1 r rC xd d1
  ·
    rw [show qCJ2 r rC xd = xd from by unfold qCJ2; rw [if_neg (nt d1)]]
    exact qCJ2_p2 r rC xd d1
def qCJ3 (r : RPic) (rC : List Man) : Bool :=
  if (((qCJ2 r rC r).Line : Int) == 261) = true then
    (((qCJ2 r rC r).Dot : Int) == 1)
  else
    false
def qCJ3_T (r : RPic) (rC : List Man) : Tm := [(0, pt 1000)]
def qCJ3_H (r : RPic) (rC : List Man) : Heap := [(1000, (RPic.bl (qCJ2 r rC r) (sl 1001 16384 1) (sl 1002 256 1) (sl 1004 (List.length rC) 4) (sl 1003 61440 1) false))]
def qCJ3_T1 (r : RPic) (rC : List Man) (r_ : Bool) : Tm := [(0, pt 1000), (37, .bool r_)]
def qCJ3_H1 (r : RPic) (rC : List Man) (r_ : Bool) : Heap := [(1000, (RPic.bl (qCJ2 r rC r) (sl 1001 16384 1) (sl 1002 256 1) (sl 1004 (List.length rC) 4) (sl 1003 61440 1) false))]
theorem qCJ3_p1 (r : RPic) (rC : List Man) (d1 : (((qCJ2 r rC r).Line : Int) == 261) = true) : Runs Try.prog 244 (bodyOf Try.f58 [1, 0, 0]) (qCJ3_T r rC) (qCJ3_H r rC) 1005 .normal (qCJ3_T1 r rC (((qCJ2 r rC r).Dot : Int) == 1)) (qCJ3_H1 r rC (((qCJ2 r rC r).Dot : Int) == 1)) 1005 := by
  exact runs_of_x hG hM 400 [.yes, .yes, .yes, .yes, .yes, .yes] (J d1 (J d1 (J d1 (J d1 (J d1 (J d1 trivial)))))) (by kernel_rfl)
theorem qCJ3_p2 (r : RPic) (rC : List Man) (d1 : (((qCJ2 r rC r).Line : Int) == 261) = false) : Runs Try.prog 244 (bodyOf Try.f58 [1, 0, 0]) (qCJ3_T r rC) (qCJ3_H r rC) 1005 .normal (qCJ3_T1 r rC false) (qCJ3_H1 r rC false) 1005 := by
  exact runs_of_x hG hM 400 [.no, .no, .no, .no, .no, .no] (J d1 (J d1 (J d1 (J d1 (J d1 (J d1 trivial)))))) (by kernel_rfl)
theorem qCJ3_runs (r : RPic) (rC : List Man) : Runs Try.prog 244 (bodyOf Try.f58 [1, 0, 0]) (qCJ3_T r rC) (qCJ3_H r rC) 1005 .normal (qCJ3_T1 r rC (qCJ3 r rC)) (qCJ3_H1 r rC (qCJ3 r rC)) 1005 := by
  rcases bt (((qCJ2 r rC r).Line : Int) == 261) with d1 | d1
  ·
    rw [show qCJ3 r rC = (((qCJ2 r rC r).Dot : Int) == 1) from by unfold qCJ3; rw [if_pos d1]]
    exact qCJ3_p1 r rC d1
  ·
    rw [show qCJ3 r rC = false from by unfold qCJ3; rw [if_neg (nt d1)]]
    exact qCJ3_p2 r rC d1
def qCJ4 (r : RPic) (rC : List Man) (xd : RPic) : RPic :=
  if (qCJ3 r rC) = true then
    ({ xd with Blank := false, Hit := false, Many := false } : RPic)
  else
    xd
def qCJ4_T (r : RPic) (rC : List Man) (xd : RPic) : Tm := [(0, pt 1000), (37, .bool (qCJ3 r rC))]
def qCJ4_H (r : RPic) (rC : List Man) (xd : RPic) : Heap := [(1000, (RPic.bl xd (sl 1001 16384 1) (sl 1002 256 1) (sl 1004 (List.length rC) 4) (sl 1003 61440 1) false))]
def qCJ4_T1 (r : RPic) (rC : List Man) (xd : RPic) (r_ : RPic) : Tm := [(0, pt 1000)]
def qCJ4_H1 (r : RPic) (rC : List Man) (xd : RPic) (r_ : RPic) : Heap := [(1000, (RPic.bl r_ (sl 1001 16384 1) (sl 1002 256 1) (sl 1004 (List.length rC) 4) (sl 1003 61440 1) false))]
theorem qCJ4_p1 (r : RPic) (rC : List Man) (xd : RPic) (d1 : (qCJ3 r rC) = true) : Runs Try.prog 244 (bodyOf Try.f58 [1, 0, 1]) (qCJ4_T r rC xd) (qCJ4_H r rC xd) 1005 .normal (qCJ4_T1 r rC xd ({ xd with Blank := false, Hit := false, Many := false } : RPic)) (qCJ4_H1 r rC xd ({ xd with Blank := false, Hit := false, Many := false } : RPic)) 1005 := by
  exact runs_of_x hG hM 400 [.yes] (J d1 trivial) (by kernel_rfl)
theorem qCJ4_p2 (r : RPic) (rC : List Man) (xd : RPic) (d1 : (qCJ3 r rC) = false) : Runs Try.prog 244 (bodyOf Try.f58 [1, 0, 1]) (qCJ4_T r rC xd) (qCJ4_H r rC xd) 1005 .normal (qCJ4_T1 r rC xd xd) (qCJ4_H1 r rC xd xd) 1005 := by
  exact runs_of_x hG hM 400 [.no] (J d1 trivial) (by kernel_rfl)
theorem qCJ4_runs (r : RPic) (rC : List Man) (xd : RPic) : Runs Try.prog 244 (bodyOf Try.f58 [1, 0, 1]) (qCJ4_T r rC xd) (qCJ4_H r rC xd) 1005 .normal (qCJ4_T1 r rC xd (qCJ4 r rC xd)) (qCJ4_H1 r rC xd (qCJ4 r rC xd)) 1005 := by
  rcases bt (qCJ3 r rC) with d1 | d1
  ·
    rw [show qCJ4 r rC xd = ({ xd with Blank := false, Hit := false, Many := false } : RPic) from by unfold qCJ4; rw [if_pos d1]]
    exact qCJ4_p1 r rC xd d1
  ·
    rw [show qCJ4 r rC xd = xd from by unfold qCJ4; rw [if_neg (nt d1)]]
    exact qCJ4_p2 r rC xd d1
def qCJ5 (r : RPic) (rC : List Man) : Bool :=
  if (decide (((qCJ4 r rC (qCJ2 r rC r)).Line : Int) < 240)) = true then
    if (decide (((qCJ4 r rC (qCJ2 r rC r)).Dot : Int) > 0)) = true then
      (decide (((qCJ4 r rC (qCJ2 r rC r)).Dot : Int) < 257))
    else
      false
  else
    false
def qCJ5_T (r : RPic) (rC : List Man) : Tm := [(0, pt 1000)]
def qCJ5_H (r : RPic) (rC : List Man) : Heap := [(1000, (RPic.bl (qCJ4 r rC (qCJ2 r rC r)) (sl 1001 16384 1) (sl 1002 256 1) (sl 1004 (List.length rC) 4) (sl 1003 61440 1) false))]
def qCJ5_T1 (r : RPic) (rC : List Man) (r_ : Bool) : Tm := [(0, pt 1000), (65, .bool r_)]
def qCJ5_H1 (r : RPic) (rC : List Man) (r_ : Bool) : Heap := [(1000, (RPic.bl (qCJ4 r rC (qCJ2 r rC r)) (sl 1001 16384 1) (sl 1002 256 1) (sl 1004 (List.length rC) 4) (sl 1003 61440 1) false))]
theorem qCJ5_p1 (r : RPic) (rC : List Man) (d1 : (decide (((qCJ4 r rC (qCJ2 r rC r)).Line : Int) < 240)) = true) (d2 : (decide (((qCJ4 r rC (qCJ2 r rC r)).Dot : Int) > 0)) = true) : Runs Try.prog 244 (bodyOf Try.f58 [1, 1, 0, 0]) (qCJ5_T r rC) (qCJ5_H r rC) 1005 .normal (qCJ5_T1 r rC (decide (((qCJ4 r rC (qCJ2 r rC r)).Dot : Int) < 257))) (qCJ5_H1 r rC (decide (((qCJ4 r rC (qCJ2 r rC r)).Dot : Int) < 257))) 1005 := by
  exact runs_of_x hG hM 400 [.yes, .yes, .yes, .yes, .yes, .yes, .yes, .yes, .yes, .yes, .yes, .yes] (J d1 (J d1 (J d1 (J d1 (J d1 (J d1 (J d2 (J d2 (J d2 (J d2 (J d2 (J d2 trivial)))))))))))) (by kernel_rfl)
theorem qCJ5_p2 (r : RPic) (rC : List Man) (d1 : (decide (((qCJ4 r rC (qCJ2 r rC r)).Line : Int) < 240)) = true) (d2 : (decide (((qCJ4 r rC (qCJ2 r rC r)).Dot : Int) > 0)) = false) : Runs Try.prog 244 (bodyOf Try.f58 [1, 1, 0, 0]) (qCJ5_T r rC) (qCJ5_H r rC) 1005 .normal (qCJ5_T1 r rC false) (qCJ5_H1 r rC false) 1005 := by
  exact runs_of_x hG hM 400 [.yes, .yes, .yes, .yes, .yes, .yes, .no, .no, .no, .no, .no, .no] (J d1 (J d1 (J d1 (J d1 (J d1 (J d1 (J d2 (J d2 (J d2 (J d2 (J d2 (J d2 trivial)))))))))))) (by kernel_rfl)
theorem qCJ5_p3 (r : RPic) (rC : List Man) (d1 : (decide (((qCJ4 r rC (qCJ2 r rC r)).Line : Int) < 240)) = false) : Runs Try.prog 244 (bodyOf Try.f58 [1, 1, 0, 0]) (qCJ5_T r rC) (qCJ5_H r rC) 1005 .normal (qCJ5_T1 r rC false) (qCJ5_H1 r rC false) 1005 := by
  exact runs_of_x hG hM 400 [.no, .no, .no, .no, .no, .no, .no, .no, .no, .no, .no, .no] (J d1 (J d1 (J d1 (J d1 (J d1 (J d1 (J T0 (J T0 (J T0 (J T0 (J T0 (J T0 trivial)))))))))))) (by kernel_rfl)
abbrev NIk6 (r : RPic) (rC : List Man) := (qCJ4 r rC (qCJ2 r rC r))
theorem qCJ5_runs (r : RPic) (rC : List Man) : Runs Try.prog 244 (bodyOf Try.f58 [1, 1, 0, 0]) (qCJ5_T r rC) (qCJ5_H r rC) 1005 .normal (qCJ5_T1 r rC (qCJ5 r rC)) (qCJ5_H1 r rC (qCJ5 r rC)) 1005 := by
  rcases bt (decide (((NIk6 r rC).Line : Int) < 240)) with d1 | d1
  ·
    rcases bt (decide (((NIk6 r rC).Dot : Int) > 0)) with d2 | d2
    ·
      rw [show qCJ5 r rC = (decide (((NIk6 r rC).Dot : Int) < 257)) from by unfold qCJ5; rw [if_pos d1, if_pos d2]]
      exact qCJ5_p1 r rC d1 d2
    ·
      rw [show qCJ5 r rC = false from by unfold qCJ5; rw [if_pos d1, if_neg (nt d2)]]
      exact qCJ5_p2 r rC d1 d2
  ·
    rw [show qCJ5 r rC = false from by unfold qCJ5; rw [if_neg (nt d1)]]
    exact qCJ5_p3 r rC d1
def qCJ6 (r : RPic) (rM : Nat → Int) (rN : Nat → Int) (rC : List Man) (xd : RPic × (Nat → Int)) : RPic × (Nat → Int) :=
  if (qCJ5 r rC) = true then
    ((rDrawF xd.1 rM rN xd.2 rC (i64.wrap (xd.1.Dot - 1))).1, (rDrawF xd.1 rM rN xd.2 rC (i64.wrap (xd.1.Dot - 1))).2)
  else
    (xd.1, xd.2)
def qCJ6_T (r : RPic) (rM : Nat → Int) (rN : Nat → Int) (rC : List Man) (xd : RPic × (Nat → Int)) : Tm := [(0, pt 1000), (65, .bool (qCJ5 r rC))]
def qCJ6_H (r : RPic) (rM : Nat → Int) (rN : Nat → Int) (rC : List Man) (xd : RPic × (Nat → Int)) : Heap := [(1000, (RPic.bl xd.1 (sl 1001 16384 1) (sl 1002 256 1) (sl 1004 (List.length rC) 4) (sl 1003 61440 1) false)), (1001, iB 16384 rM false), (1002, iB 256 rN false), (1003, ⟨[.ints .u8 61440 xd.2], 5, false⟩), (1004, mB rC false)]
def qCJ6_T1 (r : RPic) (rM : Nat → Int) (rN : Nat → Int) (rC : List Man) (xd : RPic × (Nat → Int)) (r_ : RPic × (Nat → Int)) : Tm := [(0, pt 1000)]
def qCJ6_H1 (r : RPic) (rM : Nat → Int) (rN : Nat → Int) (rC : List Man) (xd : RPic × (Nat → Int)) (r_ : RPic × (Nat → Int)) : Heap := [(1000, (RPic.bl r_.1 (sl 1001 16384 1) (sl 1002 256 1) (sl 1004 (List.length rC) 4) (sl 1003 61440 1) false)), (1001, iB 16384 rM false), (1002, iB 256 rN false), (1003, ⟨[.ints .u8 61440 r_.2], 5, false⟩), (1004, mB rC false)]
theorem qCJ6_p1 (r : RPic) (rM : Nat → Int) (rN : Nat → Int) (rC : List Man) (xd : RPic × (Nat → Int)) (v1d : ∀ j, rng 256 (rM j)) (v2d : PlaceOk xd.1.S.V) (v3d : 0 ≤ xd.1.S.X ∧ xd.1.S.X < 8) (v4d : (qCJ5 r rC) = true → 0 ≤ (i64.wrap (xd.1.Dot - 1)) ∧ (i64.wrap (xd.1.Dot - 1)) < 256) (v5d : (qCJ5 r rC) = true → 0 ≤ xd.1.Line ∧ xd.1.Line < 240) (v6d : ∀ c ∈ rC, ManOk c) (v7d : rC.length ≤ 8) (d1 : (qCJ5 r rC) = true) : Runs Try.prog 244 (bodyOf Try.f58 [1, 1, 0, 1]) (qCJ6_T r rM rN rC xd) (qCJ6_H r rM rN rC xd) 1005 .normal (qCJ6_T1 r rM rN rC xd ((rDrawF xd.1 rM rN xd.2 rC (i64.wrap (xd.1.Dot - 1))).1, (rDrawF xd.1 rM rN xd.2 rC (i64.wrap (xd.1.Dot - 1))).2)) (qCJ6_H1 r rM rN rC xd ((rDrawF xd.1 rM rN xd.2 rC (i64.wrap (xd.1.Dot - 1))).1, (rDrawF xd.1 rM rN xd.2 rC (i64.wrap (xd.1.Dot - 1))).2)) 1005 := by
  exact runs_of_x hG hM 400 [.yes, .call [(1000, 1000), (1001, 1001), (1002, 1002), (1003, 1003), (1004, 1004)] [] 1005 (.tuple ⟨[]⟩) [(1000, (RPic.bl ((rDrawF xd.1 rM rN xd.2 rC (i64.wrap (xd.1.Dot - 1))).1) (sl 1001 16384 1) (sl 1002 256 1) (sl 1004 (List.length rC) 4) (sl 1003 61440 1) false)), (1001, iB 16384 rM false), (1002, iB 256 rN false), (1003, ⟨[.ints .u8 61440 ((rDrawF xd.1 rM rN xd.2 rC (i64.wrap (xd.1.Dot - 1))).2)], 5, false⟩), (1004, mB rC false)]] (J d1 (J (rDrawF_ok xd.1 rM rN xd.2 rC (i64.wrap (xd.1.Dot - 1)) v1d v2d v3d (v4d d1) (v5d d1) v6d v7d) trivial)) (by kernel_rfl)
theorem qCJ6_p2 (r : RPic) (rM : Nat → Int) (rN : Nat → Int) (rC : List Man) (xd : RPic × (Nat → Int)) (v1d : ∀ j, rng 256 (rM j)) (v2d : PlaceOk xd.1.S.V) (v3d : 0 ≤ xd.1.S.X ∧ xd.1.S.X < 8) (v4d : (qCJ5 r rC) = true → 0 ≤ (i64.wrap (xd.1.Dot - 1)) ∧ (i64.wrap (xd.1.Dot - 1)) < 256) (v5d : (qCJ5 r rC) = true → 0 ≤ xd.1.Line ∧ xd.1.Line < 240) (v6d : ∀ c ∈ rC, ManOk c) (v7d : rC.length ≤ 8) (d1 : (qCJ5 r rC) = false) : Runs Try.prog 244 (bodyOf Try.f58 [1, 1, 0, 1]) (qCJ6_T r rM rN rC xd) (qCJ6_H r rM rN rC xd) 1005 .normal (qCJ6_T1 r rM rN rC xd (xd.1, xd.2)) (qCJ6_H1 r rM rN rC xd (xd.1, xd.2)) 1005 := by
  exact runs_of_x hG hM 400 [.no] (J d1 trivial) (by kernel_rfl)
theorem qCJ6_runs (r : RPic) (rM : Nat → Int) (rN : Nat → Int) (rC : List Man) (xd : RPic × (Nat → Int)) (v1d : ∀ j, rng 256 (rM j)) (v2d : PlaceOk xd.1.S.V) (v3d : 0 ≤ xd.1.S.X ∧ xd.1.S.X < 8) (v4d : (qCJ5 r rC) = true → 0 ≤ (i64.wrap (xd.1.Dot - 1)) ∧ (i64.wrap (xd.1.Dot - 1)) < 256) (v5d : (qCJ5 r rC) = true → 0 ≤ xd.1.Line ∧ xd.1.Line < 240) (v6d : ∀ c ∈ rC, ManOk c) (v7d : rC.length ≤ 8) : Runs Try.prog 244 (bodyOf Try.f58 [1, 1, 0, 1]) (qCJ6_T r rM rN rC xd) (qCJ6_H r rM rN rC xd) 1005 .normal (qCJ6_T1 r rM rN rC xd (qCJ6 r rM rN rC xd)) (qCJ6_H1 r rM rN rC xd (qCJ6 r rM rN rC xd)) 1005 := by
  rcases bt (qCJ5 r rC) with d1 | d1
  ·
    rw [show qCJ6 r rM rN rC xd = ((rDrawF xd.1 rM rN xd.2 rC (i64.wrap (xd.1.Dot - 1))).1, (rDrawF xd.1 rM rN xd.2 rC (i64.wrap (xd.1.Dot - 1))).2) from by unfold qCJ6; rw [if_pos d1]]
    exact qCJ6_p1 r rM rN rC xd v1d v2d v3d v4d v5d v6d v7d d1
  ·
    rw [show qCJ6 r rM rN rC xd = (xd.1, xd.2) from by unfold qCJ6; rw [if_neg (nt d1)]]
    exact qCJ6_p2 r rM rN rC xd v1d v2d v3d v4d v5d v6d v7d d1
def qCJ7 (r : RPic) (rM : Nat → Int) (rN : Nat → Int) (rS : Nat → Int) (rC : List Man) (xd : Bool) : Bool :=
  if xd = true then
    if (decide ((((qCJ6 r rM rN rC ((qCJ4 r rC (qCJ2 r rC r)), rS)).1).Line : Int) < 240)) = true then
      true
    else
      ((((qCJ6 r rM rN rC ((qCJ4 r rC (qCJ2 r rC r)), rS)).1).Line : Int) == 261)
  else
    false
def qCJ7_T (r : RPic) (rM : Nat → Int) (rN : Nat → Int) (rS : Nat → Int) (rC : List Man) (xd : Bool) : Tm := [(0, pt 1000), (2, .bool xd)]
def qCJ7_H (r : RPic) (rM : Nat → Int) (rN : Nat → Int) (rS : Nat → Int) (rC : List Man) (xd : Bool) : Heap := [(1000, (RPic.bl ((qCJ6 r rM rN rC ((qCJ4 r rC (qCJ2 r rC r)), rS)).1) (sl 1001 16384 1) (sl 1002 256 1) (sl 1004 (List.length rC) 4) (sl 1003 61440 1) false))]
def qCJ7_T1 (r : RPic) (rM : Nat → Int) (rN : Nat → Int) (rS : Nat → Int) (rC : List Man) (xd : Bool) (r_ : Bool) : Tm := [(0, pt 1000), (2, .bool xd), (94, .bool r_)]
def qCJ7_H1 (r : RPic) (rM : Nat → Int) (rN : Nat → Int) (rS : Nat → Int) (rC : List Man) (xd : Bool) (r_ : Bool) : Heap := [(1000, (RPic.bl ((qCJ6 r rM rN rC ((qCJ4 r rC (qCJ2 r rC r)), rS)).1) (sl 1001 16384 1) (sl 1002 256 1) (sl 1004 (List.length rC) 4) (sl 1003 61440 1) false))]
theorem qCJ7_p1 (r : RPic) (rM : Nat → Int) (rN : Nat → Int) (rS : Nat → Int) (rC : List Man) (xd : Bool) (d1 : xd = true) (d2 : (decide ((((qCJ6 r rM rN rC ((qCJ4 r rC (qCJ2 r rC r)), rS)).1).Line : Int) < 240)) = true) : Runs Try.prog 244 (bodyOf Try.f58 [1, 1, 1, 1, 0, 0]) (qCJ7_T r rM rN rS rC xd) (qCJ7_H r rM rN rS rC xd) 1005 .normal (qCJ7_T1 r rM rN rS rC xd true) (qCJ7_H1 r rM rN rS rC xd true) 1005 := by
  exact runs_of_x hG hM 400 [.yes, .yes, .yes, .yes, .yes, .yes, .yes, .yes, .yes, .yes, .yes, .yes, .yes, .yes] (J d1 (J d1 (J d1 (J d1 (J d1 (J d1 (J d2 (J d2 (J d2 (J d2 (J d2 (J d1 (J d2 (J d1 trivial)))))))))))))) (by kernel_rfl)
theorem qCJ7_p2 (r : RPic) (rM : Nat → Int) (rN : Nat → Int) (rS : Nat → Int) (rC : List Man) (xd : Bool) (d1 : xd = true) (d2 : (decide ((((qCJ6 r rM rN rC ((qCJ4 r rC (qCJ2 r rC r)), rS)).1).Line : Int) < 240)) = false) : Runs Try.prog 244 (bodyOf Try.f58 [1, 1, 1, 1, 0, 0]) (qCJ7_T r rM rN rS rC xd) (qCJ7_H r rM rN rS rC xd) 1005 .normal (qCJ7_T1 r rM rN rS rC xd ((((qCJ6 r rM rN rC ((qCJ4 r rC (qCJ2 r rC r)), rS)).1).Line : Int) == 261)) (qCJ7_H1 r rM rN rS rC xd ((((qCJ6 r rM rN rC ((qCJ4 r rC (qCJ2 r rC r)), rS)).1).Line : Int) == 261)) 1005 := by
  exact runs_of_x hG hM 400 [.yes, .yes, .yes, .yes, .yes, .yes, .no, .no, .no, .no, .no, .yes, .no, .yes] (J d1 (J d1 (J d1 (J d1 (J d1 (J d1 (J d2 (J d2 (J d2 (J d2 (J d2 (J d1 (J d2 (J d1 trivial)))))))))))))) (by kernel_rfl)
theorem qCJ7_p3 (r : RPic) (rM : Nat → Int) (rN : Nat → Int) (rS : Nat → Int) (rC : List Man) (xd : Bool) (d1 : xd = false) : Runs Try.prog 244 (bodyOf Try.f58 [1, 1, 1, 1, 0, 0]) (qCJ7_T r rM rN rS rC xd) (qCJ7_H r rM rN rS rC xd) 1005 .normal (qCJ7_T1 r rM rN rS rC xd false) (qCJ7_H1 r rM rN rS rC xd false) 1005 := by
  exact runs_of_x hG hM 400 [.no, .no, .no, .no, .no, .no, .no, .no] (J d1 (J d1 (J d1 (J d1 (J d1 (J d1 (J d1 (J d1 trivial)))))))) (by kernel_rfl)
theorem qCJ7_runs (r : RPic) (rM : Nat → Int) (rN : Nat → Int) (rS : Nat → Int) (rC : List Man) (xd : Bool) : Runs Try.prog 244 (bodyOf Try.f58 [1, 1, 1, 1, 0, 0]) (qCJ7_T r rM rN rS rC xd) (qCJ7_H r rM rN rS rC xd) 1005 .normal (qCJ7_T1 r rM rN rS rC xd (qCJ7 r rM rN rS rC xd)) (qCJ7_H1 r rM rN rS rC xd (qCJ7 r rM rN rS rC xd)) 1005 := by
  rcases bt xd with d1 | d1
  ·
    rcases bt (decide ((((qCJ6 r rM rN rC ((NIk6 r rC), rS)).1).Line : Int) < 240)) with d2 | d2
    ·
      rw [show qCJ7 r rM rN rS rC xd = true from by unfold qCJ7; rw [if_pos d1, if_pos d2]]
      exact qCJ7_p1 r rM rN rS rC xd d1 d2
    ·
      rw [show qCJ7 r rM rN rS rC xd = ((((qCJ6 r rM rN rC ((NIk6 r rC), rS)).1).Line : Int) == 261) from by unfold qCJ7; rw [if_pos d1, if_neg (nt d2)]]
      exact qCJ7_p2 r rM rN rS rC xd d1 d2
  ·
    rw [show qCJ7 r rM rN rS rC xd = false from by unfold qCJ7; rw [if_neg (nt d1)]]
    exact qCJ7_p3 r rM rN rS rC xd d1
def qCJ9y (rC : List Man) (xd : RPic × Bool × Bool) : Bool :=
  if (decide (xd.1.Dot > 0)) = true then
    if (decide (xd.1.Dot < 256)) = true then
      ((Int.tmod xd.1.Dot 8) == 0)
    else
      false
  else
    false
def qCJ9y_T (rC : List Man) (xd : RPic × Bool × Bool) : Tm := [(0, pt 1000), (2, .bool xd.2.1)]
def qCJ9y_H (rC : List Man) (xd : RPic × Bool × Bool) : Heap := [(1000, (RPic.bl xd.1 (sl 1001 16384 1) (sl 1002 256 1) (sl 1004 (List.length rC) 4) (sl 1003 61440 1) false))]
def qCJ9y_T1 (rC : List Man) (xd : RPic × Bool × Bool) (r_ : Bool) : Tm := [(0, pt 1000), (2, .bool xd.2.1), (114, .bool r_)]
def qCJ9y_H1 (rC : List Man) (xd : RPic × Bool × Bool) (r_ : Bool) : Heap := [(1000, (RPic.bl xd.1 (sl 1001 16384 1) (sl 1002 256 1) (sl 1004 (List.length rC) 4) (sl 1003 61440 1) false))]
theorem qCJ9y_p1 (rC : List Man) (xd : RPic × Bool × Bool) (e1 : (decide (xd.1.Dot > 0)) = true) (e2 : (decide (xd.1.Dot < 256)) = true) : Runs Try.prog 244 (bodyOf Try.f58 [1, 1, 1, 1, 0, 1, 0, 0, 0]) (qCJ9y_T rC xd) (qCJ9y_H rC xd) 1005 .normal (qCJ9y_T1 rC xd ((Int.tmod xd.1.Dot 8) == 0)) (qCJ9y_H1 rC xd ((Int.tmod xd.1.Dot 8) == 0)) 1005 := by
  exact runs_of_x hG hM 400 [.yes, .yes, .yes, .yes, .yes, .yes, .yes, .yes, .yes, .yes, .yes, .yes, .yes] (J e1 (J e1 (J e1 (J e1 (J e1 (J e1 (J e2 (J e2 (J e2 (J e2 (J e2 (J (by decide : ((8 : Int) ≠ 0)) (J e2 (J e2 trivial)))))))))))))) (by kernel_rfl)
theorem qCJ9y_p2 (rC : List Man) (xd : RPic × Bool × Bool) (e1 : (decide (xd.1.Dot > 0)) = true) (e2 : (decide (xd.1.Dot < 256)) = false) : Runs Try.prog 244 (bodyOf Try.f58 [1, 1, 1, 1, 0, 1, 0, 0, 0]) (qCJ9y_T rC xd) (qCJ9y_H rC xd) 1005 .normal (qCJ9y_T1 rC xd false) (qCJ9y_H1 rC xd false) 1005 := by
  exact runs_of_x hG hM 400 [.yes, .yes, .yes, .yes, .yes, .yes, .no, .no, .no, .no, .no, .no, .no] (J e1 (J e1 (J e1 (J e1 (J e1 (J e1 (J e2 (J e2 (J e2 (J e2 (J e2 (J e2 (J e2 trivial))))))))))))) (by kernel_rfl)
theorem qCJ9y_p3 (rC : List Man) (xd : RPic × Bool × Bool) (e1 : (decide (xd.1.Dot > 0)) = false) : Runs Try.prog 244 (bodyOf Try.f58 [1, 1, 1, 1, 0, 1, 0, 0, 0]) (qCJ9y_T rC xd) (qCJ9y_H rC xd) 1005 .normal (qCJ9y_T1 rC xd false) (qCJ9y_H1 rC xd false) 1005 := by
  exact runs_of_x hG hM 400 [.no, .no, .no, .no, .no, .no, .no, .no, .no, .no, .no, .no, .no] (J e1 (J e1 (J e1 (J e1 (J e1 (J e1 (J T0 (J T0 (J T0 (J T0 (J T0 (J T0 (J T0 trivial))))))))))))) (by kernel_rfl)
theorem qCJ9y_runs (rC : List Man) (xd : RPic × Bool × Bool) : Runs Try.prog 244 (bodyOf Try.f58 [1, 1, 1, 1, 0, 1, 0, 0, 0]) (qCJ9y_T rC xd) (qCJ9y_H rC xd) 1005 .normal (qCJ9y_T1 rC xd (qCJ9y rC xd)) (qCJ9y_H1 rC xd (qCJ9y rC xd)) 1005 := by
  rcases bt (decide (xd.1.Dot > 0)) with e1 | e1
  ·
    rcases bt (decide (xd.1.Dot < 256)) with e2 | e2
    ·
      rw [show qCJ9y rC xd = ((Int.tmod xd.1.Dot 8) == 0) from by unfold qCJ9y; rw [if_pos e1, if_pos e2]]
      exact qCJ9y_p1 rC xd e1 e2
    ·
      rw [show qCJ9y rC xd = false from by unfold qCJ9y; rw [if_pos e1, if_neg (nt e2)]]
      exact qCJ9y_p2 rC xd e1 e2
  ·
    rw [show qCJ9y rC xd = false from by unfold qCJ9y; rw [if_neg (nt e1)]]
    exact qCJ9y_p3 rC xd e1
def qCJ10y (rC : List Man) (xd : RPic × Bool × Bool) (xe : RPic) : RPic :=
  if (qCJ9y rC xd) = true then
    ({ xe with S := (rRight xe.S) } : RPic)
  else
    xe
def qCJ10y_T (rC : List Man) (xd : RPic × Bool × Bool) (xe : RPic) : Tm := [(0, pt 1000), (2, .bool xd.2.1), (114, .bool (qCJ9y rC xd))]
def qCJ10y_H (rC : List Man) (xd : RPic × Bool × Bool) (xe : RPic) : Heap := [(1000, (RPic.bl xe (sl 1001 16384 1) (sl 1002 256 1) (sl 1004 (List.length rC) 4) (sl 1003 61440 1) false))]
def qCJ10y_T1 (rC : List Man) (xd : RPic × Bool × Bool) (xe : RPic) (r_ : RPic) : Tm := [(0, pt 1000), (2, .bool xd.2.1)]
def qCJ10y_H1 (rC : List Man) (xd : RPic × Bool × Bool) (xe : RPic) (r_ : RPic) : Heap := [(1000, (RPic.bl r_ (sl 1001 16384 1) (sl 1002 256 1) (sl 1004 (List.length rC) 4) (sl 1003 61440 1) false))]
theorem qCJ10y_p1 (rC : List Man) (xd : RPic × Bool × Bool) (xe : RPic) (e1 : (qCJ9y rC xd) = true) : Runs Try.prog 244 (bodyOf Try.f58 [1, 1, 1, 1, 0, 1, 0, 0, 1]) (qCJ10y_T rC xd xe) (qCJ10y_H rC xd xe) 1005 .normal (qCJ10y_T1 rC xd xe ({ xe with S := (rRight xe.S) } : RPic)) (qCJ10y_H1 rC xd xe ({ xe with S := (rRight xe.S) } : RPic)) 1005 := by
  exact runs_of_x hG hM 400 [.yes, .call [] [] 1000 (RScroll.enc (rRight xe.S)) []] (J e1 (J (rRight_ok xe.S) trivial)) (by kernel_rfl)
theorem qCJ10y_p2 (rC : List Man) (xd : RPic × Bool × Bool) (xe : RPic) (e1 : (qCJ9y rC xd) = false) : Runs Try.prog 244 (bodyOf Try.f58 [1, 1, 1, 1, 0, 1, 0, 0, 1]) (qCJ10y_T rC xd xe) (qCJ10y_H rC xd xe) 1005 .normal (qCJ10y_T1 rC xd xe xe) (qCJ10y_H1 rC xd xe xe) 1005 := by
  exact runs_of_x hG hM 400 [.no] (J e1 trivial) (by kernel_rfl)
theorem qCJ10y_runs (rC : List Man) (xd : RPic × Bool × Bool) (xe : RPic) : Runs Try.prog 244 (bodyOf Try.f58 [1, 1, 1, 1, 0, 1, 0, 0, 1]) (qCJ10y_T rC xd xe) (qCJ10y_H rC xd xe) 1005 .normal (qCJ10y_T1 rC xd xe (qCJ10y rC xd xe)) (qCJ10y_H1 rC xd xe (qCJ10y rC xd xe)) 1005 := by
  rcases bt (qCJ9y rC xd) with e1 | e1
  ·
    rw [show qCJ10y rC xd xe = ({ xe with S := (rRight xe.S) } : RPic) from by unfold qCJ10y; rw [if_pos e1]]
    exact qCJ10y_p1 rC xd xe e1
  ·
    rw [show qCJ10y rC xd xe = xe from by unfold qCJ10y; rw [if_neg (nt e1)]]
    exact qCJ10y_p2 rC xd xe e1
def qCJ11y (rC : List Man) (xd : RPic × Bool × Bool) (xe : RPic × Bool) : RPic :=
  if xe.2 = true then
    ({ xe.1 with S := (rDown xe.1.S) } : RPic)
  else
    xe.1
def qCJ11y_T (rC : List Man) (xd : RPic × Bool × Bool) (xe : RPic × Bool) : Tm := [(0, pt 1000), (2, .bool xd.2.1), (127, .bool xe.2)]
def qCJ11y_H (rC : List Man) (xd : RPic × Bool × Bool) (xe : RPic × Bool) : Heap := [(1000, (RPic.bl xe.1 (sl 1001 16384 1) (sl 1002 256 1) (sl 1004 (List.length rC) 4) (sl 1003 61440 1) false))]
def qCJ11y_T1 (rC : List Man) (xd : RPic × Bool × Bool) (xe : RPic × Bool) (r_ : RPic) : Tm := [(0, pt 1000), (2, .bool xd.2.1)]
def qCJ11y_H1 (rC : List Man) (xd : RPic × Bool × Bool) (xe : RPic × Bool) (r_ : RPic) : Heap := [(1000, (RPic.bl r_ (sl 1001 16384 1) (sl 1002 256 1) (sl 1004 (List.length rC) 4) (sl 1003 61440 1) false))]
theorem qCJ11y_p1 (rC : List Man) (xd : RPic × Bool × Bool) (xe : RPic × Bool) (e1 : xe.2 = true) : Runs Try.prog 244 (bodyOf Try.f58 [1, 1, 1, 1, 0, 1, 0, 1, 0, 1]) (qCJ11y_T rC xd xe) (qCJ11y_H rC xd xe) 1005 .normal (qCJ11y_T1 rC xd xe ({ xe.1 with S := (rDown xe.1.S) } : RPic)) (qCJ11y_H1 rC xd xe ({ xe.1 with S := (rDown xe.1.S) } : RPic)) 1005 := by
  exact runs_of_x hG hM 400 [.yes, .call [] [] 1000 (RScroll.enc (rDown xe.1.S)) []] (J e1 (J (rDown_ok xe.1.S) trivial)) (by kernel_rfl)
theorem qCJ11y_p2 (rC : List Man) (xd : RPic × Bool × Bool) (xe : RPic × Bool) (e1 : xe.2 = false) : Runs Try.prog 244 (bodyOf Try.f58 [1, 1, 1, 1, 0, 1, 0, 1, 0, 1]) (qCJ11y_T rC xd xe) (qCJ11y_H rC xd xe) 1005 .normal (qCJ11y_T1 rC xd xe xe.1) (qCJ11y_H1 rC xd xe xe.1) 1005 := by
  exact runs_of_x hG hM 400 [.no] (J e1 trivial) (by kernel_rfl)
theorem qCJ11y_runs (rC : List Man) (xd : RPic × Bool × Bool) (xe : RPic × Bool) : Runs Try.prog 244 (bodyOf Try.f58 [1, 1, 1, 1, 0, 1, 0, 1, 0, 1]) (qCJ11y_T rC xd xe) (qCJ11y_H rC xd xe) 1005 .normal (qCJ11y_T1 rC xd xe (qCJ11y rC xd xe)) (qCJ11y_H1 rC xd xe (qCJ11y rC xd xe)) 1005 := by
  rcases bt xe.2 with e1 | e1
  ·
    rw [show qCJ11y rC xd xe = ({ xe.1 with S := (rDown xe.1.S) } : RPic) from by unfold qCJ11y; rw [if_pos e1]]
    exact qCJ11y_p1 rC xd xe e1
  ·
    rw [show qCJ11y rC xd xe = xe.1 from by unfold qCJ11y; rw [if_neg (nt e1)]]
    exact qCJ11y_p2 rC xd xe e1
def qCJ12y (rC : List Man) (xd : RPic × Bool × Bool) (xe : RPic × Bool) : RPic :=
  if xe.2 = true then
    ({ xe.1 with S := (rLine xe.1.S) } : RPic)
  else
    xe.1
def qCJ12y_T (rC : List Man) (xd : RPic × Bool × Bool) (xe : RPic × Bool) : Tm := [(0, pt 1000), (2, .bool xd.2.1), (140, .bool xe.2)]
def qCJ12y_H (rC : List Man) (xd : RPic × Bool × Bool) (xe : RPic × Bool) : Heap := [(1000, (RPic.bl xe.1 (sl 1001 16384 1) (sl 1002 256 1) (sl 1004 (List.length rC) 4) (sl 1003 61440 1) false))]
def qCJ12y_T1 (rC : List Man) (xd : RPic × Bool × Bool) (xe : RPic × Bool) (r_ : RPic) : Tm := [(0, pt 1000), (2, .bool xd.2.1)]
def qCJ12y_H1 (rC : List Man) (xd : RPic × Bool × Bool) (xe : RPic × Bool) (r_ : RPic) : Heap := [(1000, (RPic.bl r_ (sl 1001 16384 1) (sl 1002 256 1) (sl 1004 (List.length rC) 4) (sl 1003 61440 1) false))]
theorem qCJ12y_p1 (rC : List Man) (xd : RPic × Bool × Bool) (xe : RPic × Bool) (e1 : xe.2 = true) : Runs Try.prog 244 (bodyOf Try.f58 [1, 1, 1, 1, 0, 1, 0, 1, 1, 0, 1]) (qCJ12y_T rC xd xe) (qCJ12y_H rC xd xe) 1005 .normal (qCJ12y_T1 rC xd xe ({ xe.1 with S := (rLine xe.1.S) } : RPic)) (qCJ12y_H1 rC xd xe ({ xe.1 with S := (rLine xe.1.S) } : RPic)) 1005 := by
  exact runs_of_x hG hM 400 [.yes, .call [] [] 1000 (RScroll.enc (rLine xe.1.S)) []] (J e1 (J (rLine_ok xe.1.S) trivial)) (by kernel_rfl)
theorem qCJ12y_p2 (rC : List Man) (xd : RPic × Bool × Bool) (xe : RPic × Bool) (e1 : xe.2 = false) : Runs Try.prog 244 (bodyOf Try.f58 [1, 1, 1, 1, 0, 1, 0, 1, 1, 0, 1]) (qCJ12y_T rC xd xe) (qCJ12y_H rC xd xe) 1005 .normal (qCJ12y_T1 rC xd xe xe.1) (qCJ12y_H1 rC xd xe xe.1) 1005 := by
  exact runs_of_x hG hM 400 [.no] (J e1 trivial) (by kernel_rfl)
theorem qCJ12y_runs (rC : List Man) (xd : RPic × Bool × Bool) (xe : RPic × Bool) : Runs Try.prog 244 (bodyOf Try.f58 [1, 1, 1, 1, 0, 1, 0, 1, 1, 0, 1]) (qCJ12y_T rC xd xe) (qCJ12y_H rC xd xe) 1005 .normal (qCJ12y_T1 rC xd xe (qCJ12y rC xd xe)) (qCJ12y_H1 rC xd xe (qCJ12y rC xd xe)) 1005 := by
  rcases bt xe.2 with e1 | e1
  ·
    rw [show qCJ12y rC xd xe = ({ xe.1 with S := (rLine xe.1.S) } : RPic) from by unfold qCJ12y; rw [if_pos e1]]
    exact qCJ12y_p1 rC xd xe e1
  ·
    rw [show qCJ12y rC xd xe = xe.1 from by unfold qCJ12y; rw [if_neg (nt e1)]]
    exact qCJ12y_p2 rC xd xe e1
def qCJ13y (rC : List Man) (xd : RPic × Bool × Bool) : Bool :=
  if (((qCJ12y rC xd ((qCJ11y rC xd ((qCJ10y rC xd xd.1), (((qCJ10y rC xd xd.1).Dot : Int) == 256))), (((qCJ11y rC xd ((qCJ10y rC xd xd.1), (((qCJ10y rC xd xd.1).Dot : Int) == 256))).Dot : Int) == 257))).Line : Int) == 261) = true then
    if (decide (((qCJ12y rC xd ((qCJ11y rC xd ((qCJ10y rC xd xd.1), (((qCJ10y rC xd xd.1).Dot : Int) == 256))), (((qCJ11y rC xd ((qCJ10y rC xd xd.1), (((qCJ10y rC xd xd.1).Dot : Int) == 256))).Dot : Int) == 257))).Dot : Int) > 279)) = true then
      (decide (((qCJ12y rC xd ((qCJ11y rC xd ((qCJ10y rC xd xd.1), (((qCJ10y rC xd xd.1).Dot : Int) == 256))), (((qCJ11y rC xd ((qCJ10y rC xd xd.1), (((qCJ10y rC xd xd.1).Dot : Int) == 256))).Dot : Int) == 257))).Dot : Int) < 305))
    else
      false
  else
    false
def qCJ13y_T (rC : List Man) (xd : RPic × Bool × Bool) : Tm := [(0, pt 1000), (2, .bool xd.2.1)]
def qCJ13y_H (rC : List Man) (xd : RPic × Bool × Bool) : Heap := [(1000, (RPic.bl (qCJ12y rC xd ((qCJ11y rC xd ((qCJ10y rC xd xd.1), (((qCJ10y rC xd xd.1).Dot : Int) == 256))), (((qCJ11y rC xd ((qCJ10y rC xd xd.1), (((qCJ10y rC xd xd.1).Dot : Int) == 256))).Dot : Int) == 257))) (sl 1001 16384 1) (sl 1002 256 1) (sl 1004 (List.length rC) 4) (sl 1003 61440 1) false))]
def qCJ13y_T1 (rC : List Man) (xd : RPic × Bool × Bool) (r_ : Bool) : Tm := [(0, pt 1000), (2, .bool xd.2.1), (167, .bool r_)]
def qCJ13y_H1 (rC : List Man) (xd : RPic × Bool × Bool) (r_ : Bool) : Heap := [(1000, (RPic.bl (qCJ12y rC xd ((qCJ11y rC xd ((qCJ10y rC xd xd.1), (((qCJ10y rC xd xd.1).Dot : Int) == 256))), (((qCJ11y rC xd ((qCJ10y rC xd xd.1), (((qCJ10y rC xd xd.1).Dot : Int) == 256))).Dot : Int) == 257))) (sl 1001 16384 1) (sl 1002 256 1) (sl 1004 (List.length rC) 4) (sl 1003 61440 1) false))]
theorem qCJ13y_p1 (rC : List Man) (xd : RPic × Bool × Bool) (e1 : (((qCJ12y rC xd ((qCJ11y rC xd ((qCJ10y rC xd xd.1), (((qCJ10y rC xd xd.1).Dot : Int) == 256))), (((qCJ11y rC xd ((qCJ10y rC xd xd.1), (((qCJ10y rC xd xd.1).Dot : Int) == 256))).Dot : Int) == 257))).Line : Int) == 261) = true) (e2 : (decide (((qCJ12y rC xd ((qCJ11y rC xd ((qCJ10y rC xd xd.1), (((qCJ10y rC xd xd.1).Dot : Int) == 256))), (((qCJ11y rC xd ((qCJ10y rC xd xd.1), (((qCJ10y rC xd xd.1).Dot : Int) == 256))).Dot : Int) == 257))).Dot : Int) > 279)) = true) : Runs Try.prog 244 (bodyOf Try.f58 [1, 1, 1, 1, 0, 1, 0, 1, 1, 1, 0]) (qCJ13y_T rC xd) (qCJ13y_H rC xd) 1005 .normal (qCJ13y_T1 rC xd (decide (((qCJ12y rC xd ((qCJ11y rC xd ((qCJ10y rC xd xd.1), (((qCJ10y rC xd xd.1).Dot : Int) == 256))), (((qCJ11y rC xd ((qCJ10y rC xd xd.1), (((qCJ10y rC xd xd.1).Dot : Int) == 256))).Dot : Int) == 257))).Dot : Int) < 305))) (qCJ13y_H1 rC xd (decide (((qCJ12y rC xd ((qCJ11y rC xd ((qCJ10y rC xd xd.1), (((qCJ10y rC xd xd.1).Dot : Int) == 256))), (((qCJ11y rC xd ((qCJ10y rC xd xd.1), (((qCJ10y rC xd xd.1).Dot : Int) == 256))).Dot : Int) == 257))).Dot : Int) < 305))) 1005 := by
  exact runs_of_x hG hM 400 [.yes, .yes, .yes, .yes, .yes, .yes, .yes, .yes, .yes, .yes, .yes, .yes] (J e1 (J e1 (J e1 (J e1 (J e1 (J e1 (J e2 (J e2 (J e2 (J e2 (J e2 (J e2 trivial)))))))))))) (by kernel_rfl)
theorem qCJ13y_p2 (rC : List Man) (xd : RPic × Bool × Bool) (e1 : (((qCJ12y rC xd ((qCJ11y rC xd ((qCJ10y rC xd xd.1), (((qCJ10y rC xd xd.1).Dot : Int) == 256))), (((qCJ11y rC xd ((qCJ10y rC xd xd.1), (((qCJ10y rC xd xd.1).Dot : Int) == 256))).Dot : Int) == 257))).Line : Int) == 261) = true) (e2 : (decide (((qCJ12y rC xd ((qCJ11y rC xd ((qCJ10y rC xd xd.1), (((qCJ10y rC xd xd.1).Dot : Int) == 256))), (((qCJ11y rC xd ((qCJ10y rC xd xd.1), (((qCJ10y rC xd xd.1).Dot : Int) == 256))).Dot : Int) == 257))).Dot : Int) > 279)) = false) : Runs Try.prog 244 (bodyOf Try.f58 [1, 1, 1, 1, 0, 1, 0, 1, 1, 1, 0]) (qCJ13y_T rC xd) (qCJ13y_H rC xd) 1005 .normal (qCJ13y_T1 rC xd false) (qCJ13y_H1 rC xd false) 1005 := by
  exact runs_of_x hG hM 400 [.yes, .yes, .yes, .yes, .yes, .yes, .no, .no, .no, .no, .no, .no] (J e1 (J e1 (J e1 (J e1 (J e1 (J e1 (J e2 (J e2 (J e2 (J e2 (J e2 (J e2 trivial)))))))))))) (by kernel_rfl)
theorem qCJ13y_p3 (rC : List Man) (xd : RPic × Bool × Bool) (e1 : (((qCJ12y rC xd ((qCJ11y rC xd ((qCJ10y rC xd xd.1), (((qCJ10y rC xd xd.1).Dot : Int) == 256))), (((qCJ11y rC xd ((qCJ10y rC xd xd.1), (((qCJ10y rC xd xd.1).Dot : Int) == 256))).Dot : Int) == 257))).Line : Int) == 261) = false) : Runs Try.prog 244 (bodyOf Try.f58 [1, 1, 1, 1, 0, 1, 0, 1, 1, 1, 0]) (qCJ13y_T rC xd) (qCJ13y_H rC xd) 1005 .normal (qCJ13y_T1 rC xd false) (qCJ13y_H1 rC xd false) 1005 := by
  exact runs_of_x hG hM 400 [.no, .no, .no, .no, .no, .no, .no, .no, .no, .no, .no, .no] (J e1 (J e1 (J e1 (J e1 (J e1 (J e1 (J T0 (J T0 (J T0 (J T0 (J T0 (J T0 trivial)))))))))))) (by kernel_rfl)
abbrev NIk7 (rC : List Man) (xd : RPic × Bool × Bool) := ((qCJ10y rC xd xd.1), (((qCJ10y rC xd xd.1).Dot : Int) == 256))
abbrev NIk2 (rC : List Man) (xd : RPic × Bool × Bool) := ((qCJ11y rC xd (NIk7 rC xd)), (((qCJ11y rC xd (NIk7 rC xd)).Dot : Int) == 257))
theorem qCJ13y_runs (rC : List Man) (xd : RPic × Bool × Bool) : Runs Try.prog 244 (bodyOf Try.f58 [1, 1, 1, 1, 0, 1, 0, 1, 1, 1, 0]) (qCJ13y_T rC xd) (qCJ13y_H rC xd) 1005 .normal (qCJ13y_T1 rC xd (qCJ13y rC xd)) (qCJ13y_H1 rC xd (qCJ13y rC xd)) 1005 := by
  rcases bt (((qCJ12y rC xd (NIk2 rC xd)).Line : Int) == 261) with e1 | e1
  ·
    rcases bt (decide (((qCJ12y rC xd (NIk2 rC xd)).Dot : Int) > 279)) with e2 | e2
    ·
      rw [show qCJ13y rC xd = (decide (((qCJ12y rC xd (NIk2 rC xd)).Dot : Int) < 305)) from by unfold qCJ13y; rw [if_pos e1, if_pos e2]]
      exact qCJ13y_p1 rC xd e1 e2
    ·
      rw [show qCJ13y rC xd = false from by unfold qCJ13y; rw [if_pos e1, if_neg (nt e2)]]
      exact qCJ13y_p2 rC xd e1 e2
  ·
    rw [show qCJ13y rC xd = false from by unfold qCJ13y; rw [if_neg (nt e1)]]
    exact qCJ13y_p3 rC xd e1
def qCJ14y (rC : List Man) (xd : RPic × Bool × Bool) (xe : RPic) : RPic :=
  if (qCJ13y rC xd) = true then
    ({ xe with S := (rTop xe.S) } : RPic)
  else
    xe
def qCJ14y_T (rC : List Man) (xd : RPic × Bool × Bool) (xe : RPic) : Tm := [(0, pt 1000), (2, .bool xd.2.1), (167, .bool (qCJ13y rC xd))]
def qCJ14y_H (rC : List Man) (xd : RPic × Bool × Bool) (xe : RPic) : Heap := [(1000, (RPic.bl xe (sl 1001 16384 1) (sl 1002 256 1) (sl 1004 (List.length rC) 4) (sl 1003 61440 1) false))]
def qCJ14y_T1 (rC : List Man) (xd : RPic × Bool × Bool) (xe : RPic) (r_ : RPic) : Tm := [(0, pt 1000), (2, .bool xd.2.1)]
def qCJ14y_H1 (rC : List Man) (xd : RPic × Bool × Bool) (xe : RPic) (r_ : RPic) : Heap := [(1000, (RPic.bl r_ (sl 1001 16384 1) (sl 1002 256 1) (sl 1004 (List.length rC) 4) (sl 1003 61440 1) false))]
theorem qCJ14y_p1 (rC : List Man) (xd : RPic × Bool × Bool) (xe : RPic) (e1 : (qCJ13y rC xd) = true) : Runs Try.prog 244 (bodyOf Try.f58 [1, 1, 1, 1, 0, 1, 0, 1, 1, 1, 1]) (qCJ14y_T rC xd xe) (qCJ14y_H rC xd xe) 1005 .normal (qCJ14y_T1 rC xd xe ({ xe with S := (rTop xe.S) } : RPic)) (qCJ14y_H1 rC xd xe ({ xe with S := (rTop xe.S) } : RPic)) 1005 := by
  exact runs_of_x hG hM 400 [.yes, .call [] [] 1000 (RScroll.enc (rTop xe.S)) []] (J e1 (J (rTop_ok xe.S) trivial)) (by kernel_rfl)
theorem qCJ14y_p2 (rC : List Man) (xd : RPic × Bool × Bool) (xe : RPic) (e1 : (qCJ13y rC xd) = false) : Runs Try.prog 244 (bodyOf Try.f58 [1, 1, 1, 1, 0, 1, 0, 1, 1, 1, 1]) (qCJ14y_T rC xd xe) (qCJ14y_H rC xd xe) 1005 .normal (qCJ14y_T1 rC xd xe xe) (qCJ14y_H1 rC xd xe xe) 1005 := by
  exact runs_of_x hG hM 400 [.no] (J e1 trivial) (by kernel_rfl)
theorem qCJ14y_runs (rC : List Man) (xd : RPic × Bool × Bool) (xe : RPic) : Runs Try.prog 244 (bodyOf Try.f58 [1, 1, 1, 1, 0, 1, 0, 1, 1, 1, 1]) (qCJ14y_T rC xd xe) (qCJ14y_H rC xd xe) 1005 .normal (qCJ14y_T1 rC xd xe (qCJ14y rC xd xe)) (qCJ14y_H1 rC xd xe (qCJ14y rC xd xe)) 1005 := by
  rcases bt (qCJ13y rC xd) with e1 | e1
  ·
    rw [show qCJ14y rC xd xe = ({ xe with S := (rTop xe.S) } : RPic) from by unfold qCJ14y; rw [if_pos e1]]
    exact qCJ14y_p1 rC xd xe e1
  ·
    rw [show qCJ14y rC xd xe = xe from by unfold qCJ14y; rw [if_neg (nt e1)]]
    exact qCJ14y_p2 rC xd xe e1
def qCJ8 (rC : List Man) (xd : RPic × Bool × Bool) : RPic :=
  if xd.2.2 = true then
    (qCJ14y rC xd (qCJ12y rC xd ((qCJ11y rC xd ((qCJ10y rC xd xd.1), (((qCJ10y rC xd xd.1).Dot : Int) == 256))), (((qCJ11y rC xd ((qCJ10y rC xd xd.1), (((qCJ10y rC xd xd.1).Dot : Int) == 256))).Dot : Int) == 257))))
  else
    xd.1
def qCJ8_T (rC : List Man) (xd : RPic × Bool × Bool) : Tm := [(0, pt 1000), (2, .bool xd.2.1), (94, .bool xd.2.2)]
def qCJ8_H (rC : List Man) (xd : RPic × Bool × Bool) : Heap := [(1000, (RPic.bl xd.1 (sl 1001 16384 1) (sl 1002 256 1) (sl 1004 (List.length rC) 4) (sl 1003 61440 1) false))]
def qCJ8_T1 (rC : List Man) (xd : RPic × Bool × Bool) (r_ : RPic) : Tm := [(0, pt 1000), (2, .bool xd.2.1)]
def qCJ8_H1 (rC : List Man) (xd : RPic × Bool × Bool) (r_ : RPic) : Heap := [(1000, (RPic.bl r_ (sl 1001 16384 1) (sl 1002 256 1) (sl 1004 (List.length rC) 4) (sl 1003 61440 1) false))]
theorem qCJ8_p1 (rC : List Man) (xd : RPic × Bool × Bool) (d1 : xd.2.2 = true) : Runs Try.prog 244 (bodyOf Try.f58 [1, 1, 1, 1, 0, 1]) (qCJ8_T rC xd) (qCJ8_H rC xd) 1005 .normal (qCJ8_T1 rC xd (qCJ14y rC xd (qCJ12y rC xd ((qCJ11y rC xd ((qCJ10y rC xd xd.1), (((qCJ10y rC xd xd.1).Dot : Int) == 256))), (((qCJ11y rC xd ((qCJ10y rC xd xd.1), (((qCJ10y rC xd xd.1).Dot : Int) == 256))).Dot : Int) == 257))))) (qCJ8_H1 rC xd (qCJ14y rC xd (qCJ12y rC xd ((qCJ11y rC xd ((qCJ10y rC xd xd.1), (((qCJ10y rC xd xd.1).Dot : Int) == 256))), (((qCJ11y rC xd ((qCJ10y rC xd xd.1), (((qCJ10y rC xd xd.1).Dot : Int) == 256))).Dot : Int) == 257))))) 1005 := by
  exact runs_of_x hG hM 400 [.yes, .segk 0 9 [0, 2] [1000] .normal (qCJ9y_T1 rC xd (qCJ9y rC xd)) (qCJ9y_H1 rC xd (qCJ9y rC xd)) 1005, .segk 2 0 [0, 2, 114] [1000] .normal (qCJ10y_T1 rC xd xd.1 (qCJ10y rC xd xd.1)) (qCJ10y_H1 rC xd xd.1 (qCJ10y rC xd xd.1)) 1005, .segk 2 0 [0, 2, 127] [1000] .normal (qCJ11y_T1 rC xd (NIk7 rC xd) (qCJ11y rC xd (NIk7 rC xd))) (qCJ11y_H1 rC xd (NIk7 rC xd) (qCJ11y rC xd (NIk7 rC xd))) 1005, .segk 2 0 [0, 2, 140] [1000] .normal (qCJ12y_T1 rC xd (NIk2 rC xd) (qCJ12y rC xd (NIk2 rC xd))) (qCJ12y_H1 rC xd (NIk2 rC xd) (qCJ12y rC xd (NIk2 rC xd))) 1005, .segk 0 15 [0, 2] [1000] .normal (qCJ13y_T1 rC xd (qCJ13y rC xd)) (qCJ13y_H1 rC xd (qCJ13y rC xd)) 1005, .segk 2 0 [0, 2, 167] [1000] .normal (qCJ14y_T1 rC xd (qCJ12y rC xd (NIk2 rC xd)) (qCJ14y rC xd (qCJ12y rC xd (NIk2 rC xd)))) (qCJ14y_H1 rC xd (qCJ12y rC xd (NIk2 rC xd)) (qCJ14y rC xd (qCJ12y rC xd (NIk2 rC xd)))) 1005] (J d1 (J (qCJ9y_runs rC xd) (J (qCJ10y_runs rC xd xd.1) (J (qCJ11y_runs rC xd (NIk7 rC xd)) (J (qCJ12y_runs rC xd (NIk2 rC xd)) (J (qCJ13y_runs rC xd) (J (qCJ14y_runs rC xd (qCJ12y rC xd (NIk2 rC xd))) trivial))))))) (by kernel_rfl)
theorem qCJ8_p2 (rC : List Man) (xd : RPic × Bool × Bool) (d1 : xd.2.2 = false) : Runs Try.prog 244 (bodyOf Try.f58 [1, 1, 1, 1, 0, 1]) (qCJ8_T rC xd) (qCJ8_H rC xd) 1005 .normal (qCJ8_T1 rC xd xd.1) (qCJ8_H1 rC xd xd.1) 1005 := by
  exact runs_of_x hG hM 400 [.no] (J d1 trivial) (by kernel_rfl)
theorem qCJ8_runs (rC : List Man) (xd : RPic × Bool × Bool) : Runs Try.prog 244 (bodyOf Try.f58 [1, 1, 1, 1, 0, 1]) (qCJ8_T rC xd) (qCJ8_H rC xd) 1005 .normal (qCJ8_T1 rC xd (qCJ8 rC xd)) (qCJ8_H1 rC xd (qCJ8 rC xd)) 1005 := by
  rcases bt xd.2.2 with d1 | d1
  ·
    rw [show qCJ8 rC xd = (qCJ14y rC xd (qCJ12y rC xd (NIk2 rC xd))) from by unfold qCJ8; rw [if_pos d1]]
    exact qCJ8_p1 rC xd d1
  ·
    rw [show qCJ8 rC xd = xd.1 from by unfold qCJ8; rw [if_neg (nt d1)]]
    exact qCJ8_p2 rC xd d1
def qCJ15y (r : RPic) (rM : Nat → Int) (rN : Nat → Int) (rS : Nat → Int) (rC : List Man) : Bool :=
  if ((((rChooseF (qCJ8 rC ((qCJ6 r rM rN rC ((qCJ4 r rC (qCJ2 r rC r)), rS)).1, (decide ((Int.tmod (i64.wrap (Int.tdiv (((qCJ6 r rM rN rC ((qCJ4 r rC (qCJ2 r rC r)), rS)).1).Mask) 8)) 4) > 0)), (qCJ7 r rM rN rS rC (decide ((Int.tmod (i64.wrap (Int.tdiv (((qCJ6 r rM rN rC ((qCJ4 r rC (qCJ2 r rC r)), rS)).1).Mask) 8)) 4) > 0))))) rM rN ((qCJ6 r rM rN rC ((qCJ4 r rC (qCJ2 r rC r)), rS)).2) rC).1).Line : Int) == 261) = true then
    if (((Int.tmod (((rChooseF (qCJ8 rC ((qCJ6 r rM rN rC ((qCJ4 r rC (qCJ2 r rC r)), rS)).1, (decide ((Int.tmod (i64.wrap (Int.tdiv (((qCJ6 r rM rN rC ((qCJ4 r rC (qCJ2 r rC r)), rS)).1).Mask) 8)) 4) > 0)), (qCJ7 r rM rN rS rC (decide ((Int.tmod (i64.wrap (Int.tdiv (((qCJ6 r rM rN rC ((qCJ4 r rC (qCJ2 r rC r)), rS)).1).Mask) 8)) 4) > 0))))) rM rN ((qCJ6 r rM rN rC ((qCJ4 r rC (qCJ2 r rC r)), rS)).2) rC).1).Begun) 2) : Int) == 0) = true then
      if (decide ((Int.tmod (i64.wrap (Int.tdiv (((qCJ6 r rM rN rC ((qCJ4 r rC (qCJ2 r rC r)), rS)).1).Mask) 8)) 4) > 0)) = true then
        ((((rChooseF (qCJ8 rC ((qCJ6 r rM rN rC ((qCJ4 r rC (qCJ2 r rC r)), rS)).1, (decide ((Int.tmod (i64.wrap (Int.tdiv (((qCJ6 r rM rN rC ((qCJ4 r rC (qCJ2 r rC r)), rS)).1).Mask) 8)) 4) > 0)), (qCJ7 r rM rN rS rC (decide ((Int.tmod (i64.wrap (Int.tdiv (((qCJ6 r rM rN rC ((qCJ4 r rC (qCJ2 r rC r)), rS)).1).Mask) 8)) 4) > 0))))) rM rN ((qCJ6 r rM rN rC ((qCJ4 r rC (qCJ2 r rC r)), rS)).2) rC).1).Dot : Int) == 339)
      else
        false
    else
      false
  else
    false
def qCJ15y_T (r : RPic) (rM : Nat → Int) (rN : Nat → Int) (rS : Nat → Int) (rC : List Man) : Tm := [(0, pt 1000), (2, .bool (decide ((Int.tmod (i64.wrap (Int.tdiv (((qCJ6 r rM rN rC ((qCJ4 r rC (qCJ2 r rC r)), rS)).1).Mask) 8)) 4) > 0))), (3, .int .i64 340)]
def qCJ15y_H (r : RPic) (rM : Nat → Int) (rN : Nat → Int) (rS : Nat → Int) (rC : List Man) : Heap := [(1000, (RPic.bl ((rChooseF (qCJ8 rC ((qCJ6 r rM rN rC ((qCJ4 r rC (qCJ2 r rC r)), rS)).1, (decide ((Int.tmod (i64.wrap (Int.tdiv (((qCJ6 r rM rN rC ((qCJ4 r rC (qCJ2 r rC r)), rS)).1).Mask) 8)) 4) > 0)), (qCJ7 r rM rN rS rC (decide ((Int.tmod (i64.wrap (Int.tdiv (((qCJ6 r rM rN rC ((qCJ4 r rC (qCJ2 r rC r)), rS)).1).Mask) 8)) 4) > 0))))) rM rN ((qCJ6 r rM rN rC ((qCJ4 r rC (qCJ2 r rC r)), rS)).2) rC).1) (sl 1001 16384 1) (sl 1002 256 1) (sl 1005 (List.length ((rChooseF (qCJ8 rC ((qCJ6 r rM rN rC ((qCJ4 r rC (qCJ2 r rC r)), rS)).1, (decide ((Int.tmod (i64.wrap (Int.tdiv (((qCJ6 r rM rN rC ((qCJ4 r rC (qCJ2 r rC r)), rS)).1).Mask) 8)) 4) > 0)), (qCJ7 r rM rN rS rC (decide ((Int.tmod (i64.wrap (Int.tdiv (((qCJ6 r rM rN rC ((qCJ4 r rC (qCJ2 r rC r)), rS)).1).Mask) 8)) 4) > 0))))) rM rN ((qCJ6 r rM rN rC ((qCJ4 r rC (qCJ2 r rC r)), rS)).2) rC).2)) 4) (sl 1003 61440 1) false))]
def qCJ15y_T1 (r : RPic) (rM : Nat → Int) (rN : Nat → Int) (rS : Nat → Int) (rC : List Man) (r_ : Bool) : Tm := [(0, pt 1000), (3, .int .i64 340), (205, .bool r_)]
def qCJ15y_H1 (r : RPic) (rM : Nat → Int) (rN : Nat → Int) (rS : Nat → Int) (rC : List Man) (r_ : Bool) : Heap := [(1000, (RPic.bl ((rChooseF (qCJ8 rC ((qCJ6 r rM rN rC ((qCJ4 r rC (qCJ2 r rC r)), rS)).1, (decide ((Int.tmod (i64.wrap (Int.tdiv (((qCJ6 r rM rN rC ((qCJ4 r rC (qCJ2 r rC r)), rS)).1).Mask) 8)) 4) > 0)), (qCJ7 r rM rN rS rC (decide ((Int.tmod (i64.wrap (Int.tdiv (((qCJ6 r rM rN rC ((qCJ4 r rC (qCJ2 r rC r)), rS)).1).Mask) 8)) 4) > 0))))) rM rN ((qCJ6 r rM rN rC ((qCJ4 r rC (qCJ2 r rC r)), rS)).2) rC).1) (sl 1001 16384 1) (sl 1002 256 1) (sl 1005 (List.length ((rChooseF (qCJ8 rC ((qCJ6 r rM rN rC ((qCJ4 r rC (qCJ2 r rC r)), rS)).1, (decide ((Int.tmod (i64.wrap (Int.tdiv (((qCJ6 r rM rN rC ((qCJ4 r rC (qCJ2 r rC r)), rS)).1).Mask) 8)) 4) > 0)), (qCJ7 r rM rN rS rC (decide ((Int.tmod (i64.wrap (Int.tdiv (((qCJ6 r rM rN rC ((qCJ4 r rC (qCJ2 r rC r)), rS)).1).Mask) 8)) 4) > 0))))) rM rN ((qCJ6 r rM rN rC ((qCJ4 r rC (qCJ2 r rC r)), rS)).2) rC).2)) 4) (sl 1003 61440 1) false))]
theorem qCJ15y_p1 (r : RPic) (rM : Nat → Int) (rN : Nat → Int) (rS : Nat → Int) (rC : List Man) (d1 : ((((rChooseF (qCJ8 rC ((qCJ6 r rM rN rC ((qCJ4 r rC (qCJ2 r rC r)), rS)).1, (decide ((Int.tmod (i64.wrap (Int.tdiv (((qCJ6 r rM rN rC ((qCJ4 r rC (qCJ2 r rC r)), rS)).1).Mask) 8)) 4) > 0)), (qCJ7 r rM rN rS rC (decide ((Int.tmod (i64.wrap (Int.tdiv (((qCJ6 r rM rN rC ((qCJ4 r rC (qCJ2 r rC r)), rS)).1).Mask) 8)) 4) > 0))))) rM rN ((qCJ6 r rM rN rC ((qCJ4 r rC (qCJ2 r rC r)), rS)).2) rC).1).Line : Int) == 261) = true) (d2 : (((Int.tmod (((rChooseF (qCJ8 rC ((qCJ6 r rM rN rC ((qCJ4 r rC (qCJ2 r rC r)), rS)).1, (decide ((Int.tmod (i64.wrap (Int.tdiv (((qCJ6 r rM rN rC ((qCJ4 r rC (qCJ2 r rC r)), rS)).1).Mask) 8)) 4) > 0)), (qCJ7 r rM rN rS rC (decide ((Int.tmod (i64.wrap (Int.tdiv (((qCJ6 r rM rN rC ((qCJ4 r rC (qCJ2 r rC r)), rS)).1).Mask) 8)) 4) > 0))))) rM rN ((qCJ6 r rM rN rC ((qCJ4 r rC (qCJ2 r rC r)), rS)).2) rC).1).Begun) 2) : Int) == 0) = true) (d3 : (decide ((Int.tmod (i64.wrap (Int.tdiv (((qCJ6 r rM rN rC ((qCJ4 r rC (qCJ2 r rC r)), rS)).1).Mask) 8)) 4) > 0)) = true) : Runs Try.prog 244 (bodyOf Try.f58 [1, 1, 1, 1, 1, 1, 1, 0, 0]) (qCJ15y_T r rM rN rS rC) (qCJ15y_H r rM rN rS rC) 1006 .normal (qCJ15y_T1 r rM rN rS rC ((((rChooseF (qCJ8 rC ((qCJ6 r rM rN rC ((qCJ4 r rC (qCJ2 r rC r)), rS)).1, (decide ((Int.tmod (i64.wrap (Int.tdiv (((qCJ6 r rM rN rC ((qCJ4 r rC (qCJ2 r rC r)), rS)).1).Mask) 8)) 4) > 0)), (qCJ7 r rM rN rS rC (decide ((Int.tmod (i64.wrap (Int.tdiv (((qCJ6 r rM rN rC ((qCJ4 r rC (qCJ2 r rC r)), rS)).1).Mask) 8)) 4) > 0))))) rM rN ((qCJ6 r rM rN rC ((qCJ4 r rC (qCJ2 r rC r)), rS)).2) rC).1).Dot : Int) == 339)) (qCJ15y_H1 r rM rN rS rC ((((rChooseF (qCJ8 rC ((qCJ6 r rM rN rC ((qCJ4 r rC (qCJ2 r rC r)), rS)).1, (decide ((Int.tmod (i64.wrap (Int.tdiv (((qCJ6 r rM rN rC ((qCJ4 r rC (qCJ2 r rC r)), rS)).1).Mask) 8)) 4) > 0)), (qCJ7 r rM rN rS rC (decide ((Int.tmod (i64.wrap (Int.tdiv (((qCJ6 r rM rN rC ((qCJ4 r rC (qCJ2 r rC r)), rS)).1).Mask) 8)) 4) > 0))))) rM rN ((qCJ6 r rM rN rC ((qCJ4 r rC (qCJ2 r rC r)), rS)).2) rC).1).Dot : Int) == 339)) 1006 := by
  exact runs_of_x hG hM 400 [.yes, .yes, .yes, .yes, .yes, .yes, .yes, .yes, .yes, .yes, .yes, .yes, .yes, .yes, .yes] (J d1 (J d1 (J d1 (J d1 (J d1 (J (by decide : ((2 : Int) ≠ 0)) (J d1 (J d1 (J d2 (J d2 (J d3 (J d3 (J d3 (J d3 (J d3 (J d3 trivial)))))))))))))))) (by kernel_rfl)
theorem qCJ15y_p2 (r : RPic) (rM : Nat → Int) (rN : Nat → Int) (rS : Nat → Int) (rC : List Man) (d1 : ((((rChooseF (qCJ8 rC ((qCJ6 r rM rN rC ((qCJ4 r rC (qCJ2 r rC r)), rS)).1, (decide ((Int.tmod (i64.wrap (Int.tdiv (((qCJ6 r rM rN rC ((qCJ4 r rC (qCJ2 r rC r)), rS)).1).Mask) 8)) 4) > 0)), (qCJ7 r rM rN rS rC (decide ((Int.tmod (i64.wrap (Int.tdiv (((qCJ6 r rM rN rC ((qCJ4 r rC (qCJ2 r rC r)), rS)).1).Mask) 8)) 4) > 0))))) rM rN ((qCJ6 r rM rN rC ((qCJ4 r rC (qCJ2 r rC r)), rS)).2) rC).1).Line : Int) == 261) = true) (d2 : (((Int.tmod (((rChooseF (qCJ8 rC ((qCJ6 r rM rN rC ((qCJ4 r rC (qCJ2 r rC r)), rS)).1, (decide ((Int.tmod (i64.wrap (Int.tdiv (((qCJ6 r rM rN rC ((qCJ4 r rC (qCJ2 r rC r)), rS)).1).Mask) 8)) 4) > 0)), (qCJ7 r rM rN rS rC (decide ((Int.tmod (i64.wrap (Int.tdiv (((qCJ6 r rM rN rC ((qCJ4 r rC (qCJ2 r rC r)), rS)).1).Mask) 8)) 4) > 0))))) rM rN ((qCJ6 r rM rN rC ((qCJ4 r rC (qCJ2 r rC r)), rS)).2) rC).1).Begun) 2) : Int) == 0) = true) (d3 : (decide ((Int.tmod (i64.wrap (Int.tdiv (((qCJ6 r rM rN rC ((qCJ4 r rC (qCJ2 r rC r)), rS)).1).Mask) 8)) 4) > 0)) = false) : Runs Try.prog 244 (bodyOf Try.f58 [1, 1, 1, 1, 1, 1, 1, 0, 0]) (qCJ15y_T r rM rN rS rC) (qCJ15y_H r rM rN rS rC) 1006 .normal (qCJ15y_T1 r rM rN rS rC false) (qCJ15y_H1 r rM rN rS rC false) 1006 := by
  exact runs_of_x hG hM 400 [.yes, .yes, .yes, .yes, .yes, .yes, .yes, .yes, .yes, .no, .no, .no, .no, .no, .no] (J d1 (J d1 (J d1 (J d1 (J d1 (J (by decide : ((2 : Int) ≠ 0)) (J d1 (J d1 (J d2 (J d2 (J d3 (J d3 (J d3 (J d3 (J d3 (J d3 trivial)))))))))))))))) (by kernel_rfl)
theorem qCJ15y_p3 (r : RPic) (rM : Nat → Int) (rN : Nat → Int) (rS : Nat → Int) (rC : List Man) (d1 : ((((rChooseF (qCJ8 rC ((qCJ6 r rM rN rC ((qCJ4 r rC (qCJ2 r rC r)), rS)).1, (decide ((Int.tmod (i64.wrap (Int.tdiv (((qCJ6 r rM rN rC ((qCJ4 r rC (qCJ2 r rC r)), rS)).1).Mask) 8)) 4) > 0)), (qCJ7 r rM rN rS rC (decide ((Int.tmod (i64.wrap (Int.tdiv (((qCJ6 r rM rN rC ((qCJ4 r rC (qCJ2 r rC r)), rS)).1).Mask) 8)) 4) > 0))))) rM rN ((qCJ6 r rM rN rC ((qCJ4 r rC (qCJ2 r rC r)), rS)).2) rC).1).Line : Int) == 261) = true) (d2 : (((Int.tmod (((rChooseF (qCJ8 rC ((qCJ6 r rM rN rC ((qCJ4 r rC (qCJ2 r rC r)), rS)).1, (decide ((Int.tmod (i64.wrap (Int.tdiv (((qCJ6 r rM rN rC ((qCJ4 r rC (qCJ2 r rC r)), rS)).1).Mask) 8)) 4) > 0)), (qCJ7 r rM rN rS rC (decide ((Int.tmod (i64.wrap (Int.tdiv (((qCJ6 r rM rN rC ((qCJ4 r rC (qCJ2 r rC r)), rS)).1).Mask) 8)) 4) > 0))))) rM rN ((qCJ6 r rM rN rC ((qCJ4 r rC (qCJ2 r rC r)), rS)).2) rC).1).Begun) 2) : Int) == 0) = false) : Runs Try.prog 244 (bodyOf Try.f58 [1, 1, 1, 1, 1, 1, 1, 0, 0]) (qCJ15y_T r rM rN rS rC) (qCJ15y_H r rM rN rS rC) 1006 .normal (qCJ15y_T1 r rM rN rS rC false) (qCJ15y_H1 r rM rN rS rC false) 1006 := by
  exact runs_of_x hG hM 400 [.yes, .yes, .yes, .yes, .yes, .yes, .yes, .no, .no, .no, .no, .no, .no, .no, .no] (J d1 (J d1 (J d1 (J d1 (J d1 (J (by decide : ((2 : Int) ≠ 0)) (J d1 (J d1 (J d2 (J d2 (J T0 (J T0 (J T0 (J T0 (J T0 (J T0 trivial)))))))))))))))) (by kernel_rfl)
theorem qCJ15y_p4 (r : RPic) (rM : Nat → Int) (rN : Nat → Int) (rS : Nat → Int) (rC : List Man) (d1 : ((((rChooseF (qCJ8 rC ((qCJ6 r rM rN rC ((qCJ4 r rC (qCJ2 r rC r)), rS)).1, (decide ((Int.tmod (i64.wrap (Int.tdiv (((qCJ6 r rM rN rC ((qCJ4 r rC (qCJ2 r rC r)), rS)).1).Mask) 8)) 4) > 0)), (qCJ7 r rM rN rS rC (decide ((Int.tmod (i64.wrap (Int.tdiv (((qCJ6 r rM rN rC ((qCJ4 r rC (qCJ2 r rC r)), rS)).1).Mask) 8)) 4) > 0))))) rM rN ((qCJ6 r rM rN rC ((qCJ4 r rC (qCJ2 r rC r)), rS)).2) rC).1).Line : Int) == 261) = false) : Runs Try.prog 244 (bodyOf Try.f58 [1, 1, 1, 1, 1, 1, 1, 0, 0]) (qCJ15y_T r rM rN rS rC) (qCJ15y_H r rM rN rS rC) 1006 .normal (qCJ15y_T1 r rM rN rS rC false) (qCJ15y_H1 r rM rN rS rC false) 1006 := by
  exact runs_of_x hG hM 400 [.no, .no, .no, .no, .no, .no, .no, .no, .no, .no, .no, .no, .no, .no, .no] (J d1 (J d1 (J d1 (J d1 (J d1 (J d1 (J d1 (J T0 (J T0 (J T0 (J T0 (J T0 (J T0 (J T0 (J T0 trivial))))))))))))))) (by kernel_rfl)
abbrev NIk3 (r : RPic) (rM rN : Nat → Int) (rC : List Man) (rS : Nat → Int) := (decide ((Int.tmod (i64.wrap (Int.tdiv (((qCJ6 r rM rN rC ((NIk6 r rC), rS)).1).Mask) 8)) 4) > 0))
abbrev NIk0 (r : RPic) (rM rN : Nat → Int) (rC : List Man) (rS : Nat → Int) := ((qCJ6 r rM rN rC ((NIk6 r rC), rS)).1, (NIk3 r rM rN rC rS), (qCJ7 r rM rN rS rC (NIk3 r rM rN rC rS)))
abbrev NIk8 (rC : List Man) (r : RPic) (rM rN rS : Nat → Int) := (qCJ8 rC (NIk0 r rM rN rC rS))
abbrev NIk1 (rC : List Man) (r : RPic) (rM rN rS : Nat → Int) := (rChooseF (NIk8 rC r rM rN rS) rM rN ((qCJ6 r rM rN rC ((NIk6 r rC), rS)).2) rC)
theorem qCJ15y_runs (r : RPic) (rM : Nat → Int) (rN : Nat → Int) (rS : Nat → Int) (rC : List Man) : Runs Try.prog 244 (bodyOf Try.f58 [1, 1, 1, 1, 1, 1, 1, 0, 0]) (qCJ15y_T r rM rN rS rC) (qCJ15y_H r rM rN rS rC) 1006 .normal (qCJ15y_T1 r rM rN rS rC (qCJ15y r rM rN rS rC)) (qCJ15y_H1 r rM rN rS rC (qCJ15y r rM rN rS rC)) 1006 := by
  rcases bt ((((NIk1 rC r rM rN rS).1).Line : Int) == 261) with d1 | d1
  ·
    rcases bt (((Int.tmod (((NIk1 rC r rM rN rS).1).Begun) 2) : Int) == 0) with d2 | d2
    ·
      rcases bt (NIk3 r rM rN rC rS) with d3 | d3
      ·
        rw [show qCJ15y r rM rN rS rC = ((((NIk1 rC r rM rN rS).1).Dot : Int) == 339) from by unfold qCJ15y; rw [if_pos d1, if_pos d2, if_pos d3]]
        exact qCJ15y_p1 r rM rN rS rC d1 d2 d3
      ·
        rw [show qCJ15y r rM rN rS rC = false from by unfold qCJ15y; rw [if_pos d1, if_pos d2, if_neg (nt d3)]]
        exact qCJ15y_p2 r rM rN rS rC d1 d2 d3
    ·
      rw [show qCJ15y r rM rN rS rC = false from by unfold qCJ15y; rw [if_pos d1, if_neg (nt d2)]]
      exact qCJ15y_p3 r rM rN rS rC d1 d2
  ·
    rw [show qCJ15y r rM rN rS rC = false from by unfold qCJ15y; rw [if_neg (nt d1)]]
    exact qCJ15y_p4 r rM rN rS rC d1
def qCJ16y (xd : Bool) : Int :=
  if xd = true then
    339
  else
    340
def qCJ16y_T (xd : Bool) : Tm := [(0, pt 1000), (3, .int .i64 340), (205, .bool xd)]
def qCJ16y_H (xd : Bool) : Heap := []
def qCJ16y_T1 (xd : Bool) (r_ : Int) : Tm := [(0, pt 1000), (3, .int .i64 r_)]
def qCJ16y_H1 (xd : Bool) (r_ : Int) : Heap := []
theorem qCJ16y_p1 (xd : Bool) (d1 : xd = true) : Runs Try.prog 244 (bodyOf Try.f58 [1, 1, 1, 1, 1, 1, 1, 0, 1]) (qCJ16y_T xd) (qCJ16y_H xd) 1006 .normal (qCJ16y_T1 xd 339) (qCJ16y_H1 xd 339) 1006 := by
  exact runs_of_x hG hM 400 [.yes] (J d1 trivial) (by kernel_rfl)
theorem qCJ16y_p2 (xd : Bool) (d1 : xd = false) : Runs Try.prog 244 (bodyOf Try.f58 [1, 1, 1, 1, 1, 1, 1, 0, 1]) (qCJ16y_T xd) (qCJ16y_H xd) 1006 .normal (qCJ16y_T1 xd 340) (qCJ16y_H1 xd 340) 1006 := by
  exact runs_of_x hG hM 400 [.no] (J d1 trivial) (by kernel_rfl)
theorem qCJ16y_runs (xd : Bool) : Runs Try.prog 244 (bodyOf Try.f58 [1, 1, 1, 1, 1, 1, 1, 0, 1]) (qCJ16y_T xd) (qCJ16y_H xd) 1006 .normal (qCJ16y_T1 xd (qCJ16y xd)) (qCJ16y_H1 xd (qCJ16y xd)) 1006 := by
  rcases bt xd with d1 | d1
  ·
    rw [show qCJ16y xd = 339 from by unfold qCJ16y; rw [if_pos d1]]
    exact qCJ16y_p1 xd d1
  ·
    rw [show qCJ16y xd = 340 from by unfold qCJ16y; rw [if_neg (nt d1)]]
    exact qCJ16y_p2 xd d1
def qCJ17yn (r : RPic) (rM : Nat → Int) (rN : Nat → Int) (rS : Nat → Int) (rC : List Man) (xd : RPic × Bool) : RPic :=
  if xd.2 = true then
    ({ xd.1 with Line := 0, Begun := (i64.wrap (xd.1.Begun + 1)) } : RPic)
  else
    xd.1
def qCJ17yn_T (r : RPic) (rM : Nat → Int) (rN : Nat → Int) (rS : Nat → Int) (rC : List Man) (xd : RPic × Bool) : Tm := [(0, pt 1000), (233, .bool xd.2)]
def qCJ17yn_H (r : RPic) (rM : Nat → Int) (rN : Nat → Int) (rS : Nat → Int) (rC : List Man) (xd : RPic × Bool) : Heap := [(1000, (RPic.bl xd.1 (sl 1001 16384 1) (sl 1002 256 1) (sl 1005 (List.length ((rChooseF (qCJ8 rC ((qCJ6 r rM rN rC ((qCJ4 r rC (qCJ2 r rC r)), rS)).1, (decide ((Int.tmod (i64.wrap (Int.tdiv (((qCJ6 r rM rN rC ((qCJ4 r rC (qCJ2 r rC r)), rS)).1).Mask) 8)) 4) > 0)), (qCJ7 r rM rN rS rC (decide ((Int.tmod (i64.wrap (Int.tdiv (((qCJ6 r rM rN rC ((qCJ4 r rC (qCJ2 r rC r)), rS)).1).Mask) 8)) 4) > 0))))) rM rN ((qCJ6 r rM rN rC ((qCJ4 r rC (qCJ2 r rC r)), rS)).2) rC).2)) 4) (sl 1003 61440 1) false))]
def qCJ17yn_T1 (r : RPic) (rM : Nat → Int) (rN : Nat → Int) (rS : Nat → Int) (rC : List Man) (xd : RPic × Bool) (r_ : RPic) : Tm := []
def qCJ17yn_H1 (r : RPic) (rM : Nat → Int) (rN : Nat → Int) (rS : Nat → Int) (rC : List Man) (xd : RPic × Bool) (r_ : RPic) : Heap := [(1000, (RPic.bl r_ (sl 1001 16384 1) (sl 1002 256 1) (sl 1005 (List.length ((rChooseF (qCJ8 rC ((qCJ6 r rM rN rC ((qCJ4 r rC (qCJ2 r rC r)), rS)).1, (decide ((Int.tmod (i64.wrap (Int.tdiv (((qCJ6 r rM rN rC ((qCJ4 r rC (qCJ2 r rC r)), rS)).1).Mask) 8)) 4) > 0)), (qCJ7 r rM rN rS rC (decide ((Int.tmod (i64.wrap (Int.tdiv (((qCJ6 r rM rN rC ((qCJ4 r rC (qCJ2 r rC r)), rS)).1).Mask) 8)) 4) > 0))))) rM rN ((qCJ6 r rM rN rC ((qCJ4 r rC (qCJ2 r rC r)), rS)).2) rC).2)) 4) (sl 1003 61440 1) false))]
theorem qCJ17yn_p1 (r : RPic) (rM : Nat → Int) (rN : Nat → Int) (rS : Nat → Int) (rC : List Man) (xd : RPic × Bool) (d1 : xd.2 = true) : Runs Try.prog 244 (bodyOf Try.f58 [1, 1, 1, 1, 1, 1, 1, 1, 1, 1, 1, 1, 1]) (qCJ17yn_T r rM rN rS rC xd) (qCJ17yn_H r rM rN rS rC xd) 1006 .normal (qCJ17yn_T1 r rM rN rS rC xd ({ xd.1 with Line := 0, Begun := (i64.wrap (xd.1.Begun + 1)) } : RPic)) (qCJ17yn_H1 r rM rN rS rC xd ({ xd.1 with Line := 0, Begun := (i64.wrap (xd.1.Begun + 1)) } : RPic)) 1006 := by
  exact runs_of_x hG hM 400 [.yes] (J d1 trivial) (by kernel_rfl)
theorem qCJ17yn_p2 (r : RPic) (rM : Nat → Int) (rN : Nat → Int) (rS : Nat → Int) (rC : List Man) (xd : RPic × Bool) (d1 : xd.2 = false) : Runs Try.prog 244 (bodyOf Try.f58 [1, 1, 1, 1, 1, 1, 1, 1, 1, 1, 1, 1, 1]) (qCJ17yn_T r rM rN rS rC xd) (qCJ17yn_H r rM rN rS rC xd) 1006 .normal (qCJ17yn_T1 r rM rN rS rC xd xd.1) (qCJ17yn_H1 r rM rN rS rC xd xd.1) 1006 := by
  exact runs_of_x hG hM 400 [.no] (J d1 trivial) (by kernel_rfl)
theorem qCJ17yn_runs (r : RPic) (rM : Nat → Int) (rN : Nat → Int) (rS : Nat → Int) (rC : List Man) (xd : RPic × Bool) : Runs Try.prog 244 (bodyOf Try.f58 [1, 1, 1, 1, 1, 1, 1, 1, 1, 1, 1, 1, 1]) (qCJ17yn_T r rM rN rS rC xd) (qCJ17yn_H r rM rN rS rC xd) 1006 .normal (qCJ17yn_T1 r rM rN rS rC xd (qCJ17yn r rM rN rS rC xd)) (qCJ17yn_H1 r rM rN rS rC xd (qCJ17yn r rM rN rS rC xd)) 1006 := by
  rcases bt xd.2 with d1 | d1
  ·
    rw [show qCJ17yn r rM rN rS rC xd = ({ xd.1 with Line := 0, Begun := (i64.wrap (xd.1.Begun + 1)) } : RPic) from by unfold qCJ17yn; rw [if_pos d1]]
    exact qCJ17yn_p1 r rM rN rS rC xd d1
  ·
    rw [show qCJ17yn r rM rN rS rC xd = xd.1 from by unfold qCJ17yn; rw [if_neg (nt d1)]]
    exact qCJ17yn_p2 r rM rN rS rC xd d1
def qCJ15n (r : RPic) (rM : Nat → Int) (rN : Nat → Int) (rS : Nat → Int) (rC : List Man) : Bool :=
  if (((qCJ8 rC ((qCJ6 r rM rN rC ((qCJ4 r rC (qCJ2 r rC r)), rS)).1, (decide ((Int.tmod (i64.wrap (Int.tdiv (((qCJ6 r rM rN rC ((qCJ4 r rC (qCJ2 r rC r)), rS)).1).Mask) 8)) 4) > 0)), (qCJ7 r rM rN rS rC (decide ((Int.tmod (i64.wrap (Int.tdiv (((qCJ6 r rM rN rC ((qCJ4 r rC (qCJ2 r rC r)), rS)).1).Mask) 8)) 4) > 0))))).Line : Int) == 261) = true then
    if (((Int.tmod ((qCJ8 rC ((qCJ6 r rM rN rC ((qCJ4 r rC (qCJ2 r rC r)), rS)).1, (decide ((Int.tmod (i64.wrap (Int.tdiv (((qCJ6 r rM rN rC ((qCJ4 r rC (qCJ2 r rC r)), rS)).1).Mask) 8)) 4) > 0)), (qCJ7 r rM rN rS rC (decide ((Int.tmod (i64.wrap (Int.tdiv (((qCJ6 r rM rN rC ((qCJ4 r rC (qCJ2 r rC r)), rS)).1).Mask) 8)) 4) > 0))))).Begun) 2) : Int) == 0) = true then
      if (decide ((Int.tmod (i64.wrap (Int.tdiv (((qCJ6 r rM rN rC ((qCJ4 r rC (qCJ2 r rC r)), rS)).1).Mask) 8)) 4) > 0)) = true then
        (((qCJ8 rC ((qCJ6 r rM rN rC ((qCJ4 r rC (qCJ2 r rC r)), rS)).1, (decide ((Int.tmod (i64.wrap (Int.tdiv (((qCJ6 r rM rN rC ((qCJ4 r rC (qCJ2 r rC r)), rS)).1).Mask) 8)) 4) > 0)), (qCJ7 r rM rN rS rC (decide ((Int.tmod (i64.wrap (Int.tdiv (((qCJ6 r rM rN rC ((qCJ4 r rC (qCJ2 r rC r)), rS)).1).Mask) 8)) 4) > 0))))).Dot : Int) == 339)
      else
        false
    else
      false
  else
    false
def qCJ15n_T (r : RPic) (rM : Nat → Int) (rN : Nat → Int) (rS : Nat → Int) (rC : List Man) : Tm := [(0, pt 1000), (2, .bool (decide ((Int.tmod (i64.wrap (Int.tdiv (((qCJ6 r rM rN rC ((qCJ4 r rC (qCJ2 r rC r)), rS)).1).Mask) 8)) 4) > 0))), (3, .int .i64 340)]
def qCJ15n_H (r : RPic) (rM : Nat → Int) (rN : Nat → Int) (rS : Nat → Int) (rC : List Man) : Heap := [(1000, (RPic.bl (qCJ8 rC ((qCJ6 r rM rN rC ((qCJ4 r rC (qCJ2 r rC r)), rS)).1, (decide ((Int.tmod (i64.wrap (Int.tdiv (((qCJ6 r rM rN rC ((qCJ4 r rC (qCJ2 r rC r)), rS)).1).Mask) 8)) 4) > 0)), (qCJ7 r rM rN rS rC (decide ((Int.tmod (i64.wrap (Int.tdiv (((qCJ6 r rM rN rC ((qCJ4 r rC (qCJ2 r rC r)), rS)).1).Mask) 8)) 4) > 0))))) (sl 1001 16384 1) (sl 1002 256 1) (sl 1004 (List.length rC) 4) (sl 1003 61440 1) false))]
def qCJ15n_T1 (r : RPic) (rM : Nat → Int) (rN : Nat → Int) (rS : Nat → Int) (rC : List Man) (r_ : Bool) : Tm := [(0, pt 1000), (3, .int .i64 340), (205, .bool r_)]
def qCJ15n_H1 (r : RPic) (rM : Nat → Int) (rN : Nat → Int) (rS : Nat → Int) (rC : List Man) (r_ : Bool) : Heap := [(1000, (RPic.bl (qCJ8 rC ((qCJ6 r rM rN rC ((qCJ4 r rC (qCJ2 r rC r)), rS)).1, (decide ((Int.tmod (i64.wrap (Int.tdiv (((qCJ6 r rM rN rC ((qCJ4 r rC (qCJ2 r rC r)), rS)).1).Mask) 8)) 4) > 0)), (qCJ7 r rM rN rS rC (decide ((Int.tmod (i64.wrap (Int.tdiv (((qCJ6 r rM rN rC ((qCJ4 r rC (qCJ2 r rC r)), rS)).1).Mask) 8)) 4) > 0))))) (sl 1001 16384 1) (sl 1002 256 1) (sl 1004 (List.length rC) 4) (sl 1003 61440 1) false))]
theorem qCJ15n_p1 (r : RPic) (rM : Nat → Int) (rN : Nat → Int) (rS : Nat → Int) (rC : List Man) (d1 : (((qCJ8 rC ((qCJ6 r rM rN rC ((qCJ4 r rC (qCJ2 r rC r)), rS)).1, (decide ((Int.tmod (i64.wrap (Int.tdiv (((qCJ6 r rM rN rC ((qCJ4 r rC (qCJ2 r rC r)), rS)).1).Mask) 8)) 4) > 0)), (qCJ7 r rM rN rS rC (decide ((Int.tmod (i64.wrap (Int.tdiv (((qCJ6 r rM rN rC ((qCJ4 r rC (qCJ2 r rC r)), rS)).1).Mask) 8)) 4) > 0))))).Line : Int) == 261) = true) (d2 : (((Int.tmod ((qCJ8 rC ((qCJ6 r rM rN rC ((qCJ4 r rC (qCJ2 r rC r)), rS)).1, (decide ((Int.tmod (i64.wrap (Int.tdiv (((qCJ6 r rM rN rC ((qCJ4 r rC (qCJ2 r rC r)), rS)).1).Mask) 8)) 4) > 0)), (qCJ7 r rM rN rS rC (decide ((Int.tmod (i64.wrap (Int.tdiv (((qCJ6 r rM rN rC ((qCJ4 r rC (qCJ2 r rC r)), rS)).1).Mask) 8)) 4) > 0))))).Begun) 2) : Int) == 0) = true) (d3 : (decide ((Int.tmod (i64.wrap (Int.tdiv (((qCJ6 r rM rN rC ((qCJ4 r rC (qCJ2 r rC r)), rS)).1).Mask) 8)) 4) > 0)) = true) : Runs Try.prog 244 (bodyOf Try.f58 [1, 1, 1, 1, 1, 1, 1, 0, 0]) (qCJ15n_T r rM rN rS rC) (qCJ15n_H r rM rN rS rC) 1005 .normal (qCJ15n_T1 r rM rN rS rC (((qCJ8 rC ((qCJ6 r rM rN rC ((qCJ4 r rC (qCJ2 r rC r)), rS)).1, (decide ((Int.tmod (i64.wrap (Int.tdiv (((qCJ6 r rM rN rC ((qCJ4 r rC (qCJ2 r rC r)), rS)).1).Mask) 8)) 4) > 0)), (qCJ7 r rM rN rS rC (decide ((Int.tmod (i64.wrap (Int.tdiv (((qCJ6 r rM rN rC ((qCJ4 r rC (qCJ2 r rC r)), rS)).1).Mask) 8)) 4) > 0))))).Dot : Int) == 339)) (qCJ15n_H1 r rM rN rS rC (((qCJ8 rC ((qCJ6 r rM rN rC ((qCJ4 r rC (qCJ2 r rC r)), rS)).1, (decide ((Int.tmod (i64.wrap (Int.tdiv (((qCJ6 r rM rN rC ((qCJ4 r rC (qCJ2 r rC r)), rS)).1).Mask) 8)) 4) > 0)), (qCJ7 r rM rN rS rC (decide ((Int.tmod (i64.wrap (Int.tdiv (((qCJ6 r rM rN rC ((qCJ4 r rC (qCJ2 r rC r)), rS)).1).Mask) 8)) 4) > 0))))).Dot : Int) == 339)) 1005 := by
  exact runs_of_x hG hM 400 [.yes, .yes, .yes, .yes, .yes, .yes, .yes, .yes, .yes, .yes, .yes, .yes, .yes, .yes, .yes] (J d1 (J d1 (J d1 (J d1 (J d1 (J (by decide : ((2 : Int) ≠ 0)) (J d1 (J d1 (J d2 (J d2 (J d3 (J d3 (J d3 (J d3 (J d3 (J d3 trivial)))))))))))))))) (by kernel_rfl)
theorem qCJ15n_p2 (r : RPic) (rM : Nat → Int) (rN : Nat → Int) (rS : Nat → Int) (rC : List Man) (d1 : (((qCJ8 rC ((qCJ6 r rM rN rC ((qCJ4 r rC (qCJ2 r rC r)), rS)).1, (decide ((Int.tmod (i64.wrap (Int.tdiv (((qCJ6 r rM rN rC ((qCJ4 r rC (qCJ2 r rC r)), rS)).1).Mask) 8)) 4) > 0)), (qCJ7 r rM rN rS rC (decide ((Int.tmod (i64.wrap (Int.tdiv (((qCJ6 r rM rN rC ((qCJ4 r rC (qCJ2 r rC r)), rS)).1).Mask) 8)) 4) > 0))))).Line : Int) == 261) = true) (d2 : (((Int.tmod ((qCJ8 rC ((qCJ6 r rM rN rC ((qCJ4 r rC (qCJ2 r rC r)), rS)).1, (decide ((Int.tmod (i64.wrap (Int.tdiv (((qCJ6 r rM rN rC ((qCJ4 r rC (qCJ2 r rC r)), rS)).1).Mask) 8)) 4) > 0)), (qCJ7 r rM rN rS rC (decide ((Int.tmod (i64.wrap (Int.tdiv (((qCJ6 r rM rN rC ((qCJ4 r rC (qCJ2 r rC r)), rS)).1).Mask) 8)) 4) > 0))))).Begun) 2) : Int) == 0) = true) (d3 : (decide ((Int.tmod (i64.wrap (Int.tdiv (((qCJ6 r rM rN rC ((qCJ4 r rC (qCJ2 r rC r)), rS)).1).Mask) 8)) 4) > 0)) = false) : Runs Try.prog 244 (bodyOf Try.f58 [1, 1, 1, 1, 1, 1, 1, 0, 0]) (qCJ15n_T r rM rN rS rC) (qCJ15n_H r rM rN rS rC) 1005 .normal (qCJ15n_T1 r rM rN rS rC false) (qCJ15n_H1 r rM rN rS rC false) 1005 := by
  exact runs_of_x hG hM 400 [.yes, .yes, .yes, .yes, .yes, .yes, .yes, .yes, .yes, .no, .no, .no, .no, .no, .no] (J d1 (J d1 (J d1 (J d1 (J d1 (J (by decide : ((2 : Int) ≠ 0)) (J d1 (J d1 (J d2 (J d2 (J d3 (J d3 (J d3 (J d3 (J d3 (J d3 trivial)))))))))))))))) (by kernel_rfl)
theorem qCJ15n_p3 (r : RPic) (rM : Nat → Int) (rN : Nat → Int) (rS : Nat → Int) (rC : List Man) (d1 : (((qCJ8 rC ((qCJ6 r rM rN rC ((qCJ4 r rC (qCJ2 r rC r)), rS)).1, (decide ((Int.tmod (i64.wrap (Int.tdiv (((qCJ6 r rM rN rC ((qCJ4 r rC (qCJ2 r rC r)), rS)).1).Mask) 8)) 4) > 0)), (qCJ7 r rM rN rS rC (decide ((Int.tmod (i64.wrap (Int.tdiv (((qCJ6 r rM rN rC ((qCJ4 r rC (qCJ2 r rC r)), rS)).1).Mask) 8)) 4) > 0))))).Line : Int) == 261) = true) (d2 : (((Int.tmod ((qCJ8 rC ((qCJ6 r rM rN rC ((qCJ4 r rC (qCJ2 r rC r)), rS)).1, (decide ((Int.tmod (i64.wrap (Int.tdiv (((qCJ6 r rM rN rC ((qCJ4 r rC (qCJ2 r rC r)), rS)).1).Mask) 8)) 4) > 0)), (qCJ7 r rM rN rS rC (decide ((Int.tmod (i64.wrap (Int.tdiv (((qCJ6 r rM rN rC ((qCJ4 r rC (qCJ2 r rC r)), rS)).1).Mask) 8)) 4) > 0))))).Begun) 2) : Int) == 0) = false) : Runs Try.prog 244 (bodyOf Try.f58 [1, 1, 1, 1, 1, 1, 1, 0, 0]) (qCJ15n_T r rM rN rS rC) (qCJ15n_H r rM rN rS rC) 1005 .normal (qCJ15n_T1 r rM rN rS rC false) (qCJ15n_H1 r rM rN rS rC false) 1005 := by
  exact runs_of_x hG hM 400 [.yes, .yes, .yes, .yes, .yes, .yes, .yes, .no, .no, .no, .no, .no, .no, .no, .no] (J d1 (J d1 (J d1 (J d1 (J d1 (J (by decide : ((2 : Int) ≠ 0)) (J d1 (J d1 (J d2 (J d2 (J T0 (J T0 (J T0 (J T0 (J T0 (J T0 trivial)))))))))))))))) (by kernel_rfl)
theorem qCJ15n_p4 (r : RPic) (rM : Nat → Int) (rN : Nat → Int) (rS : Nat → Int) (rC : List Man) (d1 : (((qCJ8 rC ((qCJ6 r rM rN rC ((qCJ4 r rC (qCJ2 r rC r)), rS)).1, (decide ((Int.tmod (i64.wrap (Int.tdiv (((qCJ6 r rM rN rC ((qCJ4 r rC (qCJ2 r rC r)), rS)).1).Mask) 8)) 4) > 0)), (qCJ7 r rM rN rS rC (decide ((Int.tmod (i64.wrap (Int.tdiv (((qCJ6 r rM rN rC ((qCJ4 r rC (qCJ2 r rC r)), rS)).1).Mask) 8)) 4) > 0))))).Line : Int) == 261) = false) : Runs Try.prog 244 (bodyOf Try.f58 [1, 1, 1, 1, 1, 1, 1, 0, 0]) (qCJ15n_T r rM rN rS rC) (qCJ15n_H r rM rN rS rC) 1005 .normal (qCJ15n_T1 r rM rN rS rC false) (qCJ15n_H1 r rM rN rS rC false) 1005 := by
  exact runs_of_x hG hM 400 [.no, .no, .no, .no, .no, .no, .no, .no, .no, .no, .no, .no, .no, .no, .no] (J d1 (J d1 (J d1 (J d1 (J d1 (J d1 (J d1 (J T0 (J T0 (J T0 (J T0 (J T0 (J T0 (J T0 (J T0 trivial))))))))))))))) (by kernel_rfl)
theorem qCJ15n_runs (r : RPic) (rM : Nat → Int) (rN : Nat → Int) (rS : Nat → Int) (rC : List Man) : Runs Try.prog 244 (bodyOf Try.f58 [1, 1, 1, 1, 1, 1, 1, 0, 0]) (qCJ15n_T r rM rN rS rC) (qCJ15n_H r rM rN rS rC) 1005 .normal (qCJ15n_T1 r rM rN rS rC (qCJ15n r rM rN rS rC)) (qCJ15n_H1 r rM rN rS rC (qCJ15n r rM rN rS rC)) 1005 := by
  rcases bt (((NIk8 rC r rM rN rS).Line : Int) == 261) with d1 | d1
  ·
    rcases bt (((Int.tmod ((NIk8 rC r rM rN rS).Begun) 2) : Int) == 0) with d2 | d2
    ·
      rcases bt (NIk3 r rM rN rC rS) with d3 | d3
      ·
        rw [show qCJ15n r rM rN rS rC = (((NIk8 rC r rM rN rS).Dot : Int) == 339) from by unfold qCJ15n; rw [if_pos d1, if_pos d2, if_pos d3]]
        exact qCJ15n_p1 r rM rN rS rC d1 d2 d3
      ·
        rw [show qCJ15n r rM rN rS rC = false from by unfold qCJ15n; rw [if_pos d1, if_pos d2, if_neg (nt d3)]]
        exact qCJ15n_p2 r rM rN rS rC d1 d2 d3
    ·
      rw [show qCJ15n r rM rN rS rC = false from by unfold qCJ15n; rw [if_pos d1, if_neg (nt d2)]]
      exact qCJ15n_p3 r rM rN rS rC d1 d2
  ·
    rw [show qCJ15n r rM rN rS rC = false from by unfold qCJ15n; rw [if_neg (nt d1)]]
    exact qCJ15n_p4 r rM rN rS rC d1
def qCJ16n (xd : Bool) : Int :=
  if xd = true then
    339
  else
    340
def qCJ16n_T (xd : Bool) : Tm := [(0, pt 1000), (3, .int .i64 340), (205, .bool xd)]
def qCJ16n_H (xd : Bool) : Heap := []
def qCJ16n_T1 (xd : Bool) (r_ : Int) : Tm := [(0, pt 1000), (3, .int .i64 r_)]
def qCJ16n_H1 (xd : Bool) (r_ : Int) : Heap := []
theorem qCJ16n_p1 (xd : Bool) (d1 : xd = true) : Runs Try.prog 244 (bodyOf Try.f58 [1, 1, 1, 1, 1, 1, 1, 0, 1]) (qCJ16n_T xd) (qCJ16n_H xd) 1005 .normal (qCJ16n_T1 xd 339) (qCJ16n_H1 xd 339) 1005 := by
  exact runs_of_x hG hM 400 [.yes] (J d1 trivial) (by kernel_rfl)
theorem qCJ16n_p2 (xd : Bool) (d1 : xd = false) : Runs Try.prog 244 (bodyOf Try.f58 [1, 1, 1, 1, 1, 1, 1, 0, 1]) (qCJ16n_T xd) (qCJ16n_H xd) 1005 .normal (qCJ16n_T1 xd 340) (qCJ16n_H1 xd 340) 1005 := by
  exact runs_of_x hG hM 400 [.no] (J d1 trivial) (by kernel_rfl)
theorem qCJ16n_runs (xd : Bool) : Runs Try.prog 244 (bodyOf Try.f58 [1, 1, 1, 1, 1, 1, 1, 0, 1]) (qCJ16n_T xd) (qCJ16n_H xd) 1005 .normal (qCJ16n_T1 xd (qCJ16n xd)) (qCJ16n_H1 xd (qCJ16n xd)) 1005 := by
  rcases bt xd with d1 | d1
  ·
    rw [show qCJ16n xd = 339 from by unfold qCJ16n; rw [if_pos d1]]
    exact qCJ16n_p1 xd d1
  ·
    rw [show qCJ16n xd = 340 from by unfold qCJ16n; rw [if_neg (nt d1)]]
    exact qCJ16n_p2 xd d1
def qCJ17nn (rC : List Man) (xd : RPic × Bool) : RPic :=
  if xd.2 = true then
    ({ xd.1 with Line := 0, Begun := (i64.wrap (xd.1.Begun + 1)) } : RPic)
  else
    xd.1
def qCJ17nn_T (rC : List Man) (xd : RPic × Bool) : Tm := [(0, pt 1000), (233, .bool xd.2)]
def qCJ17nn_H (rC : List Man) (xd : RPic × Bool) : Heap := [(1000, (RPic.bl xd.1 (sl 1001 16384 1) (sl 1002 256 1) (sl 1004 (List.length rC) 4) (sl 1003 61440 1) false))]
def qCJ17nn_T1 (rC : List Man) (xd : RPic × Bool) (r_ : RPic) : Tm := []
def qCJ17nn_H1 (rC : List Man) (xd : RPic × Bool) (r_ : RPic) : Heap := [(1000, (RPic.bl r_ (sl 1001 16384 1) (sl 1002 256 1) (sl 1004 (List.length rC) 4) (sl 1003 61440 1) false))]
theorem qCJ17nn_p1 (rC : List Man) (xd : RPic × Bool) (d1 : xd.2 = true) : Runs Try.prog 244 (bodyOf Try.f58 [1, 1, 1, 1, 1, 1, 1, 1, 1, 1, 1, 1, 1]) (qCJ17nn_T rC xd) (qCJ17nn_H rC xd) 1005 .normal (qCJ17nn_T1 rC xd ({ xd.1 with Line := 0, Begun := (i64.wrap (xd.1.Begun + 1)) } : RPic)) (qCJ17nn_H1 rC xd ({ xd.1 with Line := 0, Begun := (i64.wrap (xd.1.Begun + 1)) } : RPic)) 1005 := by
  exact runs_of_x hG hM 400 [.yes] (J d1 trivial) (by kernel_rfl)
theorem qCJ17nn_p2 (rC : List Man) (xd : RPic × Bool) (d1 : xd.2 = false) : Runs Try.prog 244 (bodyOf Try.f58 [1, 1, 1, 1, 1, 1, 1, 1, 1, 1, 1, 1, 1]) (qCJ17nn_T rC xd) (qCJ17nn_H rC xd) 1005 .normal (qCJ17nn_T1 rC xd xd.1) (qCJ17nn_H1 rC xd xd.1) 1005 := by
  exact runs_of_x hG hM 400 [.no] (J d1 trivial) (by kernel_rfl)
theorem qCJ17nn_runs (rC : List Man) (xd : RPic × Bool) : Runs Try.prog 244 (bodyOf Try.f58 [1, 1, 1, 1, 1, 1, 1, 1, 1, 1, 1, 1, 1]) (qCJ17nn_T rC xd) (qCJ17nn_H rC xd) 1005 .normal (qCJ17nn_T1 rC xd (qCJ17nn rC xd)) (qCJ17nn_H1 rC xd (qCJ17nn rC xd)) 1005 := by
  rcases bt xd.2 with d1 | d1
  ·
    rw [show qCJ17nn rC xd = ({ xd.1 with Line := 0, Begun := (i64.wrap (xd.1.Begun + 1)) } : RPic) from by unfold qCJ17nn; rw [if_pos d1]]
    exact qCJ17nn_p1 rC xd d1
  ·
    rw [show qCJ17nn rC xd = xd.1 from by unfold qCJ17nn; rw [if_neg (nt d1)]]
    exact qCJ17nn_p2 rC xd d1
theorem rClock_p1 (r : RPic) (rM : Nat → Int) (rN : Nat → Int) (rS : Nat → Int) (rC : List Man) (w1c : ∀ j, rng 256 (rM j)) (w2c : PlaceOk (qCJ4 r rC (qCJ2 r rC r)).S.V) (w3c : 0 ≤ (qCJ4 r rC (qCJ2 r rC r)).S.X ∧ (qCJ4 r rC (qCJ2 r rC r)).S.X < 8) (w4c : (qCJ5 r rC) = true → 0 ≤ (i64.wrap ((qCJ4 r rC (qCJ2 r rC r)).Dot - 1)) ∧ (i64.wrap ((qCJ4 r rC (qCJ2 r rC r)).Dot - 1)) < 256) (w5c : (qCJ5 r rC) = true → 0 ≤ (qCJ4 r rC (qCJ2 r rC r)).Line ∧ (qCJ4 r rC (qCJ2 r rC r)).Line < 240) (w6c : ∀ c ∈ rC, ManOk c) (w7c : rC.length ≤ 8) (c1 : (((qCJ8 rC ((qCJ6 r rM rN rC ((qCJ4 r rC (qCJ2 r rC r)), rS)).1, (decide ((Int.tmod (i64.wrap (Int.tdiv (((qCJ6 r rM rN rC ((qCJ4 r rC (qCJ2 r rC r)), rS)).1).Mask) 8)) 4) > 0)), (qCJ7 r rM rN rS rC (decide ((Int.tmod (i64.wrap (Int.tdiv (((qCJ6 r rM rN rC ((qCJ4 r rC (qCJ2 r rC r)), rS)).1).Mask) 8)) 4) > 0))))).Dot : Int) == 257) = true) (w8c : ∀ j, rng 256 (rN j)) (w9c : 0 ≤ (qCJ8 rC ((qCJ6 r rM rN rC ((qCJ4 r rC (qCJ2 r rC r)), rS)).1, (decide ((Int.tmod (i64.wrap (Int.tdiv (((qCJ6 r rM rN rC ((qCJ4 r rC (qCJ2 r rC r)), rS)).1).Mask) 8)) 4) > 0)), (qCJ7 r rM rN rS rC (decide ((Int.tmod (i64.wrap (Int.tdiv (((qCJ6 r rM rN rC ((qCJ4 r rC (qCJ2 r rC r)), rS)).1).Mask) 8)) 4) > 0))))).Line ∧ (qCJ8 rC ((qCJ6 r rM rN rC ((qCJ4 r rC (qCJ2 r rC r)), rS)).1, (decide ((Int.tmod (i64.wrap (Int.tdiv (((qCJ6 r rM rN rC ((qCJ4 r rC (qCJ2 r rC r)), rS)).1).Mask) 8)) 4) > 0)), (qCJ7 r rM rN rS rC (decide ((Int.tmod (i64.wrap (Int.tdiv (((qCJ6 r rM rN rC ((qCJ4 r rC (qCJ2 r rC r)), rS)).1).Mask) 8)) 4) > 0))))).Line < 300) (w10c : rng 256 (qCJ8 rC ((qCJ6 r rM rN rC ((qCJ4 r rC (qCJ2 r rC r)), rS)).1, (decide ((Int.tmod (i64.wrap (Int.tdiv (((qCJ6 r rM rN rC ((qCJ4 r rC (qCJ2 r rC r)), rS)).1).Mask) 8)) 4) > 0)), (qCJ7 r rM rN rS rC (decide ((Int.tmod (i64.wrap (Int.tdiv (((qCJ6 r rM rN rC ((qCJ4 r rC (qCJ2 r rC r)), rS)).1).Mask) 8)) 4) > 0))))).Mask) (c2 : (decide (((i64.wrap (((rChooseF (qCJ8 rC ((qCJ6 r rM rN rC ((qCJ4 r rC (qCJ2 r rC r)), rS)).1, (decide ((Int.tmod (i64.wrap (Int.tdiv (((qCJ6 r rM rN rC ((qCJ4 r rC (qCJ2 r rC r)), rS)).1).Mask) 8)) 4) > 0)), (qCJ7 r rM rN rS rC (decide ((Int.tmod (i64.wrap (Int.tdiv (((qCJ6 r rM rN rC ((qCJ4 r rC (qCJ2 r rC r)), rS)).1).Mask) 8)) 4) > 0))))) rM rN ((qCJ6 r rM rN rC ((qCJ4 r rC (qCJ2 r rC r)), rS)).2) rC).1).Dot + 1)) : Int) ≤ (qCJ16y (qCJ15y r rM rN rS rC)))) = true) : FnSpec Try.prog 58 1005 [pt 1000] [(1000, (RPic.bl r (sl 1001 16384 1) (sl 1002 256 1) (sl 1004 (List.length rC) 4) (sl 1003 61440 1) false)), (1001, iB 16384 rM false), (1002, iB 256 rN false), (1003, iB 61440 rS false), (1004, mB rC false)] (.tuple ⟨[]⟩) [(1000, (RPic.bl ((({ ((rChooseF (qCJ8 rC ((qCJ6 r rM rN rC ((qCJ4 r rC (qCJ2 r rC r)), rS)).1, (decide ((Int.tmod (i64.wrap (Int.tdiv (((qCJ6 r rM rN rC ((qCJ4 r rC (qCJ2 r rC r)), rS)).1).Mask) 8)) 4) > 0)), (qCJ7 r rM rN rS rC (decide ((Int.tmod (i64.wrap (Int.tdiv (((qCJ6 r rM rN rC ((qCJ4 r rC (qCJ2 r rC r)), rS)).1).Mask) 8)) 4) > 0))))) rM rN ((qCJ6 r rM rN rC ((qCJ4 r rC (qCJ2 r rC r)), rS)).2) rC).1) with Dot := (i64.wrap (((rChooseF (qCJ8 rC ((qCJ6 r rM rN rC ((qCJ4 r rC (qCJ2 r rC r)), rS)).1, (decide ((Int.tmod (i64.wrap (Int.tdiv (((qCJ6 r rM rN rC ((qCJ4 r rC (qCJ2 r rC r)), rS)).1).Mask) 8)) 4) > 0)), (qCJ7 r rM rN rS rC (decide ((Int.tmod (i64.wrap (Int.tdiv (((qCJ6 r rM rN rC ((qCJ4 r rC (qCJ2 r rC r)), rS)).1).Mask) 8)) 4) > 0))))) rM rN ((qCJ6 r rM rN rC ((qCJ4 r rC (qCJ2 r rC r)), rS)).2) rC).1).Dot + 1)) } : RPic), ((qCJ6 r rM rN rC ((qCJ4 r rC (qCJ2 r rC r)), rS)).2), (rChooseF (qCJ8 rC ((qCJ6 r rM rN rC ((qCJ4 r rC (qCJ2 r rC r)), rS)).1, (decide ((Int.tmod (i64.wrap (Int.tdiv (((qCJ6 r rM rN rC ((qCJ4 r rC (qCJ2 r rC r)), rS)).1).Mask) 8)) 4) > 0)), (qCJ7 r rM rN rS rC (decide ((Int.tmod (i64.wrap (Int.tdiv (((qCJ6 r rM rN rC ((qCJ4 r rC (qCJ2 r rC r)), rS)).1).Mask) 8)) 4) > 0))))) rM rN ((qCJ6 r rM rN rC ((qCJ4 r rC (qCJ2 r rC r)), rS)).2) rC).2).1) (sl 1001 16384 1) (sl 1002 256 1) (sl 1005 (List.length ((({ ((rChooseF (qCJ8 rC ((qCJ6 r rM rN rC ((qCJ4 r rC (qCJ2 r rC r)), rS)).1, (decide ((Int.tmod (i64.wrap (Int.tdiv (((qCJ6 r rM rN rC ((qCJ4 r rC (qCJ2 r rC r)), rS)).1).Mask) 8)) 4) > 0)), (qCJ7 r rM rN rS rC (decide ((Int.tmod (i64.wrap (Int.tdiv (((qCJ6 r rM rN rC ((qCJ4 r rC (qCJ2 r rC r)), rS)).1).Mask) 8)) 4) > 0))))) rM rN ((qCJ6 r rM rN rC ((qCJ4 r rC (qCJ2 r rC r)), rS)).2) rC).1) with Dot := (i64.wrap (((rChooseF (qCJ8 rC ((qCJ6 r rM rN rC ((qCJ4 r rC (qCJ2 r rC r)), rS)).1, (decide ((Int.tmod (i64.wrap (Int.tdiv (((qCJ6 r rM rN rC ((qCJ4 r rC (qCJ2 r rC r)), rS)).1).Mask) 8)) 4) > 0)), (qCJ7 r rM rN rS rC (decide ((Int.tmod (i64.wrap (Int.tdiv (((qCJ6 r rM rN rC ((qCJ4 r rC (qCJ2 r rC r)), rS)).1).Mask) 8)) 4) > 0))))) rM rN ((qCJ6 r rM rN rC ((qCJ4 r rC (qCJ2 r rC r)), rS)).2) rC).1).Dot + 1)) } : RPic), ((qCJ6 r rM rN rC ((qCJ4 r rC (qCJ2 r rC r)), rS)).2), (rChooseF (qCJ8 rC ((qCJ6 r rM rN rC ((qCJ4 r rC (qCJ2 r rC r)), rS)).1, (decide ((Int.tmod (i64.wrap (Int.tdiv (((qCJ6 r rM rN rC ((qCJ4 r rC (qCJ2 r rC r)), rS)).1).Mask) 8)) 4) > 0)), (qCJ7 r rM rN rS rC (decide ((Int.tmod (i64.wrap (Int.tdiv (((qCJ6 r rM rN rC ((qCJ4 r rC (qCJ2 r rC r)), rS)).1).Mask) 8)) 4) > 0))))) rM rN ((qCJ6 r rM rN rC ((qCJ4 r rC (qCJ2 r rC r)), rS)).2) rC).2).2.2)) 4) (sl 1003 61440 1) false)), (1001, iB 16384 rM false), (1002, iB 256 rN false), (1003, ⟨[.ints .u8 61440 ((({ ((rChooseF (qCJ8 rC ((qCJ6 r rM rN rC ((qCJ4 r rC (qCJ2 r rC r)), rS)).1, (decide ((Int.tmod (i64.wrap (Int.tdiv (((qCJ6 r rM rN rC ((qCJ4 r rC (qCJ2 r rC r)), rS)).1).Mask) 8)) 4) > 0)), (qCJ7 r rM rN rS rC (decide ((Int.tmod (i64.wrap (Int.tdiv (((qCJ6 r rM rN rC ((qCJ4 r rC (qCJ2 r rC r)), rS)).1).Mask) 8)) 4) > 0))))) rM rN ((qCJ6 r rM rN rC ((qCJ4 r rC (qCJ2 r rC r)), rS)).2) rC).1) with Dot := (i64.wrap (((rChooseF (qCJ8 rC ((qCJ6 r rM rN rC ((qCJ4 r rC (qCJ2 r rC r)), rS)).1, (decide ((Int.tmod (i64.wrap (Int.tdiv (((qCJ6 r rM rN rC ((qCJ4 r rC (qCJ2 r rC r)), rS)).1).Mask) 8)) 4) > 0)), (qCJ7 r rM rN rS rC (decide ((Int.tmod (i64.wrap (Int.tdiv (((qCJ6 r rM rN rC ((qCJ4 r rC (qCJ2 r rC r)), rS)).1).Mask) 8)) 4) > 0))))) rM rN ((qCJ6 r rM rN rC ((qCJ4 r rC (qCJ2 r rC r)), rS)).2) rC).1).Dot + 1)) } : RPic), ((qCJ6 r rM rN rC ((qCJ4 r rC (qCJ2 r rC r)), rS)).2), (rChooseF (qCJ8 rC ((qCJ6 r rM rN rC ((qCJ4 r rC (qCJ2 r rC r)), rS)).1, (decide ((Int.tmod (i64.wrap (Int.tdiv (((qCJ6 r rM rN rC ((qCJ4 r rC (qCJ2 r rC r)), rS)).1).Mask) 8)) 4) > 0)), (qCJ7 r rM rN rS rC (decide ((Int.tmod (i64.wrap (Int.tdiv (((qCJ6 r rM rN rC ((qCJ4 r rC (qCJ2 r rC r)), rS)).1).Mask) 8)) 4) > 0))))) rM rN ((qCJ6 r rM rN rC ((qCJ4 r rC (qCJ2 r rC r)), rS)).2) rC).2).2.1)], 5, false⟩), (1005, ⟨[rowsL Man.cells Man.nil 4 ((({ ((rChooseF (qCJ8 rC ((qCJ6 r rM rN rC ((qCJ4 r rC (qCJ2 r rC r)), rS)).1, (decide ((Int.tmod (i64.wrap (Int.tdiv (((qCJ6 r rM rN rC ((qCJ4 r rC (qCJ2 r rC r)), rS)).1).Mask) 8)) 4) > 0)), (qCJ7 r rM rN rS rC (decide ((Int.tmod (i64.wrap (Int.tdiv (((qCJ6 r rM rN rC ((qCJ4 r rC (qCJ2 r rC r)), rS)).1).Mask) 8)) 4) > 0))))) rM rN ((qCJ6 r rM rN rC ((qCJ4 r rC (qCJ2 r rC r)), rS)).2) rC).1) with Dot := (i64.wrap (((rChooseF (qCJ8 rC ((qCJ6 r rM rN rC ((qCJ4 r rC (qCJ2 r rC r)), rS)).1, (decide ((Int.tmod (i64.wrap (Int.tdiv (((qCJ6 r rM rN rC ((qCJ4 r rC (qCJ2 r rC r)), rS)).1).Mask) 8)) 4) > 0)), (qCJ7 r rM rN rS rC (decide ((Int.tmod (i64.wrap (Int.tdiv (((qCJ6 r rM rN rC ((qCJ4 r rC (qCJ2 r rC r)), rS)).1).Mask) 8)) 4) > 0))))) rM rN ((qCJ6 r rM rN rC ((qCJ4 r rC (qCJ2 r rC r)), rS)).2) rC).1).Dot + 1)) } : RPic), ((qCJ6 r rM rN rC ((qCJ4 r rC (qCJ2 r rC r)), rS)).2), (rChooseF (qCJ8 rC ((qCJ6 r rM rN rC ((qCJ4 r rC (qCJ2 r rC r)), rS)).1, (decide ((Int.tmod (i64.wrap (Int.tdiv (((qCJ6 r rM rN rC ((qCJ4 r rC (qCJ2 r rC r)), rS)).1).Mask) 8)) 4) > 0)), (qCJ7 r rM rN rS rC (decide ((Int.tmod (i64.wrap (Int.tdiv (((qCJ6 r rM rN rC ((qCJ4 r rC (qCJ2 r rC r)), rS)).1).Mask) 8)) 4) > 0))))) rM rN ((qCJ6 r rM rN rC ((qCJ4 r rC (qCJ2 r rC r)), rS)).2) rC).2).2.2)], 119, false⟩)] := by
  exact fn_ren (v := .tuple ⟨[]⟩) (H1 := [(1000, ⟨[.one (sl 1001 16384 1), .one (sl 1002 256 1), .one (.int .i64 (((NIk1 rC r rM rN rS).1).At)), .one (.int .i64 (((((NIk1 rC r rM rN rS).1).S).V).Column)), .one (.int .i64 (((((NIk1 rC r rM rN rS).1).S).V).Line)), .one (.int .i64 (((((NIk1 rC r rM rN rS).1).S).V).Across)), .one (.int .i64 (((((NIk1 rC r rM rN rS).1).S).V).Down)), .one (.int .i64 (((((NIk1 rC r rM rN rS).1).S).V).Row)), .one (.int .i64 (((((NIk1 rC r rM rN rS).1).S).T).Column)), .one (.int .i64 (((((NIk1 rC r rM rN rS).1).S).T).Line)), .one (.int .i64 (((((NIk1 rC r rM rN rS).1).S).T).Across)), .one (.int .i64 (((((NIk1 rC r rM rN rS).1).S).T).Down)), .one (.int .i64 (((((NIk1 rC r rM rN rS).1).S).T).Row)), .one (.int .i64 ((((NIk1 rC r rM rN rS).1).S).X)), .one (.bool ((((NIk1 rC r rM rN rS).1).S).W)), .one (.int .i64 (((NIk1 rC r rM rN rS).1).Control)), .one (.int .i64 (((NIk1 rC r rM rN rS).1).Mask)), .one (.bool (((NIk1 rC r rM rN rS).1).Blank)), .one (.bool (((NIk1 rC r rM rN rS).1).Hit)), .one (.bool (((NIk1 rC r rM rN rS).1).Many)), .one (.int .i64 (((NIk1 rC r rM rN rS).1).Waits)), .one (.int .i64 (((NIk1 rC r rM rN rS).1).Bus)), .one (.bool (((NIk1 rC r rM rN rS).1).Upright)), .one (.int .i64 (((NIk1 rC r rM rN rS).1).Line)), .one (.int .i64 (i64.wrap (((NIk1 rC r rM rN rS).1).Dot + 1))), .one (.int .i64 (((NIk1 rC r rM rN rS).1).Begun)), .one (.int .i64 (((NIk1 rC r rM rN rS).1).Done)), .one (sl 1005 (List.length ((NIk1 rC r rM rN rS).2)) 4), .one (sl 1003 61440 1)], 59, false⟩), (1001, iB 16384 rM false), (1002, iB 256 rN false), (1003, ⟨[.ints .u8 61440 ((qCJ6 r rM rN rC ((NIk6 r rC), rS)).2)], 5, false⟩), (1005, ⟨[rowsL Man.cells Man.nil 4 ((NIk1 rC r rM rN rS).2)], 119, false⟩)]) (fn_of_x hG hM Try.func58 (by kernel_rfl) (by kernel_rfl) 400 [.segk 0 0 [0] [1000] .normal (qCJ1_T1 r rC (qCJ1 r rC)) (qCJ1_H1 r rC (qCJ1 r rC)) 1005, .segk 2 0 [0, 15] [1000] .normal (qCJ2_T1 r rC r (qCJ2 r rC r)) (qCJ2_H1 r rC r (qCJ2 r rC r)) 1005, .segk 0 3 [0] [1000] .normal (qCJ3_T1 r rC (qCJ3 r rC)) (qCJ3_H1 r rC (qCJ3 r rC)) 1005, .segk 2 0 [0, 37] [1000] .normal (qCJ4_T1 r rC (qCJ2 r rC r) (NIk6 r rC)) (qCJ4_H1 r rC (qCJ2 r rC r) (NIk6 r rC)) 1005, .segk 0 5 [0] [1000] .normal (qCJ5_T1 r rC (qCJ5 r rC)) (qCJ5_H1 r rC (qCJ5 r rC)) 1005, .segk 2 0 [0, 65] [1000, 1001, 1002, 1003, 1004] .normal (qCJ6_T1 r rM rN rC ((NIk6 r rC), rS) (qCJ6 r rM rN rC ((NIk6 r rC), rS))) (qCJ6_H1 r rM rN rC ((NIk6 r rC), rS) (qCJ6 r rM rN rC ((NIk6 r rC), rS))) 1005, .segk 0 8 [0, 2] [1000] .normal (qCJ7_T1 r rM rN rS rC (NIk3 r rM rN rC rS) (qCJ7 r rM rN rS rC (NIk3 r rM rN rC rS))) (qCJ7_H1 r rM rN rS rC (NIk3 r rM rN rC rS) (qCJ7 r rM rN rS rC (NIk3 r rM rN rC rS))) 1005, .segk 2 0 [0, 2, 94] [1000] .normal (qCJ8_T1 rC (NIk0 r rM rN rC rS) (NIk8 rC r rM rN rS)) (qCJ8_H1 rC (NIk0 r rM rN rC rS) (NIk8 rC r rM rN rS)) 1005, .yes, .call [(1000, 1000), (1001, 1001), (1002, 1002), (1003, 1003), (1004, 1004)] [(1005, 1005)] 1005 (.tuple ⟨[]⟩) [(1000, (RPic.bl ((NIk1 rC r rM rN rS).1) (sl 1001 16384 1) (sl 1002 256 1) (sl 1005 (List.length ((NIk1 rC r rM rN rS).2)) 4) (sl 1003 61440 1) false)), (1001, iB 16384 rM false), (1002, iB 256 rN false), (1003, ⟨[.ints .u8 61440 ((qCJ6 r rM rN rC ((NIk6 r rC), rS)).2)], 5, false⟩), (1005, ⟨[rowsL Man.cells Man.nil 4 ((NIk1 rC r rM rN rS).2)], 119, false⟩)], .segk 0 20 [0, 2, 3] [1000] .normal (qCJ15y_T1 r rM rN rS rC (qCJ15y r rM rN rS rC)) (qCJ15y_H1 r rM rN rS rC (qCJ15y r rM rN rS rC)) 1006, .segk 2 0 [0, 3, 205] [] .normal (qCJ16y_T1 (qCJ15y r rM rN rS rC) (qCJ16y (qCJ15y r rM rN rS rC))) (qCJ16y_H1 (qCJ15y r rM rN rS rC) (qCJ16y (qCJ15y r rM rN rS rC))) 1006, .yes] (J (qCJ1_runs r rC) (J (qCJ2_runs r rC r) (J (qCJ3_runs r rC) (J (qCJ4_runs r rC (qCJ2 r rC r)) (J (qCJ5_runs r rC) (J (qCJ6_runs r rM rN rC ((NIk6 r rC), rS) w1c w2c w3c w4c w5c w6c w7c) (J (by decide : ((8 : Int) ≠ 0)) (J (by decide : ((4 : Int) ≠ 0)) (J (qCJ7_runs r rM rN rS rC (NIk3 r rM rN rC rS)) (J (qCJ8_runs rC (NIk0 r rM rN rC rS)) (J c1 (J (rChooseF_ok (NIk8 rC r rM rN rS) rM rN ((qCJ6 r rM rN rC ((NIk6 r rC), rS)).2) rC w1c w8c w9c w10c) (J (qCJ15y_runs r rM rN rS rC) (J (qCJ16y_runs (qCJ15y r rM rN rS rC)) (J c2 trivial))))))))))))))) (by kernel_rfl)) [(1000, 1000), (1001, 1001), (1002, 1002), (1003, 1003), (1005, 1005)] 1006 (by kernel_rfl)
abbrev NIk5 (rC : List Man) (r : RPic) (rM rN rS : Nat → Int) := (({ ((NIk1 rC r rM rN rS).1) with Line := (i64.wrap (((NIk1 rC r rM rN rS).1).Line + 1)), Dot := 0 } : RPic), (((i64.wrap (((NIk1 rC r rM rN rS).1).Line + 1)) : Int) == 262))
theorem rClock_p2 (r : RPic) (rM : Nat → Int) (rN : Nat → Int) (rS : Nat → Int) (rC : List Man) (w1c : ∀ j, rng 256 (rM j)) (w2c : PlaceOk (qCJ4 r rC (qCJ2 r rC r)).S.V) (w3c : 0 ≤ (qCJ4 r rC (qCJ2 r rC r)).S.X ∧ (qCJ4 r rC (qCJ2 r rC r)).S.X < 8) (w4c : (qCJ5 r rC) = true → 0 ≤ (i64.wrap ((qCJ4 r rC (qCJ2 r rC r)).Dot - 1)) ∧ (i64.wrap ((qCJ4 r rC (qCJ2 r rC r)).Dot - 1)) < 256) (w5c : (qCJ5 r rC) = true → 0 ≤ (qCJ4 r rC (qCJ2 r rC r)).Line ∧ (qCJ4 r rC (qCJ2 r rC r)).Line < 240) (w6c : ∀ c ∈ rC, ManOk c) (w7c : rC.length ≤ 8) (c1 : (((qCJ8 rC ((qCJ6 r rM rN rC ((qCJ4 r rC (qCJ2 r rC r)), rS)).1, (decide ((Int.tmod (i64.wrap (Int.tdiv (((qCJ6 r rM rN rC ((qCJ4 r rC (qCJ2 r rC r)), rS)).1).Mask) 8)) 4) > 0)), (qCJ7 r rM rN rS rC (decide ((Int.tmod (i64.wrap (Int.tdiv (((qCJ6 r rM rN rC ((qCJ4 r rC (qCJ2 r rC r)), rS)).1).Mask) 8)) 4) > 0))))).Dot : Int) == 257) = true) (w8c : ∀ j, rng 256 (rN j)) (w9c : 0 ≤ (qCJ8 rC ((qCJ6 r rM rN rC ((qCJ4 r rC (qCJ2 r rC r)), rS)).1, (decide ((Int.tmod (i64.wrap (Int.tdiv (((qCJ6 r rM rN rC ((qCJ4 r rC (qCJ2 r rC r)), rS)).1).Mask) 8)) 4) > 0)), (qCJ7 r rM rN rS rC (decide ((Int.tmod (i64.wrap (Int.tdiv (((qCJ6 r rM rN rC ((qCJ4 r rC (qCJ2 r rC r)), rS)).1).Mask) 8)) 4) > 0))))).Line ∧ (qCJ8 rC ((qCJ6 r rM rN rC ((qCJ4 r rC (qCJ2 r rC r)), rS)).1, (decide ((Int.tmod (i64.wrap (Int.tdiv (((qCJ6 r rM rN rC ((qCJ4 r rC (qCJ2 r rC r)), rS)).1).Mask) 8)) 4) > 0)), (qCJ7 r rM rN rS rC (decide ((Int.tmod (i64.wrap (Int.tdiv (((qCJ6 r rM rN rC ((qCJ4 r rC (qCJ2 r rC r)), rS)).1).Mask) 8)) 4) > 0))))).Line < 300) (w10c : rng 256 (qCJ8 rC ((qCJ6 r rM rN rC ((qCJ4 r rC (qCJ2 r rC r)), rS)).1, (decide ((Int.tmod (i64.wrap (Int.tdiv (((qCJ6 r rM rN rC ((qCJ4 r rC (qCJ2 r rC r)), rS)).1).Mask) 8)) 4) > 0)), (qCJ7 r rM rN rS rC (decide ((Int.tmod (i64.wrap (Int.tdiv (((qCJ6 r rM rN rC ((qCJ4 r rC (qCJ2 r rC r)), rS)).1).Mask) 8)) 4) > 0))))).Mask) (c2 : (decide (((i64.wrap (((rChooseF (qCJ8 rC ((qCJ6 r rM rN rC ((qCJ4 r rC (qCJ2 r rC r)), rS)).1, (decide ((Int.tmod (i64.wrap (Int.tdiv (((qCJ6 r rM rN rC ((qCJ4 r rC (qCJ2 r rC r)), rS)).1).Mask) 8)) 4) > 0)), (qCJ7 r rM rN rS rC (decide ((Int.tmod (i64.wrap (Int.tdiv (((qCJ6 r rM rN rC ((qCJ4 r rC (qCJ2 r rC r)), rS)).1).Mask) 8)) 4) > 0))))) rM rN ((qCJ6 r rM rN rC ((qCJ4 r rC (qCJ2 r rC r)), rS)).2) rC).1).Dot + 1)) : Int) ≤ (qCJ16y (qCJ15y r rM rN rS rC)))) = false) : FnSpec Try.prog 58 1005 [pt 1000] [(1000, (RPic.bl r (sl 1001 16384 1) (sl 1002 256 1) (sl 1004 (List.length rC) 4) (sl 1003 61440 1) false)), (1001, iB 16384 rM false), (1002, iB 256 rN false), (1003, iB 61440 rS false), (1004, mB rC false)] (.tuple ⟨[]⟩) [(1000, (RPic.bl (((qCJ17yn r rM rN rS rC (({ ((rChooseF (qCJ8 rC ((qCJ6 r rM rN rC ((qCJ4 r rC (qCJ2 r rC r)), rS)).1, (decide ((Int.tmod (i64.wrap (Int.tdiv (((qCJ6 r rM rN rC ((qCJ4 r rC (qCJ2 r rC r)), rS)).1).Mask) 8)) 4) > 0)), (qCJ7 r rM rN rS rC (decide ((Int.tmod (i64.wrap (Int.tdiv (((qCJ6 r rM rN rC ((qCJ4 r rC (qCJ2 r rC r)), rS)).1).Mask) 8)) 4) > 0))))) rM rN ((qCJ6 r rM rN rC ((qCJ4 r rC (qCJ2 r rC r)), rS)).2) rC).1) with Line := (i64.wrap (((rChooseF (qCJ8 rC ((qCJ6 r rM rN rC ((qCJ4 r rC (qCJ2 r rC r)), rS)).1, (decide ((Int.tmod (i64.wrap (Int.tdiv (((qCJ6 r rM rN rC ((qCJ4 r rC (qCJ2 r rC r)), rS)).1).Mask) 8)) 4) > 0)), (qCJ7 r rM rN rS rC (decide ((Int.tmod (i64.wrap (Int.tdiv (((qCJ6 r rM rN rC ((qCJ4 r rC (qCJ2 r rC r)), rS)).1).Mask) 8)) 4) > 0))))) rM rN ((qCJ6 r rM rN rC ((qCJ4 r rC (qCJ2 r rC r)), rS)).2) rC).1).Line + 1)), Dot := 0 } : RPic), (((i64.wrap (((rChooseF (qCJ8 rC ((qCJ6 r rM rN rC ((qCJ4 r rC (qCJ2 r rC r)), rS)).1, (decide ((Int.tmod (i64.wrap (Int.tdiv (((qCJ6 r rM rN rC ((qCJ4 r rC (qCJ2 r rC r)), rS)).1).Mask) 8)) 4) > 0)), (qCJ7 r rM rN rS rC (decide ((Int.tmod (i64.wrap (Int.tdiv (((qCJ6 r rM rN rC ((qCJ4 r rC (qCJ2 r rC r)), rS)).1).Mask) 8)) 4) > 0))))) rM rN ((qCJ6 r rM rN rC ((qCJ4 r rC (qCJ2 r rC r)), rS)).2) rC).1).Line + 1)) : Int) == 262))), ((qCJ6 r rM rN rC ((qCJ4 r rC (qCJ2 r rC r)), rS)).2), (rChooseF (qCJ8 rC ((qCJ6 r rM rN rC ((qCJ4 r rC (qCJ2 r rC r)), rS)).1, (decide ((Int.tmod (i64.wrap (Int.tdiv (((qCJ6 r rM rN rC ((qCJ4 r rC (qCJ2 r rC r)), rS)).1).Mask) 8)) 4) > 0)), (qCJ7 r rM rN rS rC (decide ((Int.tmod (i64.wrap (Int.tdiv (((qCJ6 r rM rN rC ((qCJ4 r rC (qCJ2 r rC r)), rS)).1).Mask) 8)) 4) > 0))))) rM rN ((qCJ6 r rM rN rC ((qCJ4 r rC (qCJ2 r rC r)), rS)).2) rC).2).1) (sl 1001 16384 1) (sl 1002 256 1) (sl 1005 (List.length (((qCJ17yn r rM rN rS rC (({ ((rChooseF (qCJ8 rC ((qCJ6 r rM rN rC ((qCJ4 r rC (qCJ2 r rC r)), rS)).1, (decide ((Int.tmod (i64.wrap (Int.tdiv (((qCJ6 r rM rN rC ((qCJ4 r rC (qCJ2 r rC r)), rS)).1).Mask) 8)) 4) > 0)), (qCJ7 r rM rN rS rC (decide ((Int.tmod (i64.wrap (Int.tdiv (((qCJ6 r rM rN rC ((qCJ4 r rC (qCJ2 r rC r)), rS)).1).Mask) 8)) 4) > 0))))) rM rN ((qCJ6 r rM rN rC ((qCJ4 r rC (qCJ2 r rC r)), rS)).2) rC).1) with Line := (i64.wrap (((rChooseF (qCJ8 rC ((qCJ6 r rM rN rC ((qCJ4 r rC (qCJ2 r rC r)), rS)).1, (decide ((Int.tmod (i64.wrap (Int.tdiv (((qCJ6 r rM rN rC ((qCJ4 r rC (qCJ2 r rC r)), rS)).1).Mask) 8)) 4) > 0)), (qCJ7 r rM rN rS rC (decide ((Int.tmod (i64.wrap (Int.tdiv (((qCJ6 r rM rN rC ((qCJ4 r rC (qCJ2 r rC r)), rS)).1).Mask) 8)) 4) > 0))))) rM rN ((qCJ6 r rM rN rC ((qCJ4 r rC (qCJ2 r rC r)), rS)).2) rC).1).Line + 1)), Dot := 0 } : RPic), (((i64.wrap (((rChooseF (qCJ8 rC ((qCJ6 r rM rN rC ((qCJ4 r rC (qCJ2 r rC r)), rS)).1, (decide ((Int.tmod (i64.wrap (Int.tdiv (((qCJ6 r rM rN rC ((qCJ4 r rC (qCJ2 r rC r)), rS)).1).Mask) 8)) 4) > 0)), (qCJ7 r rM rN rS rC (decide ((Int.tmod (i64.wrap (Int.tdiv (((qCJ6 r rM rN rC ((qCJ4 r rC (qCJ2 r rC r)), rS)).1).Mask) 8)) 4) > 0))))) rM rN ((qCJ6 r rM rN rC ((qCJ4 r rC (qCJ2 r rC r)), rS)).2) rC).1).Line + 1)) : Int) == 262))), ((qCJ6 r rM rN rC ((qCJ4 r rC (qCJ2 r rC r)), rS)).2), (rChooseF (qCJ8 rC ((qCJ6 r rM rN rC ((qCJ4 r rC (qCJ2 r rC r)), rS)).1, (decide ((Int.tmod (i64.wrap (Int.tdiv (((qCJ6 r rM rN rC ((qCJ4 r rC (qCJ2 r rC r)), rS)).1).Mask) 8)) 4) > 0)), (qCJ7 r rM rN rS rC (decide ((Int.tmod (i64.wrap (Int.tdiv (((qCJ6 r rM rN rC ((qCJ4 r rC (qCJ2 r rC r)), rS)).1).Mask) 8)) 4) > 0))))) rM rN ((qCJ6 r rM rN rC ((qCJ4 r rC (qCJ2 r rC r)), rS)).2) rC).2).2.2)) 4) (sl 1003 61440 1) false)), (1001, iB 16384 rM false), (1002, iB 256 rN false), (1003, ⟨[.ints .u8 61440 (((qCJ17yn r rM rN rS rC (({ ((rChooseF (qCJ8 rC ((qCJ6 r rM rN rC ((qCJ4 r rC (qCJ2 r rC r)), rS)).1, (decide ((Int.tmod (i64.wrap (Int.tdiv (((qCJ6 r rM rN rC ((qCJ4 r rC (qCJ2 r rC r)), rS)).1).Mask) 8)) 4) > 0)), (qCJ7 r rM rN rS rC (decide ((Int.tmod (i64.wrap (Int.tdiv (((qCJ6 r rM rN rC ((qCJ4 r rC (qCJ2 r rC r)), rS)).1).Mask) 8)) 4) > 0))))) rM rN ((qCJ6 r rM rN rC ((qCJ4 r rC (qCJ2 r rC r)), rS)).2) rC).1) with Line := (i64.wrap (((rChooseF (qCJ8 rC ((qCJ6 r rM rN rC ((qCJ4 r rC (qCJ2 r rC r)), rS)).1, (decide ((Int.tmod (i64.wrap (Int.tdiv (((qCJ6 r rM rN rC ((qCJ4 r rC (qCJ2 r rC r)), rS)).1).Mask) 8)) 4) > 0)), (qCJ7 r rM rN rS rC (decide ((Int.tmod (i64.wrap (Int.tdiv (((qCJ6 r rM rN rC ((qCJ4 r rC (qCJ2 r rC r)), rS)).1).Mask) 8)) 4) > 0))))) rM rN ((qCJ6 r rM rN rC ((qCJ4 r rC (qCJ2 r rC r)), rS)).2) rC).1).Line + 1)), Dot := 0 } : RPic), (((i64.wrap (((rChooseF (qCJ8 rC ((qCJ6 r rM rN rC ((qCJ4 r rC (qCJ2 r rC r)), rS)).1, (decide ((Int.tmod (i64.wrap (Int.tdiv (((qCJ6 r rM rN rC ((qCJ4 r rC (qCJ2 r rC r)), rS)).1).Mask) 8)) 4) > 0)), (qCJ7 r rM rN rS rC (decide ((Int.tmod (i64.wrap (Int.tdiv (((qCJ6 r rM rN rC ((qCJ4 r rC (qCJ2 r rC r)), rS)).1).Mask) 8)) 4) > 0))))) rM rN ((qCJ6 r rM rN rC ((qCJ4 r rC (qCJ2 r rC r)), rS)).2) rC).1).Line + 1)) : Int) == 262))), ((qCJ6 r rM rN rC ((qCJ4 r rC (qCJ2 r rC r)), rS)).2), (rChooseF (qCJ8 rC ((qCJ6 r rM rN rC ((qCJ4 r rC (qCJ2 r rC r)), rS)).1, (decide ((Int.tmod (i64.wrap (Int.tdiv (((qCJ6 r rM rN rC ((qCJ4 r rC (qCJ2 r rC r)), rS)).1).Mask) 8)) 4) > 0)), (qCJ7 r rM rN rS rC (decide ((Int.tmod (i64.wrap (Int.tdiv (((qCJ6 r rM rN rC ((qCJ4 r rC (qCJ2 r rC r)), rS)).1).Mask) 8)) 4) > 0))))) rM rN ((qCJ6 r rM rN rC ((qCJ4 r rC (qCJ2 r rC r)), rS)).2) rC).2).2.1)], 5, false⟩), (1005, ⟨[rowsL Man.cells Man.nil 4 (((qCJ17yn r rM rN rS rC (({ ((rChooseF (qCJ8 rC ((qCJ6 r rM rN rC ((qCJ4 r rC (qCJ2 r rC r)), rS)).1, (decide ((Int.tmod (i64.wrap (Int.tdiv (((qCJ6 r rM rN rC ((qCJ4 r rC (qCJ2 r rC r)), rS)).1).Mask) 8)) 4) > 0)), (qCJ7 r rM rN rS rC (decide ((Int.tmod (i64.wrap (Int.tdiv (((qCJ6 r rM rN rC ((qCJ4 r rC (qCJ2 r rC r)), rS)).1).Mask) 8)) 4) > 0))))) rM rN ((qCJ6 r rM rN rC ((qCJ4 r rC (qCJ2 r rC r)), rS)).2) rC).1) with Line := (i64.wrap (((rChooseF (qCJ8 rC ((qCJ6 r rM rN rC ((qCJ4 r rC (qCJ2 r rC r)), rS)).1, (decide ((Int.tmod (i64.wrap (Int.tdiv (((qCJ6 r rM rN rC ((qCJ4 r rC (qCJ2 r rC r)), rS)).1).Mask) 8)) 4) > 0)), (qCJ7 r rM rN rS rC (decide ((Int.tmod (i64.wrap (Int.tdiv (((qCJ6 r rM rN rC ((qCJ4 r rC (qCJ2 r rC r)), rS)).1).Mask) 8)) 4) > 0))))) rM rN ((qCJ6 r rM rN rC ((qCJ4 r rC (qCJ2 r rC r)), rS)).2) rC).1).Line + 1)), Dot := 0 } : RPic), (((i64.wrap (((rChooseF (qCJ8 rC ((qCJ6 r rM rN rC ((qCJ4 r rC (qCJ2 r rC r)), rS)).1, (decide ((Int.tmod (i64.wrap (Int.tdiv (((qCJ6 r rM rN rC ((qCJ4 r rC (qCJ2 r rC r)), rS)).1).Mask) 8)) 4) > 0)), (qCJ7 r rM rN rS rC (decide ((Int.tmod (i64.wrap (Int.tdiv (((qCJ6 r rM rN rC ((qCJ4 r rC (qCJ2 r rC r)), rS)).1).Mask) 8)) 4) > 0))))) rM rN ((qCJ6 r rM rN rC ((qCJ4 r rC (qCJ2 r rC r)), rS)).2) rC).1).Line + 1)) : Int) == 262))), ((qCJ6 r rM rN rC ((qCJ4 r rC (qCJ2 r rC r)), rS)).2), (rChooseF (qCJ8 rC ((qCJ6 r rM rN rC ((qCJ4 r rC (qCJ2 r rC r)), rS)).1, (decide ((Int.tmod (i64.wrap (Int.tdiv (((qCJ6 r rM rN rC ((qCJ4 r rC (qCJ2 r rC r)), rS)).1).Mask) 8)) 4) > 0)), (qCJ7 r rM rN rS rC (decide ((Int.tmod (i64.wrap (Int.tdiv (((qCJ6 r rM rN rC ((qCJ4 r rC (qCJ2 r rC r)), rS)).1).Mask) 8)) 4) > 0))))) rM rN ((qCJ6 r rM rN rC ((qCJ4 r rC (qCJ2 r rC r)), rS)).2) rC).2).2.2)], 119, false⟩)] := by
  exact fn_ren (v := .tuple ⟨[]⟩) (H1 := [(1000, (RPic.bl (qCJ17yn r rM rN rS rC (NIk5 rC r rM rN rS)) (sl 1001 16384 1) (sl 1002 256 1) (sl 1005 (List.length ((NIk1 rC r rM rN rS).2)) 4) (sl 1003 61440 1) false)), (1001, iB 16384 rM false), (1002, iB 256 rN false), (1003, ⟨[.ints .u8 61440 ((qCJ6 r rM rN rC ((NIk6 r rC), rS)).2)], 5, false⟩), (1005, ⟨[rowsL Man.cells Man.nil 4 ((NIk1 rC r rM rN rS).2)], 119, false⟩)]) (fn_of_x hG hM Try.func58 (by kernel_rfl) (by kernel_rfl) 400 [.segk 0 0 [0] [1000] .normal (qCJ1_T1 r rC (qCJ1 r rC)) (qCJ1_H1 r rC (qCJ1 r rC)) 1005, .segk 2 0 [0, 15] [1000] .normal (qCJ2_T1 r rC r (qCJ2 r rC r)) (qCJ2_H1 r rC r (qCJ2 r rC r)) 1005, .segk 0 3 [0] [1000] .normal (qCJ3_T1 r rC (qCJ3 r rC)) (qCJ3_H1 r rC (qCJ3 r rC)) 1005, .segk 2 0 [0, 37] [1000] .normal (qCJ4_T1 r rC (qCJ2 r rC r) (NIk6 r rC)) (qCJ4_H1 r rC (qCJ2 r rC r) (NIk6 r rC)) 1005, .segk 0 5 [0] [1000] .normal (qCJ5_T1 r rC (qCJ5 r rC)) (qCJ5_H1 r rC (qCJ5 r rC)) 1005, .segk 2 0 [0, 65] [1000, 1001, 1002, 1003, 1004] .normal (qCJ6_T1 r rM rN rC ((NIk6 r rC), rS) (qCJ6 r rM rN rC ((NIk6 r rC), rS))) (qCJ6_H1 r rM rN rC ((NIk6 r rC), rS) (qCJ6 r rM rN rC ((NIk6 r rC), rS))) 1005, .segk 0 8 [0, 2] [1000] .normal (qCJ7_T1 r rM rN rS rC (NIk3 r rM rN rC rS) (qCJ7 r rM rN rS rC (NIk3 r rM rN rC rS))) (qCJ7_H1 r rM rN rS rC (NIk3 r rM rN rC rS) (qCJ7 r rM rN rS rC (NIk3 r rM rN rC rS))) 1005, .segk 2 0 [0, 2, 94] [1000] .normal (qCJ8_T1 rC (NIk0 r rM rN rC rS) (NIk8 rC r rM rN rS)) (qCJ8_H1 rC (NIk0 r rM rN rC rS) (NIk8 rC r rM rN rS)) 1005, .yes, .call [(1000, 1000), (1001, 1001), (1002, 1002), (1003, 1003), (1004, 1004)] [(1005, 1005)] 1005 (.tuple ⟨[]⟩) [(1000, (RPic.bl ((NIk1 rC r rM rN rS).1) (sl 1001 16384 1) (sl 1002 256 1) (sl 1005 (List.length ((NIk1 rC r rM rN rS).2)) 4) (sl 1003 61440 1) false)), (1001, iB 16384 rM false), (1002, iB 256 rN false), (1003, ⟨[.ints .u8 61440 ((qCJ6 r rM rN rC ((NIk6 r rC), rS)).2)], 5, false⟩), (1005, ⟨[rowsL Man.cells Man.nil 4 ((NIk1 rC r rM rN rS).2)], 119, false⟩)], .segk 0 20 [0, 2, 3] [1000] .normal (qCJ15y_T1 r rM rN rS rC (qCJ15y r rM rN rS rC)) (qCJ15y_H1 r rM rN rS rC (qCJ15y r rM rN rS rC)) 1006, .segk 2 0 [0, 3, 205] [] .normal (qCJ16y_T1 (qCJ15y r rM rN rS rC) (qCJ16y (qCJ15y r rM rN rS rC))) (qCJ16y_H1 (qCJ15y r rM rN rS rC) (qCJ16y (qCJ15y r rM rN rS rC))) 1006, .no, .segk 2 0 [0, 233] [1000] .normal (qCJ17yn_T1 r rM rN rS rC (NIk5 rC r rM rN rS) (qCJ17yn r rM rN rS rC (NIk5 rC r rM rN rS))) (qCJ17yn_H1 r rM rN rS rC (NIk5 rC r rM rN rS) (qCJ17yn r rM rN rS rC (NIk5 rC r rM rN rS))) 1006] (J (qCJ1_runs r rC) (J (qCJ2_runs r rC r) (J (qCJ3_runs r rC) (J (qCJ4_runs r rC (qCJ2 r rC r)) (J (qCJ5_runs r rC) (J (qCJ6_runs r rM rN rC ((NIk6 r rC), rS) w1c w2c w3c w4c w5c w6c w7c) (J (by decide : ((8 : Int) ≠ 0)) (J (by decide : ((4 : Int) ≠ 0)) (J (qCJ7_runs r rM rN rS rC (NIk3 r rM rN rC rS)) (J (qCJ8_runs rC (NIk0 r rM rN rC rS)) (J c1 (J (rChooseF_ok (NIk8 rC r rM rN rS) rM rN ((qCJ6 r rM rN rC ((NIk6 r rC), rS)).2) rC w1c w8c w9c w10c) (J (qCJ15y_runs r rM rN rS rC) (J (qCJ16y_runs (qCJ15y r rM rN rS rC)) (J c2 (J (qCJ17yn_runs r rM rN rS rC (NIk5 rC r rM rN rS)) trivial)))))))))))))))) (by kernel_rfl)) [(1000, 1000), (1001, 1001), (1002, 1002), (1003, 1003), (1005, 1005)] 1006 (by kernel_rfl)
theorem rClock_p3 (r : RPic) (rM : Nat → Int) (rN : Nat → Int) (rS : Nat → Int) (rC : List Man) (w1c : ∀ j, rng 256 (rM j)) (w2c : PlaceOk (qCJ4 r rC (qCJ2 r rC r)).S.V) (w3c : 0 ≤ (qCJ4 r rC (qCJ2 r rC r)).S.X ∧ (qCJ4 r rC (qCJ2 r rC r)).S.X < 8) (w4c : (qCJ5 r rC) = true → 0 ≤ (i64.wrap ((qCJ4 r rC (qCJ2 r rC r)).Dot - 1)) ∧ (i64.wrap ((qCJ4 r rC (qCJ2 r rC r)).Dot - 1)) < 256) (w5c : (qCJ5 r rC) = true → 0 ≤ (qCJ4 r rC (qCJ2 r rC r)).Line ∧ (qCJ4 r rC (qCJ2 r rC r)).Line < 240) (w6c : ∀ c ∈ rC, ManOk c) (w7c : rC.length ≤ 8) (c1 : (((qCJ8 rC ((qCJ6 r rM rN rC ((qCJ4 r rC (qCJ2 r rC r)), rS)).1, (decide ((Int.tmod (i64.wrap (Int.tdiv (((qCJ6 r rM rN rC ((qCJ4 r rC (qCJ2 r rC r)), rS)).1).Mask) 8)) 4) > 0)), (qCJ7 r rM rN rS rC (decide ((Int.tmod (i64.wrap (Int.tdiv (((qCJ6 r rM rN rC ((qCJ4 r rC (qCJ2 r rC r)), rS)).1).Mask) 8)) 4) > 0))))).Dot : Int) == 257) = false) (c2 : (decide (((i64.wrap ((qCJ8 rC ((qCJ6 r rM rN rC ((qCJ4 r rC (qCJ2 r rC r)), rS)).1, (decide ((Int.tmod (i64.wrap (Int.tdiv (((qCJ6 r rM rN rC ((qCJ4 r rC (qCJ2 r rC r)), rS)).1).Mask) 8)) 4) > 0)), (qCJ7 r rM rN rS rC (decide ((Int.tmod (i64.wrap (Int.tdiv (((qCJ6 r rM rN rC ((qCJ4 r rC (qCJ2 r rC r)), rS)).1).Mask) 8)) 4) > 0))))).Dot + 1)) : Int) ≤ (qCJ16n (qCJ15n r rM rN rS rC)))) = true) : FnSpec Try.prog 58 1005 [pt 1000] [(1000, (RPic.bl r (sl 1001 16384 1) (sl 1002 256 1) (sl 1004 (List.length rC) 4) (sl 1003 61440 1) false)), (1001, iB 16384 rM false), (1002, iB 256 rN false), (1003, iB 61440 rS false), (1004, mB rC false)] (.tuple ⟨[]⟩) [(1000, (RPic.bl ((({ (qCJ8 rC ((qCJ6 r rM rN rC ((qCJ4 r rC (qCJ2 r rC r)), rS)).1, (decide ((Int.tmod (i64.wrap (Int.tdiv (((qCJ6 r rM rN rC ((qCJ4 r rC (qCJ2 r rC r)), rS)).1).Mask) 8)) 4) > 0)), (qCJ7 r rM rN rS rC (decide ((Int.tmod (i64.wrap (Int.tdiv (((qCJ6 r rM rN rC ((qCJ4 r rC (qCJ2 r rC r)), rS)).1).Mask) 8)) 4) > 0))))) with Dot := (i64.wrap ((qCJ8 rC ((qCJ6 r rM rN rC ((qCJ4 r rC (qCJ2 r rC r)), rS)).1, (decide ((Int.tmod (i64.wrap (Int.tdiv (((qCJ6 r rM rN rC ((qCJ4 r rC (qCJ2 r rC r)), rS)).1).Mask) 8)) 4) > 0)), (qCJ7 r rM rN rS rC (decide ((Int.tmod (i64.wrap (Int.tdiv (((qCJ6 r rM rN rC ((qCJ4 r rC (qCJ2 r rC r)), rS)).1).Mask) 8)) 4) > 0))))).Dot + 1)) } : RPic), (qCJ6 r rM rN rC ((qCJ4 r rC (qCJ2 r rC r)), rS)).2, rC).1) (sl 1001 16384 1) (sl 1002 256 1) (sl 1005 (List.length ((({ (qCJ8 rC ((qCJ6 r rM rN rC ((qCJ4 r rC (qCJ2 r rC r)), rS)).1, (decide ((Int.tmod (i64.wrap (Int.tdiv (((qCJ6 r rM rN rC ((qCJ4 r rC (qCJ2 r rC r)), rS)).1).Mask) 8)) 4) > 0)), (qCJ7 r rM rN rS rC (decide ((Int.tmod (i64.wrap (Int.tdiv (((qCJ6 r rM rN rC ((qCJ4 r rC (qCJ2 r rC r)), rS)).1).Mask) 8)) 4) > 0))))) with Dot := (i64.wrap ((qCJ8 rC ((qCJ6 r rM rN rC ((qCJ4 r rC (qCJ2 r rC r)), rS)).1, (decide ((Int.tmod (i64.wrap (Int.tdiv (((qCJ6 r rM rN rC ((qCJ4 r rC (qCJ2 r rC r)), rS)).1).Mask) 8)) 4) > 0)), (qCJ7 r rM rN rS rC (decide ((Int.tmod (i64.wrap (Int.tdiv (((qCJ6 r rM rN rC ((qCJ4 r rC (qCJ2 r rC r)), rS)).1).Mask) 8)) 4) > 0))))).Dot + 1)) } : RPic), (qCJ6 r rM rN rC ((qCJ4 r rC (qCJ2 r rC r)), rS)).2, rC).2.2)) 4) (sl 1003 61440 1) false)), (1001, iB 16384 rM false), (1002, iB 256 rN false), (1003, ⟨[.ints .u8 61440 ((({ (qCJ8 rC ((qCJ6 r rM rN rC ((qCJ4 r rC (qCJ2 r rC r)), rS)).1, (decide ((Int.tmod (i64.wrap (Int.tdiv (((qCJ6 r rM rN rC ((qCJ4 r rC (qCJ2 r rC r)), rS)).1).Mask) 8)) 4) > 0)), (qCJ7 r rM rN rS rC (decide ((Int.tmod (i64.wrap (Int.tdiv (((qCJ6 r rM rN rC ((qCJ4 r rC (qCJ2 r rC r)), rS)).1).Mask) 8)) 4) > 0))))) with Dot := (i64.wrap ((qCJ8 rC ((qCJ6 r rM rN rC ((qCJ4 r rC (qCJ2 r rC r)), rS)).1, (decide ((Int.tmod (i64.wrap (Int.tdiv (((qCJ6 r rM rN rC ((qCJ4 r rC (qCJ2 r rC r)), rS)).1).Mask) 8)) 4) > 0)), (qCJ7 r rM rN rS rC (decide ((Int.tmod (i64.wrap (Int.tdiv (((qCJ6 r rM rN rC ((qCJ4 r rC (qCJ2 r rC r)), rS)).1).Mask) 8)) 4) > 0))))).Dot + 1)) } : RPic), (qCJ6 r rM rN rC ((qCJ4 r rC (qCJ2 r rC r)), rS)).2, rC).2.1)], 5, false⟩), (1005, ⟨[rowsL Man.cells Man.nil 4 ((({ (qCJ8 rC ((qCJ6 r rM rN rC ((qCJ4 r rC (qCJ2 r rC r)), rS)).1, (decide ((Int.tmod (i64.wrap (Int.tdiv (((qCJ6 r rM rN rC ((qCJ4 r rC (qCJ2 r rC r)), rS)).1).Mask) 8)) 4) > 0)), (qCJ7 r rM rN rS rC (decide ((Int.tmod (i64.wrap (Int.tdiv (((qCJ6 r rM rN rC ((qCJ4 r rC (qCJ2 r rC r)), rS)).1).Mask) 8)) 4) > 0))))) with Dot := (i64.wrap ((qCJ8 rC ((qCJ6 r rM rN rC ((qCJ4 r rC (qCJ2 r rC r)), rS)).1, (decide ((Int.tmod (i64.wrap (Int.tdiv (((qCJ6 r rM rN rC ((qCJ4 r rC (qCJ2 r rC r)), rS)).1).Mask) 8)) 4) > 0)), (qCJ7 r rM rN rS rC (decide ((Int.tmod (i64.wrap (Int.tdiv (((qCJ6 r rM rN rC ((qCJ4 r rC (qCJ2 r rC r)), rS)).1).Mask) 8)) 4) > 0))))).Dot + 1)) } : RPic), (qCJ6 r rM rN rC ((qCJ4 r rC (qCJ2 r rC r)), rS)).2, rC).2.2)], 119, false⟩)] := by
  exact fn_ren (v := .tuple ⟨[]⟩) (H1 := [(1000, ⟨[.one (sl 1001 16384 1), .one (sl 1002 256 1), .one (.int .i64 ((NIk8 rC r rM rN rS).At)), .one (.int .i64 ((((NIk8 rC r rM rN rS).S).V).Column)), .one (.int .i64 ((((NIk8 rC r rM rN rS).S).V).Line)), .one (.int .i64 ((((NIk8 rC r rM rN rS).S).V).Across)), .one (.int .i64 ((((NIk8 rC r rM rN rS).S).V).Down)), .one (.int .i64 ((((NIk8 rC r rM rN rS).S).V).Row)), .one (.int .i64 ((((NIk8 rC r rM rN rS).S).T).Column)), .one (.int .i64 ((((NIk8 rC r rM rN rS).S).T).Line)), .one (.int .i64 ((((NIk8 rC r rM rN rS).S).T).Across)), .one (.int .i64 ((((NIk8 rC r rM rN rS).S).T).Down)), .one (.int .i64 ((((NIk8 rC r rM rN rS).S).T).Row)), .one (.int .i64 (((NIk8 rC r rM rN rS).S).X)), .one (.bool (((NIk8 rC r rM rN rS).S).W)), .one (.int .i64 ((NIk8 rC r rM rN rS).Control)), .one (.int .i64 ((NIk8 rC r rM rN rS).Mask)), .one (.bool ((NIk8 rC r rM rN rS).Blank)), .one (.bool ((NIk8 rC r rM rN rS).Hit)), .one (.bool ((NIk8 rC r rM rN rS).Many)), .one (.int .i64 ((NIk8 rC r rM rN rS).Waits)), .one (.int .i64 ((NIk8 rC r rM rN rS).Bus)), .one (.bool ((NIk8 rC r rM rN rS).Upright)), .one (.int .i64 ((NIk8 rC r rM rN rS).Line)), .one (.int .i64 (i64.wrap ((NIk8 rC r rM rN rS).Dot + 1))), .one (.int .i64 ((NIk8 rC r rM rN rS).Begun)), .one (.int .i64 ((NIk8 rC r rM rN rS).Done)), .one (sl 1004 (List.length rC) 4), .one (sl 1003 61440 1)], 59, false⟩), (1001, iB 16384 rM false), (1002, iB 256 rN false), (1003, ⟨[.ints .u8 61440 ((qCJ6 r rM rN rC ((NIk6 r rC), rS)).2)], 5, false⟩), (1004, mB rC false)]) (fn_of_x hG hM Try.func58 (by kernel_rfl) (by kernel_rfl) 400 [.segk 0 0 [0] [1000] .normal (qCJ1_T1 r rC (qCJ1 r rC)) (qCJ1_H1 r rC (qCJ1 r rC)) 1005, .segk 2 0 [0, 15] [1000] .normal (qCJ2_T1 r rC r (qCJ2 r rC r)) (qCJ2_H1 r rC r (qCJ2 r rC r)) 1005, .segk 0 3 [0] [1000] .normal (qCJ3_T1 r rC (qCJ3 r rC)) (qCJ3_H1 r rC (qCJ3 r rC)) 1005, .segk 2 0 [0, 37] [1000] .normal (qCJ4_T1 r rC (qCJ2 r rC r) (NIk6 r rC)) (qCJ4_H1 r rC (qCJ2 r rC r) (NIk6 r rC)) 1005, .segk 0 5 [0] [1000] .normal (qCJ5_T1 r rC (qCJ5 r rC)) (qCJ5_H1 r rC (qCJ5 r rC)) 1005, .segk 2 0 [0, 65] [1000, 1001, 1002, 1003, 1004] .normal (qCJ6_T1 r rM rN rC ((NIk6 r rC), rS) (qCJ6 r rM rN rC ((NIk6 r rC), rS))) (qCJ6_H1 r rM rN rC ((NIk6 r rC), rS) (qCJ6 r rM rN rC ((NIk6 r rC), rS))) 1005, .segk 0 8 [0, 2] [1000] .normal (qCJ7_T1 r rM rN rS rC (NIk3 r rM rN rC rS) (qCJ7 r rM rN rS rC (NIk3 r rM rN rC rS))) (qCJ7_H1 r rM rN rS rC (NIk3 r rM rN rC rS) (qCJ7 r rM rN rS rC (NIk3 r rM rN rC rS))) 1005, .segk 2 0 [0, 2, 94] [1000] .normal (qCJ8_T1 rC (NIk0 r rM rN rC rS) (NIk8 rC r rM rN rS)) (qCJ8_H1 rC (NIk0 r rM rN rC rS) (NIk8 rC r rM rN rS)) 1005, .no, .segk 0 20 [0, 2, 3] [1000] .normal (qCJ15n_T1 r rM rN rS rC (qCJ15n r rM rN rS rC)) (qCJ15n_H1 r rM rN rS rC (qCJ15n r rM rN rS rC)) 1005, .segk 2 0 [0, 3, 205] [] .normal (qCJ16n_T1 (qCJ15n r rM rN rS rC) (qCJ16n (qCJ15n r rM rN rS rC))) (qCJ16n_H1 (qCJ15n r rM rN rS rC) (qCJ16n (qCJ15n r rM rN rS rC))) 1005, .yes] (J (qCJ1_runs r rC) (J (qCJ2_runs r rC r) (J (qCJ3_runs r rC) (J (qCJ4_runs r rC (qCJ2 r rC r)) (J (qCJ5_runs r rC) (J (qCJ6_runs r rM rN rC ((NIk6 r rC), rS) w1c w2c w3c w4c w5c w6c w7c) (J (by decide : ((8 : Int) ≠ 0)) (J (by decide : ((4 : Int) ≠ 0)) (J (qCJ7_runs r rM rN rS rC (NIk3 r rM rN rC rS)) (J (qCJ8_runs rC (NIk0 r rM rN rC rS)) (J c1 (J (qCJ15n_runs r rM rN rS rC) (J (qCJ16n_runs (qCJ15n r rM rN rS rC)) (J c2 trivial)))))))))))))) (by kernel_rfl)) [(1000, 1000), (1001, 1001), (1002, 1002), (1003, 1003), (1004, 1005)] 1006 (by kernel_rfl)
abbrev NIk4 (rC : List Man) (r : RPic) (rM rN rS : Nat → Int) := (({ (NIk8 rC r rM rN rS) with Line := (i64.wrap ((NIk8 rC r rM rN rS).Line + 1)), Dot := 0 } : RPic), (((i64.wrap ((NIk8 rC r rM rN rS).Line + 1)) : Int) == 262))
theorem rClock_p4 (r : RPic) (rM : Nat → Int) (rN : Nat → Int) (rS : Nat → Int) (rC : List Man) (w1c : ∀ j, rng 256 (rM j)) (w2c : PlaceOk (qCJ4 r rC (qCJ2 r rC r)).S.V) (w3c : 0 ≤ (qCJ4 r rC (qCJ2 r rC r)).S.X ∧ (qCJ4 r rC (qCJ2 r rC r)).S.X < 8) (w4c : (qCJ5 r rC) = true → 0 ≤ (i64.wrap ((qCJ4 r rC (qCJ2 r rC r)).Dot - 1)) ∧ (i64.wrap ((qCJ4 r rC (qCJ2 r rC r)).Dot - 1)) < 256) (w5c : (qCJ5 r rC) = true → 0 ≤ (qCJ4 r rC (qCJ2 r rC r)).Line ∧ (qCJ4 r rC (qCJ2 r rC r)).Line < 240) (w6c : ∀ c ∈ rC, ManOk c) (w7c : rC.length ≤ 8) (c1 : (((qCJ8 rC ((qCJ6 r rM rN rC ((qCJ4 r rC (qCJ2 r rC r)), rS)).1, (decide ((Int.tmod (i64.wrap (Int.tdiv (((qCJ6 r rM rN rC ((qCJ4 r rC (qCJ2 r rC r)), rS)).1).Mask) 8)) 4) > 0)), (qCJ7 r rM rN rS rC (decide ((Int.tmod (i64.wrap (Int.tdiv (((qCJ6 r rM rN rC ((qCJ4 r rC (qCJ2 r rC r)), rS)).1).Mask) 8)) 4) > 0))))).Dot : Int) == 257) = false) (c2 : (decide (((i64.wrap ((qCJ8 rC ((qCJ6 r rM rN rC ((qCJ4 r rC (qCJ2 r rC r)), rS)).1, (decide ((Int.tmod (i64.wrap (Int.tdiv (((qCJ6 r rM rN rC ((qCJ4 r rC (qCJ2 r rC r)), rS)).1).Mask) 8)) 4) > 0)), (qCJ7 r rM rN rS rC (decide ((Int.tmod (i64.wrap (Int.tdiv (((qCJ6 r rM rN rC ((qCJ4 r rC (qCJ2 r rC r)), rS)).1).Mask) 8)) 4) > 0))))).Dot + 1)) : Int) ≤ (qCJ16n (qCJ15n r rM rN rS rC)))) = false) : FnSpec Try.prog 58 1005 [pt 1000] [(1000, (RPic.bl r (sl 1001 16384 1) (sl 1002 256 1) (sl 1004 (List.length rC) 4) (sl 1003 61440 1) false)), (1001, iB 16384 rM false), (1002, iB 256 rN false), (1003, iB 61440 rS false), (1004, mB rC false)] (.tuple ⟨[]⟩) [(1000, (RPic.bl (((qCJ17nn rC (({ (qCJ8 rC ((qCJ6 r rM rN rC ((qCJ4 r rC (qCJ2 r rC r)), rS)).1, (decide ((Int.tmod (i64.wrap (Int.tdiv (((qCJ6 r rM rN rC ((qCJ4 r rC (qCJ2 r rC r)), rS)).1).Mask) 8)) 4) > 0)), (qCJ7 r rM rN rS rC (decide ((Int.tmod (i64.wrap (Int.tdiv (((qCJ6 r rM rN rC ((qCJ4 r rC (qCJ2 r rC r)), rS)).1).Mask) 8)) 4) > 0))))) with Line := (i64.wrap ((qCJ8 rC ((qCJ6 r rM rN rC ((qCJ4 r rC (qCJ2 r rC r)), rS)).1, (decide ((Int.tmod (i64.wrap (Int.tdiv (((qCJ6 r rM rN rC ((qCJ4 r rC (qCJ2 r rC r)), rS)).1).Mask) 8)) 4) > 0)), (qCJ7 r rM rN rS rC (decide ((Int.tmod (i64.wrap (Int.tdiv (((qCJ6 r rM rN rC ((qCJ4 r rC (qCJ2 r rC r)), rS)).1).Mask) 8)) 4) > 0))))).Line + 1)), Dot := 0 } : RPic), (((i64.wrap ((qCJ8 rC ((qCJ6 r rM rN rC ((qCJ4 r rC (qCJ2 r rC r)), rS)).1, (decide ((Int.tmod (i64.wrap (Int.tdiv (((qCJ6 r rM rN rC ((qCJ4 r rC (qCJ2 r rC r)), rS)).1).Mask) 8)) 4) > 0)), (qCJ7 r rM rN rS rC (decide ((Int.tmod (i64.wrap (Int.tdiv (((qCJ6 r rM rN rC ((qCJ4 r rC (qCJ2 r rC r)), rS)).1).Mask) 8)) 4) > 0))))).Line + 1)) : Int) == 262))), (qCJ6 r rM rN rC ((qCJ4 r rC (qCJ2 r rC r)), rS)).2, rC).1) (sl 1001 16384 1) (sl 1002 256 1) (sl 1005 (List.length (((qCJ17nn rC (({ (qCJ8 rC ((qCJ6 r rM rN rC ((qCJ4 r rC (qCJ2 r rC r)), rS)).1, (decide ((Int.tmod (i64.wrap (Int.tdiv (((qCJ6 r rM rN rC ((qCJ4 r rC (qCJ2 r rC r)), rS)).1).Mask) 8)) 4) > 0)), (qCJ7 r rM rN rS rC (decide ((Int.tmod (i64.wrap (Int.tdiv (((qCJ6 r rM rN rC ((qCJ4 r rC (qCJ2 r rC r)), rS)).1).Mask) 8)) 4) > 0))))) with Line := (i64.wrap ((qCJ8 rC ((qCJ6 r rM rN rC ((qCJ4 r rC (qCJ2 r rC r)), rS)).1, (decide ((Int.tmod (i64.wrap (Int.tdiv (((qCJ6 r rM rN rC ((qCJ4 r rC (qCJ2 r rC r)), rS)).1).Mask) 8)) 4) > 0)), (qCJ7 r rM rN rS rC (decide ((Int.tmod (i64.wrap (Int.tdiv (((qCJ6 r rM rN rC ((qCJ4 r rC (qCJ2 r rC r)), rS)).1).Mask) 8)) 4) > 0))))).Line + 1)), Dot := 0 } : RPic), (((i64.wrap ((qCJ8 rC ((qCJ6 r rM rN rC ((qCJ4 r rC (qCJ2 r rC r)), rS)).1, (decide ((Int.tmod (i64.wrap (Int.tdiv (((qCJ6 r rM rN rC ((qCJ4 r rC (qCJ2 r rC r)), rS)).1).Mask) 8)) 4) > 0)), (qCJ7 r rM rN rS rC (decide ((Int.tmod (i64.wrap (Int.tdiv (((qCJ6 r rM rN rC ((qCJ4 r rC (qCJ2 r rC r)), rS)).1).Mask) 8)) 4) > 0))))).Line + 1)) : Int) == 262))), (qCJ6 r rM rN rC ((qCJ4 r rC (qCJ2 r rC r)), rS)).2, rC).2.2)) 4) (sl 1003 61440 1) false)), (1001, iB 16384 rM false), (1002, iB 256 rN false), (1003, ⟨[.ints .u8 61440 (((qCJ17nn rC (({ (qCJ8 rC ((qCJ6 r rM rN rC ((qCJ4 r rC (qCJ2 r rC r)), rS)).1, (decide ((Int.tmod (i64.wrap (Int.tdiv (((qCJ6 r rM rN rC ((qCJ4 r rC (qCJ2 r rC r)), rS)).1).Mask) 8)) 4) > 0)), (qCJ7 r rM rN rS rC (decide ((Int.tmod (i64.wrap (Int.tdiv (((qCJ6 r rM rN rC ((qCJ4 r rC (qCJ2 r rC r)), rS)).1).Mask) 8)) 4) > 0))))) with Line := (i64.wrap ((qCJ8 rC ((qCJ6 r rM rN rC ((qCJ4 r rC (qCJ2 r rC r)), rS)).1, (decide ((Int.tmod (i64.wrap (Int.tdiv (((qCJ6 r rM rN rC ((qCJ4 r rC (qCJ2 r rC r)), rS)).1).Mask) 8)) 4) > 0)), (qCJ7 r rM rN rS rC (decide ((Int.tmod (i64.wrap (Int.tdiv (((qCJ6 r rM rN rC ((qCJ4 r rC (qCJ2 r rC r)), rS)).1).Mask) 8)) 4) > 0))))).Line + 1)), Dot := 0 } : RPic), (((i64.wrap ((qCJ8 rC ((qCJ6 r rM rN rC ((qCJ4 r rC (qCJ2 r rC r)), rS)).1, (decide ((Int.tmod (i64.wrap (Int.tdiv (((qCJ6 r rM rN rC ((qCJ4 r rC (qCJ2 r rC r)), rS)).1).Mask) 8)) 4) > 0)), (qCJ7 r rM rN rS rC (decide ((Int.tmod (i64.wrap (Int.tdiv (((qCJ6 r rM rN rC ((qCJ4 r rC (qCJ2 r rC r)), rS)).1).Mask) 8)) 4) > 0))))).Line + 1)) : Int) == 262))), (qCJ6 r rM rN rC ((qCJ4 r rC (qCJ2 r rC r)), rS)).2, rC).2.1)], 5, false⟩), (1005, ⟨[rowsL Man.cells Man.nil 4 (((qCJ17nn rC (({ (qCJ8 rC ((qCJ6 r rM rN rC ((qCJ4 r rC (qCJ2 r rC r)), rS)).1, (decide ((Int.tmod (i64.wrap (Int.tdiv (((qCJ6 r rM rN rC ((qCJ4 r rC (qCJ2 r rC r)), rS)).1).Mask) 8)) 4) > 0)), (qCJ7 r rM rN rS rC (decide ((Int.tmod (i64.wrap (Int.tdiv (((qCJ6 r rM rN rC ((qCJ4 r rC (qCJ2 r rC r)), rS)).1).Mask) 8)) 4) > 0))))) with Line := (i64.wrap ((qCJ8 rC ((qCJ6 r rM rN rC ((qCJ4 r rC (qCJ2 r rC r)), rS)).1, (decide ((Int.tmod (i64.wrap (Int.tdiv (((qCJ6 r rM rN rC ((qCJ4 r rC (qCJ2 r rC r)), rS)).1).Mask) 8)) 4) > 0)), (qCJ7 r rM rN rS rC (decide ((Int.tmod (i64.wrap (Int.tdiv (((qCJ6 r rM rN rC ((qCJ4 r rC (qCJ2 r rC r)), rS)).1).Mask) 8)) 4) > 0))))).Line + 1)), Dot := 0 } : RPic), (((i64.wrap ((qCJ8 rC ((qCJ6 r rM rN rC ((qCJ4 r rC (qCJ2 r rC r)), rS)).1, (decide ((Int.tmod (i64.wrap (Int.tdiv (((qCJ6 r rM rN rC ((qCJ4 r rC (qCJ2 r rC r)), rS)).1).Mask) 8)) 4) > 0)), (qCJ7 r rM rN rS rC (decide ((Int.tmod (i64.wrap (Int.tdiv (((qCJ6 r rM rN rC ((qCJ4 r rC (qCJ2 r rC r)), rS)).1).Mask) 8)) 4) > 0))))).Line + 1)) : Int) == 262))), (qCJ6 r rM rN rC ((qCJ4 r rC (qCJ2 r rC r)), rS)).2, rC).2.2)], 119, false⟩)] := by
  exact fn_ren (v := .tuple ⟨[]⟩) (H1 := [(1000, (RPic.bl (qCJ17nn rC (NIk4 rC r rM rN rS)) (sl 1001 16384 1) (sl 1002 256 1) (sl 1004 (List.length rC) 4) (sl 1003 61440 1) false)), (1001, iB 16384 rM false), (1002, iB 256 rN false), (1003, ⟨[.ints .u8 61440 ((qCJ6 r rM rN rC ((NIk6 r rC), rS)).2)], 5, false⟩), (1004, mB rC false)]) (fn_of_x hG hM Try.func58 (by kernel_rfl) (by kernel_rfl) 400 [.segk 0 0 [0] [1000] .normal (qCJ1_T1 r rC (qCJ1 r rC)) (qCJ1_H1 r rC (qCJ1 r rC)) 1005, .segk 2 0 [0, 15] [1000] .normal (qCJ2_T1 r rC r (qCJ2 r rC r)) (qCJ2_H1 r rC r (qCJ2 r rC r)) 1005, .segk 0 3 [0] [1000] .normal (qCJ3_T1 r rC (qCJ3 r rC)) (qCJ3_H1 r rC (qCJ3 r rC)) 1005, .segk 2 0 [0, 37] [1000] .normal (qCJ4_T1 r rC (qCJ2 r rC r) (NIk6 r rC)) (qCJ4_H1 r rC (qCJ2 r rC r) (NIk6 r rC)) 1005, .segk 0 5 [0] [1000] .normal (qCJ5_T1 r rC (qCJ5 r rC)) (qCJ5_H1 r rC (qCJ5 r rC)) 1005, .segk 2 0 [0, 65] [1000, 1001, 1002, 1003, 1004] .normal (qCJ6_T1 r rM rN rC ((NIk6 r rC), rS) (qCJ6 r rM rN rC ((NIk6 r rC), rS))) (qCJ6_H1 r rM rN rC ((NIk6 r rC), rS) (qCJ6 r rM rN rC ((NIk6 r rC), rS))) 1005, .segk 0 8 [0, 2] [1000] .normal (qCJ7_T1 r rM rN rS rC (NIk3 r rM rN rC rS) (qCJ7 r rM rN rS rC (NIk3 r rM rN rC rS))) (qCJ7_H1 r rM rN rS rC (NIk3 r rM rN rC rS) (qCJ7 r rM rN rS rC (NIk3 r rM rN rC rS))) 1005, .segk 2 0 [0, 2, 94] [1000] .normal (qCJ8_T1 rC (NIk0 r rM rN rC rS) (NIk8 rC r rM rN rS)) (qCJ8_H1 rC (NIk0 r rM rN rC rS) (NIk8 rC r rM rN rS)) 1005, .no, .segk 0 20 [0, 2, 3] [1000] .normal (qCJ15n_T1 r rM rN rS rC (qCJ15n r rM rN rS rC)) (qCJ15n_H1 r rM rN rS rC (qCJ15n r rM rN rS rC)) 1005, .segk 2 0 [0, 3, 205] [] .normal (qCJ16n_T1 (qCJ15n r rM rN rS rC) (qCJ16n (qCJ15n r rM rN rS rC))) (qCJ16n_H1 (qCJ15n r rM rN rS rC) (qCJ16n (qCJ15n r rM rN rS rC))) 1005, .no, .segk 2 0 [0, 233] [1000] .normal (qCJ17nn_T1 rC (NIk4 rC r rM rN rS) (qCJ17nn rC (NIk4 rC r rM rN rS))) (qCJ17nn_H1 rC (NIk4 rC r rM rN rS) (qCJ17nn rC (NIk4 rC r rM rN rS))) 1005] (J (qCJ1_runs r rC) (J (qCJ2_runs r rC r) (J (qCJ3_runs r rC) (J (qCJ4_runs r rC (qCJ2 r rC r)) (J (qCJ5_runs r rC) (J (qCJ6_runs r rM rN rC ((NIk6 r rC), rS) w1c w2c w3c w4c w5c w6c w7c) (J (by decide : ((8 : Int) ≠ 0)) (J (by decide : ((4 : Int) ≠ 0)) (J (qCJ7_runs r rM rN rS rC (NIk3 r rM rN rC rS)) (J (qCJ8_runs rC (NIk0 r rM rN rC rS)) (J c1 (J (qCJ15n_runs r rM rN rS rC) (J (qCJ16n_runs (qCJ15n r rM rN rS rC)) (J c2 (J (qCJ17nn_runs rC (NIk4 rC r rM rN rS)) trivial))))))))))))))) (by kernel_rfl)) [(1000, 1000), (1001, 1001), (1002, 1002), (1003, 1003), (1004, 1005)] 1006 (by kernel_rfl)
end Go.Proofs.Ytgnhhnmpeklciaa
