/-
  The functions of layer 14, of the program and of the reference: each as a Lean function, and that the Go code comes to its answers. Written by gen_loopy.py. No condition.
-/
import Derived.Test.YtonbliaaicacgaaVL
import Derived.Test.YtonbliaaicacgaaRows
namespace Go.Proofs.Ytonbliaaicacgaa
open Go VX
set_option linter.unusedVariables false
set_option maxRecDepth 100000

theorem hG : Try.prog.globals.size ≤ 1000 := of_decide_eq_true (by kernel_rfl)
theorem hM : Try.prog.follows .mixedOrders = true := by kernel_rfl
theorem bt (b : Bool) : b = true ∨ b = false := by cases b <;> simp
theorem nt {b : Bool} (h : b = false) : ¬ b = true := by rw [h]; decide

structure Scroll where
  V : Int
  T : Int
  X : Int
  W : Bool
def Scroll.enc (s : Scroll) : Value := .agg ⟨[.int .u16 s.V, .int .u16 s.T, .int .u8 s.X, .bool s.W]⟩

structure Place where
  Column : Int
  Line : Int
  Across : Int
  Down : Int
  Row : Int
def Place.enc (s : Place) : Value := .agg ⟨[.int .i64 s.Column, .int .i64 s.Line, .int .i64 s.Across, .int .i64 s.Down, .int .i64 s.Row]⟩

structure RScroll where
  V : Place
  T : Place
  X : Int
  W : Bool
def RScroll.enc (s : RScroll) : Value := .agg ⟨[.int .i64 s.V.Column, .int .i64 s.V.Line, .int .i64 s.V.Across, .int .i64 s.V.Down, .int .i64 s.V.Row, .int .i64 s.T.Column, .int .i64 s.T.Line, .int .i64 s.T.Across, .int .i64 s.T.Down, .int .i64 s.T.Row, .int .i64 s.X, .bool s.W]⟩

/-- (kotatsu/loopy.Scroll).right -/
def right (s : Scroll) : Scroll :=
  ({ V := (bAnd .u16 s.V 32767), T := (bAnd .u16 s.T 32767), X := (bAnd .u8 s.X 7), W := s.W } : Scroll)
theorem right_p1 (s : Scroll) : FnSpec Try.prog 30 1000 [Scroll.enc s] [] (Scroll.enc ({ V := (bAnd .u16 s.V 32767), T := (bAnd .u16 s.T 32767), X := (bAnd .u8 s.X 7), W := s.W } : Scroll)) [] := by
  exact fn_of_x hG hM Try.func30 (by kernel_rfl) (by kernel_rfl) 400 [] trivial (by kernel_rfl)
theorem right_ok (s : Scroll) : FnSpec Try.prog 30 1000 [Scroll.enc s] [] (Scroll.enc (right s)) [] := by
  exact right_p1 s

/-- kotatsu/loopy.put -/
def put (a : Int) (m : Int) (b : Int) : Int :=
  (bOr .u16 (bAndNot .u16 a m) (bAnd .u16 b m))
theorem put_p1 (a : Int) (m : Int) (b : Int) : FnSpec Try.prog 31 1000 [.int .u16 a, .int .u16 m, .int .u16 b] [] (.int .u16 (bOr .u16 (bAndNot .u16 a m) (bAnd .u16 b m))) [] := by
  exact fn_of_x hG hM Try.func31 (by kernel_rfl) (by kernel_rfl) 400 [] trivial (by kernel_rfl)
theorem put_ok (a : Int) (m : Int) (b : Int) : FnSpec Try.prog 31 1000 [.int .u16 a, .int .u16 m, .int .u16 b] [] (.int .u16 (put a m b)) [] := by
  exact put_p1 a m b

/-- (kotatsu/loopy.Scroll).Control -/
def sControl (s : Scroll) (b : Int) : Scroll :=
  ({ V := (right s).V, T := (put ((right s).T) 3072 (bShl .u16 (IntKind.u16.wrap b) 10)), X := (right s).X, W := (right s).W } : Scroll)
theorem sControl_p1 (s : Scroll) (b : Int) : FnSpec Try.prog 25 1000 [Scroll.enc s, .int .u8 b] [] (Scroll.enc ({ V := (right s).V, T := (put ((right s).T) 3072 (bShl .u16 (IntKind.u16.wrap b) 10)), X := (right s).X, W := (right s).W } : Scroll)) [] := by
  exact fn_of_x hG hM Try.func25 (by kernel_rfl) (by kernel_rfl) 400 [.call [] [] 1000 (Scroll.enc (right s)) [], .call [] [] 1000 (.int .u16 (put ((right s).T) 3072 (bShl .u16 (IntKind.u16.wrap b) 10))) []] (And.intro (right_ok s) (And.intro (by decide : (0 : Int) ≤ 10) (And.intro (put_ok ((right s).T) 3072 (bShl .u16 (IntKind.u16.wrap b) 10)) trivial))) (by kernel_rfl)
theorem sControl_ok (s : Scroll) (b : Int) : FnSpec Try.prog 25 1000 [Scroll.enc s, .int .u8 b] [] (Scroll.enc (sControl s b)) [] := by
  exact sControl_p1 s b

/-- (kotatsu/loopy.Scroll).Offset -/
def sOffset (s : Scroll) (b : Int) : Scroll :=
  if (right s).W = true then
    ({ V := (right s).V, T := (put (put ((right s).T) 992 (bShl .u16 (bShr .u16 (IntKind.u16.wrap b) 3) 5)) 28672 (bShl .u16 (IntKind.u16.wrap b) 12)), X := (right s).X, W := (!((right s).W)) } : Scroll)
  else
    ({ V := (right s).V, T := (put ((right s).T) 31 (bShr .u16 (IntKind.u16.wrap b) 3)), X := (bAnd .u8 b 7), W := (!((right s).W)) } : Scroll)
theorem sOffset_p1 (s : Scroll) (b : Int) (c1 : (right s).W = true) : FnSpec Try.prog 26 1000 [Scroll.enc s, .int .u8 b] [] (Scroll.enc ({ V := (right s).V, T := (put (put ((right s).T) 992 (bShl .u16 (bShr .u16 (IntKind.u16.wrap b) 3) 5)) 28672 (bShl .u16 (IntKind.u16.wrap b) 12)), X := (right s).X, W := (!((right s).W)) } : Scroll)) [] := by
  exact fn_of_x hG hM Try.func26 (by kernel_rfl) (by kernel_rfl) 400 [.call [] [] 1000 (Scroll.enc (right s)) [], .yes, .call [] [] 1000 (.int .u16 (put ((right s).T) 992 (bShl .u16 (bShr .u16 (IntKind.u16.wrap b) 3) 5))) [], .call [] [] 1000 (.int .u16 (put (put ((right s).T) 992 (bShl .u16 (bShr .u16 (IntKind.u16.wrap b) 3) 5)) 28672 (bShl .u16 (IntKind.u16.wrap b) 12))) []] (And.intro (right_ok s) (And.intro c1 (And.intro (by decide : (0 : Int) ≤ 3) (And.intro (by decide : (0 : Int) ≤ 5) (And.intro (put_ok ((right s).T) 992 (bShl .u16 (bShr .u16 (IntKind.u16.wrap b) 3) 5)) (And.intro (by decide : (0 : Int) ≤ 12) (And.intro (put_ok (put ((right s).T) 992 (bShl .u16 (bShr .u16 (IntKind.u16.wrap b) 3) 5)) 28672 (bShl .u16 (IntKind.u16.wrap b) 12)) trivial))))))) (by kernel_rfl)
theorem sOffset_p2 (s : Scroll) (b : Int) (c1 : (right s).W = false) : FnSpec Try.prog 26 1000 [Scroll.enc s, .int .u8 b] [] (Scroll.enc ({ V := (right s).V, T := (put ((right s).T) 31 (bShr .u16 (IntKind.u16.wrap b) 3)), X := (bAnd .u8 b 7), W := (!((right s).W)) } : Scroll)) [] := by
  exact fn_of_x hG hM Try.func26 (by kernel_rfl) (by kernel_rfl) 400 [.call [] [] 1000 (Scroll.enc (right s)) [], .no, .call [] [] 1000 (.int .u16 (put ((right s).T) 31 (bShr .u16 (IntKind.u16.wrap b) 3))) []] (And.intro (right_ok s) (And.intro c1 (And.intro (by decide : (0 : Int) ≤ 3) (And.intro (put_ok ((right s).T) 31 (bShr .u16 (IntKind.u16.wrap b) 3)) trivial)))) (by kernel_rfl)
theorem sOffset_ok (s : Scroll) (b : Int) : FnSpec Try.prog 26 1000 [Scroll.enc s, .int .u8 b] [] (Scroll.enc (sOffset s b)) [] := by
  rcases bt ((right s).W) with c1 | c1
  ·
    have e : sOffset s b = ({ V := (right s).V, T := (put (put ((right s).T) 992 (bShl .u16 (bShr .u16 (IntKind.u16.wrap b) 3) 5)) 28672 (bShl .u16 (IntKind.u16.wrap b) 12)), X := (right s).X, W := (!((right s).W)) } : Scroll) := by unfold sOffset; rw [if_pos c1]
    rw [e]
    exact sOffset_p1 s b c1
  ·
    have e : sOffset s b = ({ V := (right s).V, T := (put ((right s).T) 31 (bShr .u16 (IntKind.u16.wrap b) 3)), X := (bAnd .u8 b 7), W := (!((right s).W)) } : Scroll) := by unfold sOffset; rw [if_neg (nt c1)]
    rw [e]
    exact sOffset_p2 s b c1

/-- (kotatsu/loopy.Scroll).Address -/
def sAddress (s : Scroll) (b : Int) : Scroll :=
  if (right s).W = true then
    ({ V := (put ((right s).T) 255 (IntKind.u16.wrap b)), T := (put ((right s).T) 255 (IntKind.u16.wrap b)), X := (right s).X, W := (!((right s).W)) } : Scroll)
  else
    ({ V := (right s).V, T := (put ((right s).T) 32512 (bShl .u16 (IntKind.u16.wrap (bAnd .u8 b 63)) 8)), X := (right s).X, W := (!((right s).W)) } : Scroll)
theorem sAddress_p1 (s : Scroll) (b : Int) (c1 : (right s).W = true) : FnSpec Try.prog 21 1000 [Scroll.enc s, .int .u8 b] [] (Scroll.enc ({ V := (put ((right s).T) 255 (IntKind.u16.wrap b)), T := (put ((right s).T) 255 (IntKind.u16.wrap b)), X := (right s).X, W := (!((right s).W)) } : Scroll)) [] := by
  exact fn_of_x hG hM Try.func21 (by kernel_rfl) (by kernel_rfl) 400 [.call [] [] 1000 (Scroll.enc (right s)) [], .yes, .call [] [] 1000 (.int .u16 (put ((right s).T) 255 (IntKind.u16.wrap b))) []] (And.intro (right_ok s) (And.intro c1 (And.intro (put_ok ((right s).T) 255 (IntKind.u16.wrap b)) trivial))) (by kernel_rfl)
theorem sAddress_p2 (s : Scroll) (b : Int) (c1 : (right s).W = false) : FnSpec Try.prog 21 1000 [Scroll.enc s, .int .u8 b] [] (Scroll.enc ({ V := (right s).V, T := (put ((right s).T) 32512 (bShl .u16 (IntKind.u16.wrap (bAnd .u8 b 63)) 8)), X := (right s).X, W := (!((right s).W)) } : Scroll)) [] := by
  exact fn_of_x hG hM Try.func21 (by kernel_rfl) (by kernel_rfl) 400 [.call [] [] 1000 (Scroll.enc (right s)) [], .no, .call [] [] 1000 (.int .u16 (put ((right s).T) 32512 (bShl .u16 (IntKind.u16.wrap (bAnd .u8 b 63)) 8))) []] (And.intro (right_ok s) (And.intro c1 (And.intro (by decide : (0 : Int) ≤ 8) (And.intro (put_ok ((right s).T) 32512 (bShl .u16 (IntKind.u16.wrap (bAnd .u8 b 63)) 8)) trivial)))) (by kernel_rfl)
theorem sAddress_ok (s : Scroll) (b : Int) : FnSpec Try.prog 21 1000 [Scroll.enc s, .int .u8 b] [] (Scroll.enc (sAddress s b)) [] := by
  rcases bt ((right s).W) with c1 | c1
  ·
    have e : sAddress s b = ({ V := (put ((right s).T) 255 (IntKind.u16.wrap b)), T := (put ((right s).T) 255 (IntKind.u16.wrap b)), X := (right s).X, W := (!((right s).W)) } : Scroll) := by unfold sAddress; rw [if_pos c1]
    rw [e]
    exact sAddress_p1 s b c1
  ·
    have e : sAddress s b = ({ V := (right s).V, T := (put ((right s).T) 32512 (bShl .u16 (IntKind.u16.wrap (bAnd .u8 b 63)) 8)), X := (right s).X, W := (!((right s).W)) } : Scroll) := by unfold sAddress; rw [if_neg (nt c1)]
    rw [e]
    exact sAddress_p2 s b c1

/-- (kotatsu/loopy.Scroll).Look -/
def sLook (s : Scroll) : Scroll :=
  ({ V := (right s).V, T := (right s).T, X := (right s).X, W := false } : Scroll)
theorem sLook_p1 (s : Scroll) : FnSpec Try.prog 20 1000 [Scroll.enc s] [] (Scroll.enc ({ V := (right s).V, T := (right s).T, X := (right s).X, W := false } : Scroll)) [] := by
  exact fn_of_x hG hM Try.func20 (by kernel_rfl) (by kernel_rfl) 400 [.call [] [] 1000 (Scroll.enc (right s)) []] (And.intro (right_ok s) trivial) (by kernel_rfl)
theorem sLook_ok (s : Scroll) : FnSpec Try.prog 20 1000 [Scroll.enc s] [] (Scroll.enc (sLook s)) [] := by
  exact sLook_p1 s

/-- (kotatsu/loopy.Scroll).Step -/
def sStep (s : Scroll) (far : Bool) : Scroll :=
  if far = true then
    (right ({ V := (IntKind.u16.wrap ((IntKind.u16.wrap (s.V + 1)) + 31)), T := s.T, X := s.X, W := s.W } : Scroll))
  else
    (right ({ V := (IntKind.u16.wrap (s.V + 1)), T := s.T, X := s.X, W := s.W } : Scroll))
theorem sStep_p1 (s : Scroll) (far : Bool) (c1 : far = true) : FnSpec Try.prog 22 1000 [Scroll.enc s, .bool far] [] (Scroll.enc (right ({ V := (IntKind.u16.wrap ((IntKind.u16.wrap (s.V + 1)) + 31)), T := s.T, X := s.X, W := s.W } : Scroll))) [] := by
  exact fn_of_x hG hM Try.func22 (by kernel_rfl) (by kernel_rfl) 400 [.yes, .call [] [] 1000 (Scroll.enc (right ({ V := (IntKind.u16.wrap ((IntKind.u16.wrap (s.V + 1)) + 31)), T := s.T, X := s.X, W := s.W } : Scroll))) []] (And.intro c1 (And.intro (right_ok ({ V := (IntKind.u16.wrap ((IntKind.u16.wrap (s.V + 1)) + 31)), T := s.T, X := s.X, W := s.W } : Scroll)) trivial)) (by kernel_rfl)
theorem sStep_p2 (s : Scroll) (far : Bool) (c1 : far = false) : FnSpec Try.prog 22 1000 [Scroll.enc s, .bool far] [] (Scroll.enc (right ({ V := (IntKind.u16.wrap (s.V + 1)), T := s.T, X := s.X, W := s.W } : Scroll))) [] := by
  exact fn_of_x hG hM Try.func22 (by kernel_rfl) (by kernel_rfl) 400 [.no, .call [] [] 1000 (Scroll.enc (right ({ V := (IntKind.u16.wrap (s.V + 1)), T := s.T, X := s.X, W := s.W } : Scroll))) []] (And.intro c1 (And.intro (right_ok ({ V := (IntKind.u16.wrap (s.V + 1)), T := s.T, X := s.X, W := s.W } : Scroll)) trivial)) (by kernel_rfl)
theorem sStep_ok (s : Scroll) (far : Bool) : FnSpec Try.prog 22 1000 [Scroll.enc s, .bool far] [] (Scroll.enc (sStep s far)) [] := by
  rcases bt far with c1 | c1
  ·
    have e : sStep s far = (right ({ V := (IntKind.u16.wrap ((IntKind.u16.wrap (s.V + 1)) + 31)), T := s.T, X := s.X, W := s.W } : Scroll)) := by unfold sStep; rw [if_pos c1]
    rw [e]
    exact sStep_p1 s far c1
  ·
    have e : sStep s far = (right ({ V := (IntKind.u16.wrap (s.V + 1)), T := s.T, X := s.X, W := s.W } : Scroll)) := by unfold sStep; rw [if_neg (nt c1)]
    rw [e]
    exact sStep_p2 s far c1

/-- (kotatsu/loopy.Scroll).Right -/
def sRight (s : Scroll) : Scroll :=
  if (((bAnd .u16 ((right s).V) 31) : Int) == 31) = true then
    ({ V := (bXor .u16 (bAndNot .u16 ((right s).V) 31) 1024), T := (right s).T, X := (right s).X, W := (right s).W } : Scroll)
  else
    ({ V := (IntKind.u16.wrap ((right s).V + 1)), T := (right s).T, X := (right s).X, W := (right s).W } : Scroll)
theorem sRight_p1 (s : Scroll) (c1 : (((bAnd .u16 ((right s).V) 31) : Int) == 31) = true) : FnSpec Try.prog 23 1000 [Scroll.enc s] [] (Scroll.enc ({ V := (bXor .u16 (bAndNot .u16 ((right s).V) 31) 1024), T := (right s).T, X := (right s).X, W := (right s).W } : Scroll)) [] := by
  exact fn_of_x hG hM Try.func23 (by kernel_rfl) (by kernel_rfl) 400 [.call [] [] 1000 (Scroll.enc (right s)) [], .yes] (And.intro (right_ok s) (And.intro c1 trivial)) (by kernel_rfl)
theorem sRight_p2 (s : Scroll) (c1 : (((bAnd .u16 ((right s).V) 31) : Int) == 31) = false) : FnSpec Try.prog 23 1000 [Scroll.enc s] [] (Scroll.enc ({ V := (IntKind.u16.wrap ((right s).V + 1)), T := (right s).T, X := (right s).X, W := (right s).W } : Scroll)) [] := by
  exact fn_of_x hG hM Try.func23 (by kernel_rfl) (by kernel_rfl) 400 [.call [] [] 1000 (Scroll.enc (right s)) [], .no] (And.intro (right_ok s) (And.intro c1 trivial)) (by kernel_rfl)
theorem sRight_ok (s : Scroll) : FnSpec Try.prog 23 1000 [Scroll.enc s] [] (Scroll.enc (sRight s)) [] := by
  rcases bt (((bAnd .u16 ((right s).V) 31) : Int) == 31) with c1 | c1
  ·
    have e : sRight s = ({ V := (bXor .u16 (bAndNot .u16 ((right s).V) 31) 1024), T := (right s).T, X := (right s).X, W := (right s).W } : Scroll) := by unfold sRight; rw [if_pos c1]
    rw [e]
    exact sRight_p1 s c1
  ·
    have e : sRight s = ({ V := (IntKind.u16.wrap ((right s).V + 1)), T := (right s).T, X := (right s).X, W := (right s).W } : Scroll) := by unfold sRight; rw [if_neg (nt c1)]
    rw [e]
    exact sRight_p2 s c1

/-- (kotatsu/loopy.Scroll).Down -/
def sDown (s : Scroll) : Scroll :=
  if (((bAnd .u16 ((right s).V) 28672) : Int) != 28672) = true then
    ({ V := (IntKind.u16.wrap ((right s).V + 4096)), T := (right s).T, X := (right s).X, W := (right s).W } : Scroll)
  else
    if (((bAnd .u16 (bAndNot .u16 ((right s).V) 28672) 992) : Int) == 928) = true then
      ({ V := (bXor .u16 (bAndNot .u16 (bAndNot .u16 ((right s).V) 28672) 992) 2048), T := (right s).T, X := (right s).X, W := (right s).W } : Scroll)
    else
      if (((bAnd .u16 (bAndNot .u16 ((right s).V) 28672) 992) : Int) == 992) = true then
        ({ V := (bAndNot .u16 (bAndNot .u16 ((right s).V) 28672) 992), T := (right s).T, X := (right s).X, W := (right s).W } : Scroll)
      else
        ({ V := (IntKind.u16.wrap ((bAndNot .u16 ((right s).V) 28672) + 32)), T := (right s).T, X := (right s).X, W := (right s).W } : Scroll)
theorem sDown_p1 (s : Scroll) (c1 : (((bAnd .u16 ((right s).V) 28672) : Int) != 28672) = true) : FnSpec Try.prog 24 1000 [Scroll.enc s] [] (Scroll.enc ({ V := (IntKind.u16.wrap ((right s).V + 4096)), T := (right s).T, X := (right s).X, W := (right s).W } : Scroll)) [] := by
  exact fn_of_x hG hM Try.func24 (by kernel_rfl) (by kernel_rfl) 400 [.call [] [] 1000 (Scroll.enc (right s)) [], .yes] (And.intro (right_ok s) (And.intro c1 trivial)) (by kernel_rfl)
theorem sDown_p2 (s : Scroll) (c1 : (((bAnd .u16 ((right s).V) 28672) : Int) != 28672) = false) (c2 : (((bAnd .u16 (bAndNot .u16 ((right s).V) 28672) 992) : Int) == 928) = true) : FnSpec Try.prog 24 1000 [Scroll.enc s] [] (Scroll.enc ({ V := (bXor .u16 (bAndNot .u16 (bAndNot .u16 ((right s).V) 28672) 992) 2048), T := (right s).T, X := (right s).X, W := (right s).W } : Scroll)) [] := by
  exact fn_of_x hG hM Try.func24 (by kernel_rfl) (by kernel_rfl) 400 [.call [] [] 1000 (Scroll.enc (right s)) [], .no, .yes] (And.intro (right_ok s) (And.intro c1 (And.intro c2 trivial))) (by kernel_rfl)
theorem sDown_p3 (s : Scroll) (c1 : (((bAnd .u16 ((right s).V) 28672) : Int) != 28672) = false) (c2 : (((bAnd .u16 (bAndNot .u16 ((right s).V) 28672) 992) : Int) == 928) = false) (c3 : (((bAnd .u16 (bAndNot .u16 ((right s).V) 28672) 992) : Int) == 992) = true) : FnSpec Try.prog 24 1000 [Scroll.enc s] [] (Scroll.enc ({ V := (bAndNot .u16 (bAndNot .u16 ((right s).V) 28672) 992), T := (right s).T, X := (right s).X, W := (right s).W } : Scroll)) [] := by
  exact fn_of_x hG hM Try.func24 (by kernel_rfl) (by kernel_rfl) 400 [.call [] [] 1000 (Scroll.enc (right s)) [], .no, .no, .yes] (And.intro (right_ok s) (And.intro c1 (And.intro c2 (And.intro c3 trivial)))) (by kernel_rfl)
theorem sDown_p4 (s : Scroll) (c1 : (((bAnd .u16 ((right s).V) 28672) : Int) != 28672) = false) (c2 : (((bAnd .u16 (bAndNot .u16 ((right s).V) 28672) 992) : Int) == 928) = false) (c3 : (((bAnd .u16 (bAndNot .u16 ((right s).V) 28672) 992) : Int) == 992) = false) : FnSpec Try.prog 24 1000 [Scroll.enc s] [] (Scroll.enc ({ V := (IntKind.u16.wrap ((bAndNot .u16 ((right s).V) 28672) + 32)), T := (right s).T, X := (right s).X, W := (right s).W } : Scroll)) [] := by
  exact fn_of_x hG hM Try.func24 (by kernel_rfl) (by kernel_rfl) 400 [.call [] [] 1000 (Scroll.enc (right s)) [], .no, .no, .no] (And.intro (right_ok s) (And.intro c1 (And.intro c2 (And.intro c3 trivial)))) (by kernel_rfl)
theorem sDown_ok (s : Scroll) : FnSpec Try.prog 24 1000 [Scroll.enc s] [] (Scroll.enc (sDown s)) [] := by
  rcases bt (((bAnd .u16 ((right s).V) 28672) : Int) != 28672) with c1 | c1
  ·
    have e : sDown s = ({ V := (IntKind.u16.wrap ((right s).V + 4096)), T := (right s).T, X := (right s).X, W := (right s).W } : Scroll) := by unfold sDown; rw [if_pos c1]
    rw [e]
    exact sDown_p1 s c1
  ·
    rcases bt (((bAnd .u16 (bAndNot .u16 ((right s).V) 28672) 992) : Int) == 928) with c2 | c2
    ·
      have e : sDown s = ({ V := (bXor .u16 (bAndNot .u16 (bAndNot .u16 ((right s).V) 28672) 992) 2048), T := (right s).T, X := (right s).X, W := (right s).W } : Scroll) := by unfold sDown; rw [if_neg (nt c1), if_pos c2]
      rw [e]
      exact sDown_p2 s c1 c2
    ·
      rcases bt (((bAnd .u16 (bAndNot .u16 ((right s).V) 28672) 992) : Int) == 992) with c3 | c3
      ·
        have e : sDown s = ({ V := (bAndNot .u16 (bAndNot .u16 ((right s).V) 28672) 992), T := (right s).T, X := (right s).X, W := (right s).W } : Scroll) := by unfold sDown; rw [if_neg (nt c1), if_neg (nt c2), if_pos c3]
        rw [e]
        exact sDown_p3 s c1 c2 c3
      ·
        have e : sDown s = ({ V := (IntKind.u16.wrap ((bAndNot .u16 ((right s).V) 28672) + 32)), T := (right s).T, X := (right s).X, W := (right s).W } : Scroll) := by unfold sDown; rw [if_neg (nt c1), if_neg (nt c2), if_neg (nt c3)]
        rw [e]
        exact sDown_p4 s c1 c2 c3

/-- (kotatsu/loopy.Scroll).Line -/
def sLine (s : Scroll) : Scroll :=
  ({ V := (put ((right s).V) 1055 ((right s).T)), T := (right s).T, X := (right s).X, W := (right s).W } : Scroll)
theorem sLine_p1 (s : Scroll) : FnSpec Try.prog 27 1000 [Scroll.enc s] [] (Scroll.enc ({ V := (put ((right s).V) 1055 ((right s).T)), T := (right s).T, X := (right s).X, W := (right s).W } : Scroll)) [] := by
  exact fn_of_x hG hM Try.func27 (by kernel_rfl) (by kernel_rfl) 400 [.call [] [] 1000 (Scroll.enc (right s)) [], .call [] [] 1000 (.int .u16 (put ((right s).V) 1055 ((right s).T))) []] (And.intro (right_ok s) (And.intro (put_ok ((right s).V) 1055 ((right s).T)) trivial)) (by kernel_rfl)
theorem sLine_ok (s : Scroll) : FnSpec Try.prog 27 1000 [Scroll.enc s] [] (Scroll.enc (sLine s)) [] := by
  exact sLine_p1 s

/-- (kotatsu/loopy.Scroll).Top -/
def sTop (s : Scroll) : Scroll :=
  ({ V := (put ((right s).V) 31712 ((right s).T)), T := (right s).T, X := (right s).X, W := (right s).W } : Scroll)
theorem sTop_p1 (s : Scroll) : FnSpec Try.prog 28 1000 [Scroll.enc s] [] (Scroll.enc ({ V := (put ((right s).V) 31712 ((right s).T)), T := (right s).T, X := (right s).X, W := (right s).W } : Scroll)) [] := by
  exact fn_of_x hG hM Try.func28 (by kernel_rfl) (by kernel_rfl) 400 [.call [] [] 1000 (Scroll.enc (right s)) [], .call [] [] 1000 (.int .u16 (put ((right s).V) 31712 ((right s).T))) []] (And.intro (right_ok s) (And.intro (put_ok ((right s).V) 31712 ((right s).T)) trivial)) (by kernel_rfl)
theorem sTop_ok (s : Scroll) : FnSpec Try.prog 28 1000 [Scroll.enc s] [] (Scroll.enc (sTop s)) [] := by
  exact sTop_p1 s

/-- (kotatsu/loopy.Scroll).Name -/
def sName (s : Scroll) : Int :=
  (bOr .u16 8192 (bAnd .u16 s.V 4095))
theorem sName_p1 (s : Scroll) : FnSpec Try.prog 13 1000 [Scroll.enc s] [] (.int .u16 (bOr .u16 8192 (bAnd .u16 s.V 4095))) [] := by
  exact fn_of_x hG hM Try.func13 (by kernel_rfl) (by kernel_rfl) 400 [] trivial (by kernel_rfl)
theorem sName_ok (s : Scroll) : FnSpec Try.prog 13 1000 [Scroll.enc s] [] (.int .u16 (sName s)) [] := by
  exact sName_p1 s

/-- (kotatsu/loopy.Scroll).Shade -/
def sShade (s : Scroll) : Int × Int :=
  ((bOr .u16 (bOr .u16 (bOr .u16 9152 (bAnd .u16 s.V 3072)) (bShl .u16 (bShr .u16 (bShr .u16 (bAnd .u16 s.V 992) 5) 2) 3)) (bShr .u16 (bAnd .u16 s.V 31) 2)), (IntKind.u8.wrap (bOr .u16 (bAnd .u16 (bAnd .u16 s.V 31) 2) (bShl .u16 (bAnd .u16 (bShr .u16 (bAnd .u16 s.V 992) 5) 2) 1))))
theorem sShade_p1 (s : Scroll) : FnSpec Try.prog 11 1000 [Scroll.enc s] [] (.tuple ⟨[.int .u16 (((bOr .u16 (bOr .u16 (bOr .u16 9152 (bAnd .u16 s.V 3072)) (bShl .u16 (bShr .u16 (bShr .u16 (bAnd .u16 s.V 992) 5) 2) 3)) (bShr .u16 (bAnd .u16 s.V 31) 2)), (IntKind.u8.wrap (bOr .u16 (bAnd .u16 (bAnd .u16 s.V 31) 2) (bShl .u16 (bAnd .u16 (bShr .u16 (bAnd .u16 s.V 992) 5) 2) 1)))).1), .int .u8 (((bOr .u16 (bOr .u16 (bOr .u16 9152 (bAnd .u16 s.V 3072)) (bShl .u16 (bShr .u16 (bShr .u16 (bAnd .u16 s.V 992) 5) 2) 3)) (bShr .u16 (bAnd .u16 s.V 31) 2)), (IntKind.u8.wrap (bOr .u16 (bAnd .u16 (bAnd .u16 s.V 31) 2) (bShl .u16 (bAnd .u16 (bShr .u16 (bAnd .u16 s.V 992) 5) 2) 1)))).2)]⟩) [] := by
  exact fn_of_x hG hM Try.func11 (by kernel_rfl) (by kernel_rfl) 400 [] (And.intro (by decide : (0 : Int) ≤ 5) (And.intro (by decide : (0 : Int) ≤ 2) (And.intro (by decide : (0 : Int) ≤ 3) (And.intro (by decide : (0 : Int) ≤ 2) (And.intro (by decide : (0 : Int) ≤ 1) trivial))))) (by kernel_rfl)
theorem sShade_ok (s : Scroll) : FnSpec Try.prog 11 1000 [Scroll.enc s] [] (.tuple ⟨[.int .u16 ((sShade s).1), .int .u8 ((sShade s).2)]⟩) [] := by
  exact sShade_p1 s

/-- (kotatsu/loopy.Scroll).Row -/
def sRow (s : Scroll) : Int :=
  (IntKind.u8.wrap (bShr .u16 (bAnd .u16 s.V 28672) 12))
theorem sRow_p1 (s : Scroll) : FnSpec Try.prog 15 1000 [Scroll.enc s] [] (.int .u8 (IntKind.u8.wrap (bShr .u16 (bAnd .u16 s.V 28672) 12))) [] := by
  exact fn_of_x hG hM Try.func15 (by kernel_rfl) (by kernel_rfl) 400 [] (And.intro (by decide : (0 : Int) ≤ 12) trivial) (by kernel_rfl)
theorem sRow_ok (s : Scroll) : FnSpec Try.prog 15 1000 [Scroll.enc s] [] (.int .u8 (sRow s)) [] := by
  exact sRow_p1 s

/-- kotatsu/loopy.Mirror -/
def mirror (a : Int) (u : Bool) : Int :=
  if (!u) = true then
    (bOr .u16 (bAnd .u16 a 1023) (bAnd .u16 (bShr .u16 a 1) 1024))
  else
    (bAnd .u16 a 2047)
theorem mirror_p1 (a : Int) (u : Bool) (c1 : (!u) = true) : FnSpec Try.prog 16 1000 [.int .u16 a, .bool u] [] (.int .u16 (bOr .u16 (bAnd .u16 a 1023) (bAnd .u16 (bShr .u16 a 1) 1024))) [] := by
  exact fn_of_x hG hM Try.func16 (by kernel_rfl) (by kernel_rfl) 400 [.yes] (And.intro c1 (And.intro (by decide : (0 : Int) ≤ 1) trivial)) (by kernel_rfl)
theorem mirror_p2 (a : Int) (u : Bool) (c1 : (!u) = false) : FnSpec Try.prog 16 1000 [.int .u16 a, .bool u] [] (.int .u16 (bAnd .u16 a 2047)) [] := by
  exact fn_of_x hG hM Try.func16 (by kernel_rfl) (by kernel_rfl) 400 [.no] (And.intro c1 trivial) (by kernel_rfl)
theorem mirror_ok (a : Int) (u : Bool) : FnSpec Try.prog 16 1000 [.int .u16 a, .bool u] [] (.int .u16 (mirror a u)) [] := by
  rcases bt (!u) with c1 | c1
  ·
    have e : mirror a u = (bOr .u16 (bAnd .u16 a 1023) (bAnd .u16 (bShr .u16 a 1) 1024)) := by unfold mirror; rw [if_pos c1]
    rw [e]
    exact mirror_p1 a u c1
  ·
    have e : mirror a u = (bAnd .u16 a 2047) := by unfold mirror; rw [if_neg (nt c1)]
    rw [e]
    exact mirror_p2 a u c1

/-- kotatsu/loopy.Colour -/
def colour (a : Int) : Int :=
  if (((bAnd .u8 (IntKind.u8.wrap (bAnd .u16 a 31)) 19) : Int) == 16) = true then
    (bAndNot .u8 (IntKind.u8.wrap (bAnd .u16 a 31)) 16)
  else
    (IntKind.u8.wrap (bAnd .u16 a 31))
theorem colour_p1 (a : Int) (c1 : (((bAnd .u8 (IntKind.u8.wrap (bAnd .u16 a 31)) 19) : Int) == 16) = true) : FnSpec Try.prog 18 1000 [.int .u16 a] [] (.int .u8 (bAndNot .u8 (IntKind.u8.wrap (bAnd .u16 a 31)) 16)) [] := by
  exact fn_of_x hG hM Try.func18 (by kernel_rfl) (by kernel_rfl) 400 [.yes] (And.intro c1 trivial) (by kernel_rfl)
theorem colour_p2 (a : Int) (c1 : (((bAnd .u8 (IntKind.u8.wrap (bAnd .u16 a 31)) 19) : Int) == 16) = false) : FnSpec Try.prog 18 1000 [.int .u16 a] [] (.int .u8 (IntKind.u8.wrap (bAnd .u16 a 31))) [] := by
  exact fn_of_x hG hM Try.func18 (by kernel_rfl) (by kernel_rfl) 400 [.no] (And.intro c1 trivial) (by kernel_rfl)
theorem colour_ok (a : Int) : FnSpec Try.prog 18 1000 [.int .u16 a] [] (.int .u8 (colour a)) [] := by
  rcases bt (((bAnd .u8 (IntKind.u8.wrap (bAnd .u16 a 31)) 19) : Int) == 16) with c1 | c1
  ·
    have e : colour a = (bAndNot .u8 (IntKind.u8.wrap (bAnd .u16 a 31)) 16) := by unfold colour; rw [if_pos c1]
    rw [e]
    exact colour_p1 a c1
  ·
    have e : colour a = (IntKind.u8.wrap (bAnd .u16 a 31)) := by unfold colour; rw [if_neg (nt c1)]
    rw [e]
    exact colour_p2 a c1

/-- kotatsu/kotatsuref14.Of -/
def rOf (n : Int) : Place :=
  ({ Column := (Int.tmod n 32), Line := (Int.tmod (IntKind.i64.wrap (Int.tdiv n 32)) 32), Across := (Int.tmod (IntKind.i64.wrap (Int.tdiv n 1024)) 2), Down := (Int.tmod (IntKind.i64.wrap (Int.tdiv n 2048)) 2), Row := (Int.tmod (IntKind.i64.wrap (Int.tdiv n 4096)) 8) } : Place)
theorem rOf_p1 (n : Int) : FnSpec Try.prog 29 1000 [.int .i64 n] [] (Place.enc ({ Column := (Int.tmod n 32), Line := (Int.tmod (IntKind.i64.wrap (Int.tdiv n 32)) 32), Across := (Int.tmod (IntKind.i64.wrap (Int.tdiv n 1024)) 2), Down := (Int.tmod (IntKind.i64.wrap (Int.tdiv n 2048)) 2), Row := (Int.tmod (IntKind.i64.wrap (Int.tdiv n 4096)) 8) } : Place)) [] := by
  exact fn_of_x hG hM Try.func29 (by kernel_rfl) (by kernel_rfl) 400 [] (And.intro (by decide : ((32 : Int) ≠ 0)) (And.intro (by decide : ((32 : Int) ≠ 0)) (And.intro (by decide : ((32 : Int) ≠ 0)) (And.intro (by decide : ((1024 : Int) ≠ 0)) (And.intro (by decide : ((2 : Int) ≠ 0)) (And.intro (by decide : ((2048 : Int) ≠ 0)) (And.intro (by decide : ((2 : Int) ≠ 0)) (And.intro (by decide : ((4096 : Int) ≠ 0)) (And.intro (by decide : ((8 : Int) ≠ 0)) trivial))))))))) (by kernel_rfl)
theorem rOf_ok (n : Int) : FnSpec Try.prog 29 1000 [.int .i64 n] [] (Place.enc (rOf n)) [] := by
  exact rOf_p1 n

/-- kotatsu/kotatsuref14.Name -/
def rName (p : Place) : Int :=
  (IntKind.i64.wrap ((IntKind.i64.wrap ((IntKind.i64.wrap ((IntKind.i64.wrap (8192 + p.Column)) + (IntKind.i64.wrap (32 * p.Line)))) + (IntKind.i64.wrap (1024 * p.Across)))) + (IntKind.i64.wrap (2048 * p.Down))))
theorem rName_p1 (p : Place) : FnSpec Try.prog 14 1000 [Place.enc p] [] (.int .i64 (IntKind.i64.wrap ((IntKind.i64.wrap ((IntKind.i64.wrap ((IntKind.i64.wrap (8192 + p.Column)) + (IntKind.i64.wrap (32 * p.Line)))) + (IntKind.i64.wrap (1024 * p.Across)))) + (IntKind.i64.wrap (2048 * p.Down))))) [] := by
  exact fn_of_x hG hM Try.func14 (by kernel_rfl) (by kernel_rfl) 400 [] trivial (by kernel_rfl)
theorem rName_ok (p : Place) : FnSpec Try.prog 14 1000 [Place.enc p] [] (.int .i64 (rName p)) [] := by
  exact rName_p1 p

/-- kotatsu/kotatsuref14.Shade -/
def rShade (p : Place) : Int × Int :=
  ((IntKind.i64.wrap ((IntKind.i64.wrap ((IntKind.i64.wrap (9152 + (IntKind.i64.wrap (1024 * (IntKind.i64.wrap (p.Across + (IntKind.i64.wrap (2 * p.Down)))))))) + (IntKind.i64.wrap (8 * (IntKind.i64.wrap (Int.tdiv p.Line 4)))))) + (IntKind.i64.wrap (Int.tdiv p.Column 4)))), (IntKind.i64.wrap ((IntKind.i64.wrap ((IntKind.i64.wrap (Int.tdiv (Int.tmod p.Column 4) 2)) * 2)) + (IntKind.i64.wrap ((IntKind.i64.wrap (Int.tdiv (Int.tmod p.Line 4) 2)) * 4)))))
theorem rShade_p1 (p : Place) : FnSpec Try.prog 12 1000 [Place.enc p] [] (.tuple ⟨[.int .i64 (((IntKind.i64.wrap ((IntKind.i64.wrap ((IntKind.i64.wrap (9152 + (IntKind.i64.wrap (1024 * (IntKind.i64.wrap (p.Across + (IntKind.i64.wrap (2 * p.Down)))))))) + (IntKind.i64.wrap (8 * (IntKind.i64.wrap (Int.tdiv p.Line 4)))))) + (IntKind.i64.wrap (Int.tdiv p.Column 4)))), (IntKind.i64.wrap ((IntKind.i64.wrap ((IntKind.i64.wrap (Int.tdiv (Int.tmod p.Column 4) 2)) * 2)) + (IntKind.i64.wrap ((IntKind.i64.wrap (Int.tdiv (Int.tmod p.Line 4) 2)) * 4))))).1), .int .i64 (((IntKind.i64.wrap ((IntKind.i64.wrap ((IntKind.i64.wrap (9152 + (IntKind.i64.wrap (1024 * (IntKind.i64.wrap (p.Across + (IntKind.i64.wrap (2 * p.Down)))))))) + (IntKind.i64.wrap (8 * (IntKind.i64.wrap (Int.tdiv p.Line 4)))))) + (IntKind.i64.wrap (Int.tdiv p.Column 4)))), (IntKind.i64.wrap ((IntKind.i64.wrap ((IntKind.i64.wrap (Int.tdiv (Int.tmod p.Column 4) 2)) * 2)) + (IntKind.i64.wrap ((IntKind.i64.wrap (Int.tdiv (Int.tmod p.Line 4) 2)) * 4))))).2)]⟩) [] := by
  exact fn_of_x hG hM Try.func12 (by kernel_rfl) (by kernel_rfl) 400 [] (And.intro (by decide : ((4 : Int) ≠ 0)) (And.intro (by decide : ((4 : Int) ≠ 0)) (And.intro (by decide : ((4 : Int) ≠ 0)) (And.intro (by decide : ((2 : Int) ≠ 0)) (And.intro (by decide : ((4 : Int) ≠ 0)) (And.intro (by decide : ((2 : Int) ≠ 0)) trivial)))))) (by kernel_rfl)
theorem rShade_ok (p : Place) : FnSpec Try.prog 12 1000 [Place.enc p] [] (.tuple ⟨[.int .i64 ((rShade p).1), .int .i64 ((rShade p).2)]⟩) [] := by
  exact rShade_p1 p

/-- kotatsu/kotatsuref14.Mirror -/
def rMirror (a : Int) (u : Bool) : Int :=
  if u = true then
    (IntKind.i64.wrap ((Int.tmod a 1024) + (IntKind.i64.wrap (1024 * (Int.tmod (IntKind.i64.wrap (Int.tdiv a 1024)) 2)))))
  else
    (IntKind.i64.wrap ((Int.tmod a 1024) + (IntKind.i64.wrap (1024 * (Int.tmod (IntKind.i64.wrap (Int.tdiv a 2048)) 2)))))
theorem rMirror_p1 (a : Int) (u : Bool) (c1 : u = true) : FnSpec Try.prog 17 1000 [.int .i64 a, .bool u] [] (.int .i64 (IntKind.i64.wrap ((Int.tmod a 1024) + (IntKind.i64.wrap (1024 * (Int.tmod (IntKind.i64.wrap (Int.tdiv a 1024)) 2)))))) [] := by
  exact fn_of_x hG hM Try.func17 (by kernel_rfl) (by kernel_rfl) 400 [.yes] (And.intro (by decide : ((2048 : Int) ≠ 0)) (And.intro (by decide : ((2 : Int) ≠ 0)) (And.intro c1 (And.intro (by decide : ((1024 : Int) ≠ 0)) (And.intro (by decide : ((2 : Int) ≠ 0)) (And.intro (by decide : ((1024 : Int) ≠ 0)) trivial)))))) (by kernel_rfl)
theorem rMirror_p2 (a : Int) (u : Bool) (c1 : u = false) : FnSpec Try.prog 17 1000 [.int .i64 a, .bool u] [] (.int .i64 (IntKind.i64.wrap ((Int.tmod a 1024) + (IntKind.i64.wrap (1024 * (Int.tmod (IntKind.i64.wrap (Int.tdiv a 2048)) 2)))))) [] := by
  exact fn_of_x hG hM Try.func17 (by kernel_rfl) (by kernel_rfl) 400 [.no] (And.intro (by decide : ((2048 : Int) ≠ 0)) (And.intro (by decide : ((2 : Int) ≠ 0)) (And.intro c1 (And.intro (by decide : ((1024 : Int) ≠ 0)) trivial)))) (by kernel_rfl)
theorem rMirror_ok (a : Int) (u : Bool) : FnSpec Try.prog 17 1000 [.int .i64 a, .bool u] [] (.int .i64 (rMirror a u)) [] := by
  rcases bt u with c1 | c1
  ·
    have e : rMirror a u = (IntKind.i64.wrap ((Int.tmod a 1024) + (IntKind.i64.wrap (1024 * (Int.tmod (IntKind.i64.wrap (Int.tdiv a 1024)) 2))))) := by unfold rMirror; rw [if_pos c1]
    rw [e]
    exact rMirror_p1 a u c1
  ·
    have e : rMirror a u = (IntKind.i64.wrap ((Int.tmod a 1024) + (IntKind.i64.wrap (1024 * (Int.tmod (IntKind.i64.wrap (Int.tdiv a 2048)) 2))))) := by unfold rMirror; rw [if_neg (nt c1)]
    rw [e]
    exact rMirror_p2 a u c1

/-- kotatsu/kotatsuref14.Colour -/
def rColour (a : Int) : Int :=
  if (decide (((Int.tmod a 32) : Int) ≥ 16)) = true then
    if (((Int.tmod (Int.tmod a 32) 4) : Int) == 0) = true then
      (IntKind.i64.wrap ((Int.tmod a 32) - 16))
    else
      (Int.tmod a 32)
  else
    (Int.tmod a 32)
theorem rColour_p1 (a : Int) (c1 : (decide (((Int.tmod a 32) : Int) ≥ 16)) = true) (c2 : (((Int.tmod (Int.tmod a 32) 4) : Int) == 0) = true) : FnSpec Try.prog 19 1000 [.int .i64 a] [] (.int .i64 (IntKind.i64.wrap ((Int.tmod a 32) - 16))) [] := by
  exact fn_of_x hG hM Try.func19 (by kernel_rfl) (by kernel_rfl) 400 [.yes, .yes, .yes, .yes, .yes] (And.intro (by decide : ((32 : Int) ≠ 0)) (And.intro c1 (And.intro c1 (And.intro (by decide : ((4 : Int) ≠ 0)) (And.intro c1 (And.intro c1 (And.intro c2 trivial))))))) (by kernel_rfl)
theorem rColour_p2 (a : Int) (c1 : (decide (((Int.tmod a 32) : Int) ≥ 16)) = true) (c2 : (((Int.tmod (Int.tmod a 32) 4) : Int) == 0) = false) : FnSpec Try.prog 19 1000 [.int .i64 a] [] (.int .i64 (Int.tmod a 32)) [] := by
  exact fn_of_x hG hM Try.func19 (by kernel_rfl) (by kernel_rfl) 400 [.yes, .yes, .yes, .yes, .no] (And.intro (by decide : ((32 : Int) ≠ 0)) (And.intro c1 (And.intro c1 (And.intro (by decide : ((4 : Int) ≠ 0)) (And.intro c1 (And.intro c1 (And.intro c2 trivial))))))) (by kernel_rfl)
theorem rColour_p3 (a : Int) (c1 : (decide (((Int.tmod a 32) : Int) ≥ 16)) = false) : FnSpec Try.prog 19 1000 [.int .i64 a] [] (.int .i64 (Int.tmod a 32)) [] := by
  exact fn_of_x hG hM Try.func19 (by kernel_rfl) (by kernel_rfl) 400 [.no, .no, .no, .no, .no] (And.intro (by decide : ((32 : Int) ≠ 0)) (And.intro c1 (And.intro c1 (And.intro c1 (And.intro c1 (And.intro (Eq.refl false) trivial)))))) (by kernel_rfl)
theorem rColour_ok (a : Int) : FnSpec Try.prog 19 1000 [.int .i64 a] [] (.int .i64 (rColour a)) [] := by
  rcases bt (decide (((Int.tmod a 32) : Int) ≥ 16)) with c1 | c1
  ·
    rcases bt (((Int.tmod (Int.tmod a 32) 4) : Int) == 0) with c2 | c2
    ·
      have e : rColour a = (IntKind.i64.wrap ((Int.tmod a 32) - 16)) := by unfold rColour; rw [if_pos c1, if_pos c2]
      rw [e]
      exact rColour_p1 a c1 c2
    ·
      have e : rColour a = (Int.tmod a 32) := by unfold rColour; rw [if_pos c1, if_neg (nt c2)]
      rw [e]
      exact rColour_p2 a c1 c2
  ·
    have e : rColour a = (Int.tmod a 32) := by unfold rColour; rw [if_neg (nt c1)]
    rw [e]
    exact rColour_p3 a c1

/-- kotatsu/kotatsulaw14.own -/
def own (s : Scroll) : RScroll :=
  ({ V := (rOf (Int.tmod (IntKind.i64.wrap s.V) 32768)), T := (rOf (Int.tmod (IntKind.i64.wrap s.T) 32768)), X := (Int.tmod (IntKind.i64.wrap s.X) 8), W := s.W } : RScroll)
theorem own_p1 (s : Scroll) : FnSpec Try.prog 10 1000 [Scroll.enc s] [] (RScroll.enc ({ V := (rOf (Int.tmod (IntKind.i64.wrap s.V) 32768)), T := (rOf (Int.tmod (IntKind.i64.wrap s.T) 32768)), X := (Int.tmod (IntKind.i64.wrap s.X) 8), W := s.W } : RScroll)) [] := by
  exact fn_of_x hG hM Try.func10 (by kernel_rfl) (by kernel_rfl) 400 [.call [] [] 1000 (Place.enc (rOf (Int.tmod (IntKind.i64.wrap s.V) 32768))) [], .call [] [] 1000 (Place.enc (rOf (Int.tmod (IntKind.i64.wrap s.T) 32768))) []] (And.intro (by decide : ((32768 : Int) ≠ 0)) (And.intro (rOf_ok (Int.tmod (IntKind.i64.wrap s.V) 32768)) (And.intro (by decide : ((32768 : Int) ≠ 0)) (And.intro (rOf_ok (Int.tmod (IntKind.i64.wrap s.T) 32768)) (And.intro (by decide : ((8 : Int) ≠ 0)) trivial))))) (by kernel_rfl)
theorem own_ok (s : Scroll) : FnSpec Try.prog 10 1000 [Scroll.enc s] [] (RScroll.enc (own s)) [] := by
  exact own_p1 s

/-- kotatsu/kotatsulaw14.awake -/
def awake  : Bool :=
  (true && (true && (true && (true && true))))
theorem awake_p1  : FnSpec Try.prog 9 1000 [] [] (.bool (true && (true && (true && (true && true))))) [] := by
  exact fn_of_x hG hM Try.func9 (by kernel_rfl) (by kernel_rfl) 400 [.call [] [] 1000 (.agg ⟨[.int .u16 0, .int .u16 15, .int .u8 5, .bool true]⟩) [], .call [] [] 1000 (.agg ⟨[.int .u16 0, .int .u16 24943, .int .u8 5, .bool false]⟩) []] (And.intro (sOffset_ok ({ V := 0, T := 0, X := 0, W := false } : Scroll) 125) (And.intro (sOffset_ok ({ V := 0, T := 15, X := 5, W := true } : Scroll) 94) trivial)) (by kernel_rfl)
theorem awake_ok  : FnSpec Try.prog 9 1000 [] [] (.bool awake) [] := by
  exact awake_p1 

theorem lawReads_p1 (s : Scroll) (c1 : (!awake) = false) (c2 : (((IntKind.i64.wrap (sName s)) : Int) == (rName ((own s).V))) = true) (c3 : (((IntKind.i64.wrap ((sShade s).1)) : Int) == (rShade ((own s).V)).1) = true) (c4 : (((IntKind.i64.wrap ((sShade s).2)) : Int) == (rShade ((own s).V)).2) = true) : FnSpec Try.prog 3 1000 [Scroll.enc s] [] (.bool (((IntKind.i64.wrap (sRow s)) : Int) == ((own s).V).Row)) [] := by
  exact fn_of_x hG hM Try.func3 (by kernel_rfl) (by kernel_rfl) 400 [.call [] [] 1000 (.bool awake) [], .no, .call [] [] 1000 (RScroll.enc (own s)) [], .call [] [] 1000 (.tuple ⟨[.int .u16 ((sShade s).1), .int .u8 ((sShade s).2)]⟩) [], .call [] [] 1000 (.tuple ⟨[.int .i64 ((rShade ((own s).V)).1), .int .i64 ((rShade ((own s).V)).2)]⟩) [], .call [] [] 1000 (.int .u16 (sName s)) [], .call [] [] 1000 (.int .i64 (rName ((own s).V))) [], .yes, .yes, .yes, .yes, .yes, .yes, .yes, .yes, .yes, .yes, .yes, .yes, .call [] [] 1000 (.int .u8 (sRow s)) [], .yes, .yes, .yes, .yes, .yes, .yes] (And.intro (awake_ok) (And.intro c1 (And.intro (own_ok s) (And.intro (sShade_ok s) (And.intro (rShade_ok ((own s).V)) (And.intro (sName_ok s) (And.intro (rName_ok ((own s).V)) (And.intro c2 (And.intro c2 (And.intro c2 (And.intro c2 (And.intro c2 (And.intro c3 (And.intro c3 (And.intro c3 (And.intro c3 (And.intro c3 (And.intro c4 (And.intro c4 (And.intro (sRow_ok s) (And.intro c4 (And.intro c4 (And.intro c4 (And.intro c4 (And.intro c4 (And.intro c4 trivial)))))))))))))))))))))))))) (by kernel_rfl)

theorem lawMirrors_p1 (a : Int) (u : Bool) (c1 : (!awake) = false) (c2 : (((IntKind.i64.wrap (mirror a u)) : Int) == (rMirror (IntKind.i64.wrap a) u)) = true) (c3 : (decide (((mirror a u) : Int) < 2048)) = true) (c4 : ((((mirror (bXor .u16 a 1024) u) : Int) == (mirror a u)) == (!u)) = true) (c5 : ((((mirror (bXor .u16 a 2048) u) : Int) == (mirror a u)) == u) = true) : FnSpec Try.prog 4 1000 [.int .u16 a, .bool u] [] (.bool (((mirror (bXor .u16 a 4096) u) : Int) == (mirror a u))) [] := by
  exact fn_of_x hG hM Try.func4 (by kernel_rfl) (by kernel_rfl) 400 [.call [] [] 1000 (.bool awake) [], .no, .call [] [] 1000 (.int .u16 (mirror a u)) [], .call [] [] 1000 (.int .u16 (mirror (bXor .u16 a 1024) u)) [], .call [] [] 1000 (.int .u16 (mirror (bXor .u16 a 2048) u)) [], .call [] [] 1000 (.int .i64 (rMirror (IntKind.i64.wrap a) u)) [], .yes, .yes, .yes, .yes, .yes, .yes, .yes, .yes, .yes, .yes, .yes, .yes, .yes, .yes, .yes, .yes, .yes, .yes, .yes, .yes, .call [] [] 1000 (.int .u16 (mirror (bXor .u16 a 4096) u)) [], .yes, .yes, .yes] (And.intro (awake_ok) (And.intro c1 (And.intro (mirror_ok a u) (And.intro (mirror_ok (bXor .u16 a 1024) u) (And.intro (mirror_ok (bXor .u16 a 2048) u) (And.intro (rMirror_ok (IntKind.i64.wrap a) u) (And.intro c2 (And.intro c2 (And.intro c2 (And.intro c3 (And.intro c3 (And.intro c3 (And.intro c3 (And.intro c3 (And.intro c3 (And.intro c3 (And.intro c4 (And.intro c4 (And.intro c4 (And.intro c4 (And.intro c4 (And.intro c4 (And.intro c5 (And.intro c5 (And.intro c5 (And.intro c5 (And.intro (mirror_ok (bXor .u16 a 4096) u) (And.intro c5 (And.intro c5 (And.intro c5 trivial)))))))))))))))))))))))))))))) (by kernel_rfl)

theorem lawColours_p1 (a : Int) (c1 : (!awake) = false) (c2 : (((IntKind.i64.wrap (colour a)) : Int) == (rColour (IntKind.i64.wrap a))) = true) (c3 : (((colour (IntKind.u16.wrap (colour a))) : Int) == (colour a)) = true) : FnSpec Try.prog 5 1000 [.int .u16 a] [] (.bool ((((bAnd .u16 a 3) : Int) == 0) == (((colour (bXor .u16 a 16)) : Int) == (colour a)))) [] := by
  exact fn_of_x hG hM Try.func5 (by kernel_rfl) (by kernel_rfl) 400 [.call [] [] 1000 (.bool awake) [], .no, .call [] [] 1000 (.int .u8 (colour a)) [], .unroll, .yes, .call [] [] 1000 (.int .u8 0) [], .yes, .unroll, .yes, .call [] [] 1000 (.int .u8 1) [], .yes, .unroll, .yes, .call [] [] 1000 (.int .u8 2) [], .yes, .unroll, .yes, .call [] [] 1000 (.int .u8 3) [], .yes, .unroll, .yes, .call [] [] 1000 (.int .u8 4) [], .yes, .unroll, .yes, .call [] [] 1000 (.int .u8 5) [], .yes, .unroll, .yes, .call [] [] 1000 (.int .u8 6) [], .yes, .unroll, .yes, .call [] [] 1000 (.int .u8 7) [], .yes, .unroll, .yes, .call [] [] 1000 (.int .u8 8) [], .yes, .unroll, .yes, .call [] [] 1000 (.int .u8 9) [], .yes, .unroll, .yes, .call [] [] 1000 (.int .u8 10) [], .yes, .unroll, .yes, .call [] [] 1000 (.int .u8 11) [], .yes, .unroll, .yes, .call [] [] 1000 (.int .u8 12) [], .yes, .unroll, .yes, .call [] [] 1000 (.int .u8 13) [], .yes, .unroll, .yes, .call [] [] 1000 (.int .u8 14) [], .yes, .unroll, .yes, .call [] [] 1000 (.int .u8 15) [], .yes, .unroll, .yes, .call [] [] 1000 (.int .u8 0) [], .no, .unroll, .yes, .call [] [] 1000 (.int .u8 17) [], .yes, .unroll, .yes, .call [] [] 1000 (.int .u8 18) [], .yes, .unroll, .yes, .call [] [] 1000 (.int .u8 19) [], .yes, .unroll, .yes, .call [] [] 1000 (.int .u8 4) [], .no, .unroll, .yes, .call [] [] 1000 (.int .u8 21) [], .yes, .unroll, .yes, .call [] [] 1000 (.int .u8 22) [], .yes, .unroll, .yes, .call [] [] 1000 (.int .u8 23) [], .yes, .unroll, .yes, .call [] [] 1000 (.int .u8 8) [], .no, .unroll, .yes, .call [] [] 1000 (.int .u8 25) [], .yes, .unroll, .yes, .call [] [] 1000 (.int .u8 26) [], .yes, .unroll, .yes, .call [] [] 1000 (.int .u8 27) [], .yes, .unroll, .yes, .call [] [] 1000 (.int .u8 12) [], .no, .unroll, .yes, .call [] [] 1000 (.int .u8 29) [], .yes, .unroll, .yes, .call [] [] 1000 (.int .u8 30) [], .yes, .unroll, .yes, .call [] [] 1000 (.int .u8 31) [], .yes, .unroll, .no, .call [] [] 1000 (.int .i64 (rColour (IntKind.i64.wrap a))) [], .yes, .yes, .yes, .yes, .yes, .yes, .call [] [] 1000 (.int .u8 (colour (IntKind.u16.wrap (colour a)))) [], .yes, .yes, .yes, .yes, .yes, .yes, .yes, .yes, .yes, .call [] [] 1000 (.int .u8 (colour (bXor .u16 a 16))) [], .yes, .yes, .yes, .yes] (And.intro (awake_ok) (And.intro c1 (And.intro (colour_ok a) (And.intro (Eq.refl true) (And.intro (colour_ok 0) (And.intro (Eq.refl true) (And.intro (Eq.refl true) (And.intro (colour_ok 1) (And.intro (Eq.refl true) (And.intro (Eq.refl true) (And.intro (colour_ok 2) (And.intro (Eq.refl true) (And.intro (Eq.refl true) (And.intro (colour_ok 3) (And.intro (Eq.refl true) (And.intro (Eq.refl true) (And.intro (colour_ok 4) (And.intro (Eq.refl true) (And.intro (Eq.refl true) (And.intro (colour_ok 5) (And.intro (Eq.refl true) (And.intro (Eq.refl true) (And.intro (colour_ok 6) (And.intro (Eq.refl true) (And.intro (Eq.refl true) (And.intro (colour_ok 7) (And.intro (Eq.refl true) (And.intro (Eq.refl true) (And.intro (colour_ok 8) (And.intro (Eq.refl true) (And.intro (Eq.refl true) (And.intro (colour_ok 9) (And.intro (Eq.refl true) (And.intro (Eq.refl true) (And.intro (colour_ok 10) (And.intro (Eq.refl true) (And.intro (Eq.refl true) (And.intro (colour_ok 11) (And.intro (Eq.refl true) (And.intro (Eq.refl true) (And.intro (colour_ok 12) (And.intro (Eq.refl true) (And.intro (Eq.refl true) (And.intro (colour_ok 13) (And.intro (Eq.refl true) (And.intro (Eq.refl true) (And.intro (colour_ok 14) (And.intro (Eq.refl true) (And.intro (Eq.refl true) (And.intro (colour_ok 15) (And.intro (Eq.refl true) (And.intro (Eq.refl true) (And.intro (colour_ok 16) (And.intro (Eq.refl false) (And.intro (Eq.refl true) (And.intro (colour_ok 17) (And.intro (Eq.refl true) (And.intro (Eq.refl true) (And.intro (colour_ok 18) (And.intro (Eq.refl true) (And.intro (Eq.refl true) (And.intro (colour_ok 19) (And.intro (Eq.refl true) (And.intro (Eq.refl true) (And.intro (colour_ok 20) (And.intro (Eq.refl false) (And.intro (Eq.refl true) (And.intro (colour_ok 21) (And.intro (Eq.refl true) (And.intro (Eq.refl true) (And.intro (colour_ok 22) (And.intro (Eq.refl true) (And.intro (Eq.refl true) (And.intro (colour_ok 23) (And.intro (Eq.refl true) (And.intro (Eq.refl true) (And.intro (colour_ok 24) (And.intro (Eq.refl false) (And.intro (Eq.refl true) (And.intro (colour_ok 25) (And.intro (Eq.refl true) (And.intro (Eq.refl true) (And.intro (colour_ok 26) (And.intro (Eq.refl true) (And.intro (Eq.refl true) (And.intro (colour_ok 27) (And.intro (Eq.refl true) (And.intro (Eq.refl true) (And.intro (colour_ok 28) (And.intro (Eq.refl false) (And.intro (Eq.refl true) (And.intro (colour_ok 29) (And.intro (Eq.refl true) (And.intro (Eq.refl true) (And.intro (colour_ok 30) (And.intro (Eq.refl true) (And.intro (Eq.refl true) (And.intro (colour_ok 31) (And.intro (Eq.refl true) (And.intro (Eq.refl false) (And.intro (rColour_ok (IntKind.i64.wrap a)) (And.intro c2 (And.intro c2 (And.intro c2 (And.intro (Eq.refl true) (And.intro (Eq.refl true) (And.intro (Eq.refl true) (And.intro (colour_ok (IntKind.u16.wrap (colour a))) (And.intro (Eq.refl true) (And.intro (Eq.refl true) (And.intro (Eq.refl true) (And.intro c3 (And.intro c3 (And.intro c3 (And.intro c3 (And.intro c3 (And.intro c3 (And.intro (colour_ok (bXor .u16 a 16)) (And.intro c3 (And.intro c3 (And.intro c3 (And.intro c3 trivial)))))))))))))))))))))))))))))))))))))))))))))))))))))))))))))))))))))))))))))))))))))))))))))))))))))))))))))))))))))))))) (by kernel_rfl)

/-- a loop of kotatsu/kotatsulaw14.LoopyAddresses: one round -/
def lawAddresses_L1nnnny (s : Scroll) (high : Int) (low : Int) (n : Int) (far : Bool) (xd : Int × Scroll) : (Int × Scroll) ⊕ (Int × Scroll) :=
  if (decide ((xd.1 : Int) < n)) = true then
    .inl ((IntKind.u8.wrap (xd.1 + 1)), (sStep xd.2 far))
  else
    .inr (xd.1, xd.2)
def lawAddresses_L1nnnny_T (s : Scroll) (high : Int) (low : Int) (n : Int) (far : Bool) (xd : Int × Scroll) : Tm := [(3, .int .u8 n), (4, .bool far), (5, .pointer (some ⟨1000, 0, none⟩)), (10, .bool false), (11, .int .i64 (IntKind.i64.wrap ((IntKind.i64.wrap ((IntKind.i64.wrap (bAnd .u8 high 63)) * 256)) + (IntKind.i64.wrap low)))), (12, .int .i64 32), (45, .int .u8 n), (46, .int .u8 xd.1)]
def lawAddresses_L1nnnny_H (s : Scroll) (high : Int) (low : Int) (n : Int) (far : Bool) (xd : Int × Scroll) : Heap := [(1000, ⟨[.one (.int .u16 xd.2.V), .one (.int .u16 xd.2.T), .one (.int .u8 xd.2.X), .one (.bool xd.2.W)], 24, false⟩)]
def lawAddresses_L1nnnny_T1 (s : Scroll) (high : Int) (low : Int) (n : Int) (far : Bool) (r : Int × Scroll) : Tm := lawAddresses_L1nnnny_T s high low n far r
def lawAddresses_L1nnnny_H1 (s : Scroll) (high : Int) (low : Int) (n : Int) (far : Bool) (r : Int × Scroll) : Heap := lawAddresses_L1nnnny_H s high low n far r
def lawAddresses_L1nnnny_ex (_ : Int × Scroll) : Ex := .exit 0
theorem lawAddresses_L1nnnny_p1 (s : Scroll) (high : Int) (low : Int) (n : Int) (far : Bool) (xd : Int × Scroll) (d1 : (decide ((xd.1 : Int) < n)) = true) : Runs Try.prog 63 (bodyOf Try.f6 [1, 1, 1, 1, 1, 1, 1, 0, 1, 0, 0]) (lawAddresses_L1nnnny_T s high low n far xd) (lawAddresses_L1nnnny_H s high low n far xd) 1001 .normal (lawAddresses_L1nnnny_T s high low n far ((IntKind.u8.wrap (xd.1 + 1)), (sStep xd.2 far))) (lawAddresses_L1nnnny_H s high low n far ((IntKind.u8.wrap (xd.1 + 1)), (sStep xd.2 far))) 1001 := by
  exact runs_of_x hG hM 400 [.yes, .call [] [] 1000 (Scroll.enc (sStep xd.2 far)) []] (And.intro d1 (And.intro (sStep_ok xd.2 far) trivial)) (by kernel_rfl)
theorem lawAddresses_L1nnnny_p2 (s : Scroll) (high : Int) (low : Int) (n : Int) (far : Bool) (xd : Int × Scroll) (d1 : (decide ((xd.1 : Int) < n)) = false) : Runs Try.prog 63 (bodyOf Try.f6 [1, 1, 1, 1, 1, 1, 1, 0, 1, 0, 0]) (lawAddresses_L1nnnny_T s high low n far xd) (lawAddresses_L1nnnny_H s high low n far xd) 1001 (.exit 0) (lawAddresses_L1nnnny_T1 s high low n far (xd.1, xd.2)) (lawAddresses_L1nnnny_H1 s high low n far (xd.1, xd.2)) 1001 := by
  exact runs_of_x hG hM 400 [.no] (And.intro d1 trivial) (by kernel_rfl)
theorem lawAddresses_L1nnnny_runs (s : Scroll) (high : Int) (low : Int) (n : Int) (far : Bool) (k_ : Nat) (x_ : Int × Scroll) (y_ : Int × Scroll) (h_ : iter (lawAddresses_L1nnnny s high low n far) k_ x_ = some y_) : Runs Try.prog 63 (.block 0 (.loop (bodyOf Try.f6 [1, 1, 1, 1, 1, 1, 1, 0, 1, 0, 0]))) (lawAddresses_L1nnnny_T s high low n far x_) (lawAddresses_L1nnnny_H s high low n far x_) 1001 (outOf 0 (lawAddresses_L1nnnny_ex y_)) (lawAddresses_L1nnnny_T1 s high low n far y_) (lawAddresses_L1nnnny_H1 s high low n far y_) 1001 := by
  refine block_iter (lawAddresses_L1nnnny s high low n far) (lawAddresses_L1nnnny_T s high low n far) (lawAddresses_L1nnnny_H s high low n far) lawAddresses_L1nnnny_ex (lawAddresses_L1nnnny_T1 s high low n far) (lawAddresses_L1nnnny_H1 s high low n far) ?_ ?_ ?_ k_ x_ y_ h_
  · intro r hr; cases hr
  · intro xd y_ hx
    unfold lawAddresses_L1nnnny at hx
    rcases bt (decide ((xd.1 : Int) < n)) with d1 | d1
    · rw [if_pos d1] at hx
      cases hx; exact lawAddresses_L1nnnny_p1 s high low n far xd d1
    · rw [if_neg (nt d1)] at hx
      cases hx
  · intro xd y_ hx
    unfold lawAddresses_L1nnnny at hx
    rcases bt (decide ((xd.1 : Int) < n)) with d1 | d1
    · rw [if_pos d1] at hx
      cases hx
    · rw [if_neg (nt d1)] at hx
      cases hx; exact lawAddresses_L1nnnny_p2 s high low n far xd d1

/-- a loop of kotatsu/kotatsulaw14.LoopyAddresses: one round -/
def lawAddresses_L1nnnnn (s : Scroll) (high : Int) (low : Int) (n : Int) (far : Bool) (xd : Int × Scroll) : (Int × Scroll) ⊕ (Int × Scroll) :=
  if (decide ((xd.1 : Int) < n)) = true then
    .inl ((IntKind.u8.wrap (xd.1 + 1)), (sStep xd.2 far))
  else
    .inr (xd.1, xd.2)
def lawAddresses_L1nnnnn_T (s : Scroll) (high : Int) (low : Int) (n : Int) (far : Bool) (xd : Int × Scroll) : Tm := [(3, .int .u8 n), (4, .bool far), (5, .pointer (some ⟨1000, 0, none⟩)), (10, .bool false), (11, .int .i64 (IntKind.i64.wrap ((IntKind.i64.wrap ((IntKind.i64.wrap (bAnd .u8 high 63)) * 256)) + (IntKind.i64.wrap low)))), (12, .int .i64 1), (45, .int .u8 n), (46, .int .u8 xd.1)]
def lawAddresses_L1nnnnn_H (s : Scroll) (high : Int) (low : Int) (n : Int) (far : Bool) (xd : Int × Scroll) : Heap := [(1000, ⟨[.one (.int .u16 xd.2.V), .one (.int .u16 xd.2.T), .one (.int .u8 xd.2.X), .one (.bool xd.2.W)], 24, false⟩)]
def lawAddresses_L1nnnnn_T1 (s : Scroll) (high : Int) (low : Int) (n : Int) (far : Bool) (r : Int × Scroll) : Tm := lawAddresses_L1nnnnn_T s high low n far r
def lawAddresses_L1nnnnn_H1 (s : Scroll) (high : Int) (low : Int) (n : Int) (far : Bool) (r : Int × Scroll) : Heap := lawAddresses_L1nnnnn_H s high low n far r
def lawAddresses_L1nnnnn_ex (_ : Int × Scroll) : Ex := .exit 0
theorem lawAddresses_L1nnnnn_p1 (s : Scroll) (high : Int) (low : Int) (n : Int) (far : Bool) (xd : Int × Scroll) (d1 : (decide ((xd.1 : Int) < n)) = true) : Runs Try.prog 63 (bodyOf Try.f6 [1, 1, 1, 1, 1, 1, 1, 0, 1, 0, 0]) (lawAddresses_L1nnnnn_T s high low n far xd) (lawAddresses_L1nnnnn_H s high low n far xd) 1001 .normal (lawAddresses_L1nnnnn_T s high low n far ((IntKind.u8.wrap (xd.1 + 1)), (sStep xd.2 far))) (lawAddresses_L1nnnnn_H s high low n far ((IntKind.u8.wrap (xd.1 + 1)), (sStep xd.2 far))) 1001 := by
  exact runs_of_x hG hM 400 [.yes, .call [] [] 1000 (Scroll.enc (sStep xd.2 far)) []] (And.intro d1 (And.intro (sStep_ok xd.2 far) trivial)) (by kernel_rfl)
theorem lawAddresses_L1nnnnn_p2 (s : Scroll) (high : Int) (low : Int) (n : Int) (far : Bool) (xd : Int × Scroll) (d1 : (decide ((xd.1 : Int) < n)) = false) : Runs Try.prog 63 (bodyOf Try.f6 [1, 1, 1, 1, 1, 1, 1, 0, 1, 0, 0]) (lawAddresses_L1nnnnn_T s high low n far xd) (lawAddresses_L1nnnnn_H s high low n far xd) 1001 (.exit 0) (lawAddresses_L1nnnnn_T1 s high low n far (xd.1, xd.2)) (lawAddresses_L1nnnnn_H1 s high low n far (xd.1, xd.2)) 1001 := by
  exact runs_of_x hG hM 400 [.no] (And.intro d1 trivial) (by kernel_rfl)
theorem lawAddresses_L1nnnnn_runs (s : Scroll) (high : Int) (low : Int) (n : Int) (far : Bool) (k_ : Nat) (x_ : Int × Scroll) (y_ : Int × Scroll) (h_ : iter (lawAddresses_L1nnnnn s high low n far) k_ x_ = some y_) : Runs Try.prog 63 (.block 0 (.loop (bodyOf Try.f6 [1, 1, 1, 1, 1, 1, 1, 0, 1, 0, 0]))) (lawAddresses_L1nnnnn_T s high low n far x_) (lawAddresses_L1nnnnn_H s high low n far x_) 1001 (outOf 0 (lawAddresses_L1nnnnn_ex y_)) (lawAddresses_L1nnnnn_T1 s high low n far y_) (lawAddresses_L1nnnnn_H1 s high low n far y_) 1001 := by
  refine block_iter (lawAddresses_L1nnnnn s high low n far) (lawAddresses_L1nnnnn_T s high low n far) (lawAddresses_L1nnnnn_H s high low n far) lawAddresses_L1nnnnn_ex (lawAddresses_L1nnnnn_T1 s high low n far) (lawAddresses_L1nnnnn_H1 s high low n far) ?_ ?_ ?_ k_ x_ y_ h_
  · intro r hr; cases hr
  · intro xd y_ hx
    unfold lawAddresses_L1nnnnn at hx
    rcases bt (decide ((xd.1 : Int) < n)) with d1 | d1
    · rw [if_pos d1] at hx
      cases hx; exact lawAddresses_L1nnnnn_p1 s high low n far xd d1
    · rw [if_neg (nt d1)] at hx
      cases hx
  · intro xd y_ hx
    unfold lawAddresses_L1nnnnn at hx
    rcases bt (decide ((xd.1 : Int) < n)) with d1 | d1
    · rw [if_pos d1] at hx
      cases hx
    · rw [if_neg (nt d1)] at hx
      cases hx; exact lawAddresses_L1nnnnn_p2 s high low n far xd d1

theorem lawAddresses_p1 (s : Scroll) (high : Int) (low : Int) (n : Int) (far : Bool) (m1 : Nat) (r1 : Int × Scroll) (l1 : iter (lawAddresses_L1nnnny s high low n far) m1 (0, (sAddress (sAddress (sLook s) high) low)) = some r1) (c1 : (!awake) = false) (c2 : (((IntKind.i64.wrap ((sAddress (sAddress (sLook s) high) low).V)) : Int) != (IntKind.i64.wrap ((IntKind.i64.wrap ((IntKind.i64.wrap (bAnd .u8 high 63)) * 256)) + (IntKind.i64.wrap low)))) = false) (c3 : (((sAddress (sAddress (sLook s) high) low).V : Int) != (sAddress (sAddress (sLook s) high) low).T) = false) (c4 : (sAddress (sAddress (sLook s) high) low).W = false) (c5 : far = true) : FnSpec Try.prog 6 1000 [Scroll.enc s, .int .u8 high, .int .u8 low, .int .u8 n, .bool far] [] (.bool (((IntKind.i64.wrap r1.2.V) : Int) == (Int.tmod (IntKind.i64.wrap ((IntKind.i64.wrap ((IntKind.i64.wrap ((IntKind.i64.wrap (bAnd .u8 high 63)) * 256)) + (IntKind.i64.wrap low))) + (IntKind.i64.wrap (32 * (IntKind.i64.wrap n))))) 32768))) [] := by
  exact fn_of_x hG hM Try.func6 (by kernel_rfl) (by kernel_rfl) 400 [.call [] [] 1000 (.bool awake) [], .no, .call [] [] 1000 (Scroll.enc (sLook s)) [], .call [] [] 1000 (Scroll.enc (sAddress (sLook s) high)) [], .call [] [] 1000 (Scroll.enc (sAddress (sAddress (sLook s) high) low)) [], .no, .no, .no, .no, .no, .no, .no, .no, .no, .no, .yes, .seg [3, 4, 5, 10, 11, 12, 45, 46] [1000] .normal (lawAddresses_L1nnnny_T1 s high low n far r1) (lawAddresses_L1nnnny_H1 s high low n far r1) 1001] (And.intro (awake_ok) (And.intro c1 (And.intro (sLook_ok s) (And.intro (sAddress_ok (sLook s) high) (And.intro (sAddress_ok (sAddress (sLook s) high) low) (And.intro c2 (And.intro c2 (And.intro c2 (And.intro c2 (And.intro c2 (And.intro c2 (And.intro c3 (And.intro c3 (And.intro c3 (And.intro c4 (And.intro c5 (And.intro (lawAddresses_L1nnnny_runs s high low n far m1 (0, (sAddress (sAddress (sLook s) high) low)) r1 l1) (And.intro (by decide : ((32768 : Int) ≠ 0)) trivial)))))))))))))))))) (by kernel_rfl)
theorem lawAddresses_p2 (s : Scroll) (high : Int) (low : Int) (n : Int) (far : Bool) (m1 : Nat) (r1 : Int × Scroll) (l1 : iter (lawAddresses_L1nnnnn s high low n far) m1 (0, (sAddress (sAddress (sLook s) high) low)) = some r1) (c1 : (!awake) = false) (c2 : (((IntKind.i64.wrap ((sAddress (sAddress (sLook s) high) low).V)) : Int) != (IntKind.i64.wrap ((IntKind.i64.wrap ((IntKind.i64.wrap (bAnd .u8 high 63)) * 256)) + (IntKind.i64.wrap low)))) = false) (c3 : (((sAddress (sAddress (sLook s) high) low).V : Int) != (sAddress (sAddress (sLook s) high) low).T) = false) (c4 : (sAddress (sAddress (sLook s) high) low).W = false) (c5 : far = false) : FnSpec Try.prog 6 1000 [Scroll.enc s, .int .u8 high, .int .u8 low, .int .u8 n, .bool far] [] (.bool (((IntKind.i64.wrap r1.2.V) : Int) == (Int.tmod (IntKind.i64.wrap ((IntKind.i64.wrap ((IntKind.i64.wrap ((IntKind.i64.wrap (bAnd .u8 high 63)) * 256)) + (IntKind.i64.wrap low))) + (IntKind.i64.wrap (1 * (IntKind.i64.wrap n))))) 32768))) [] := by
  exact fn_of_x hG hM Try.func6 (by kernel_rfl) (by kernel_rfl) 400 [.call [] [] 1000 (.bool awake) [], .no, .call [] [] 1000 (Scroll.enc (sLook s)) [], .call [] [] 1000 (Scroll.enc (sAddress (sLook s) high)) [], .call [] [] 1000 (Scroll.enc (sAddress (sAddress (sLook s) high) low)) [], .no, .no, .no, .no, .no, .no, .no, .no, .no, .no, .no, .seg [3, 4, 5, 10, 11, 12, 45, 46] [1000] .normal (lawAddresses_L1nnnnn_T1 s high low n far r1) (lawAddresses_L1nnnnn_H1 s high low n far r1) 1001] (And.intro (awake_ok) (And.intro c1 (And.intro (sLook_ok s) (And.intro (sAddress_ok (sLook s) high) (And.intro (sAddress_ok (sAddress (sLook s) high) low) (And.intro c2 (And.intro c2 (And.intro c2 (And.intro c2 (And.intro c2 (And.intro c2 (And.intro c3 (And.intro c3 (And.intro c3 (And.intro c4 (And.intro c5 (And.intro (lawAddresses_L1nnnnn_runs s high low n far m1 (0, (sAddress (sAddress (sLook s) high) low)) r1 l1) (And.intro (by decide : ((32768 : Int) ≠ 0)) trivial)))))))))))))))))) (by kernel_rfl)

/-- a loop of kotatsu/kotatsulaw14.LoopyScrolls: one round -/
def lawScrolls_L1n (s : Scroll) (which : Int) (px : Int) (py : Int) (rr : Int) (dd : Int) (xd : Int × Scroll) : (Int × Scroll) ⊕ (Int × Scroll) :=
  if (decide ((xd.1 : Int) < rr)) = true then
    .inl ((IntKind.u8.wrap (xd.1 + 1)), (sRight xd.2))
  else
    .inr (xd.1, xd.2)
def lawScrolls_L1n_T (s : Scroll) (which : Int) (px : Int) (py : Int) (rr : Int) (dd : Int) (xd : Int × Scroll) : Tm := [(4, .int .u8 rr), (5, .int .u8 dd), (6, .pointer (some ⟨1000, 0, none⟩)), (12, .bool false), (13, .int .i64 (IntKind.i64.wrap ((IntKind.i64.wrap (256 * (IntKind.i64.wrap (bAnd .u8 which 1)))) + (IntKind.i64.wrap px)))), (14, .int .i64 (IntKind.i64.wrap ((IntKind.i64.wrap (240 * (IntKind.i64.wrap (bAnd .u8 (bShr .u8 which 1) 1)))) + (IntKind.i64.wrap (Int.tmod py 240))))), (45, .int .u8 rr), (46, .int .u8 xd.1)]
def lawScrolls_L1n_H (s : Scroll) (which : Int) (px : Int) (py : Int) (rr : Int) (dd : Int) (xd : Int × Scroll) : Heap := [(1000, ⟨[.one (.int .u16 xd.2.V), .one (.int .u16 xd.2.T), .one (.int .u8 xd.2.X), .one (.bool xd.2.W)], 24, false⟩)]
def lawScrolls_L1n_T1 (s : Scroll) (which : Int) (px : Int) (py : Int) (rr : Int) (dd : Int) (r : Int × Scroll) : Tm := lawScrolls_L1n_T s which px py rr dd r
def lawScrolls_L1n_H1 (s : Scroll) (which : Int) (px : Int) (py : Int) (rr : Int) (dd : Int) (r : Int × Scroll) : Heap := lawScrolls_L1n_H s which px py rr dd r
def lawScrolls_L1n_ex (_ : Int × Scroll) : Ex := .exit 0
theorem lawScrolls_L1n_p1 (s : Scroll) (which : Int) (px : Int) (py : Int) (rr : Int) (dd : Int) (xd : Int × Scroll) (d1 : (decide ((xd.1 : Int) < rr)) = true) : Runs Try.prog 102 (bodyOf Try.f8 [1, 1, 1, 1, 1, 0, 1, 0, 0]) (lawScrolls_L1n_T s which px py rr dd xd) (lawScrolls_L1n_H s which px py rr dd xd) 1001 .normal (lawScrolls_L1n_T s which px py rr dd ((IntKind.u8.wrap (xd.1 + 1)), (sRight xd.2))) (lawScrolls_L1n_H s which px py rr dd ((IntKind.u8.wrap (xd.1 + 1)), (sRight xd.2))) 1001 := by
  exact runs_of_x hG hM 400 [.yes, .call [] [] 1000 (Scroll.enc (sRight xd.2)) []] (And.intro d1 (And.intro (sRight_ok xd.2) trivial)) (by kernel_rfl)
theorem lawScrolls_L1n_p2 (s : Scroll) (which : Int) (px : Int) (py : Int) (rr : Int) (dd : Int) (xd : Int × Scroll) (d1 : (decide ((xd.1 : Int) < rr)) = false) : Runs Try.prog 102 (bodyOf Try.f8 [1, 1, 1, 1, 1, 0, 1, 0, 0]) (lawScrolls_L1n_T s which px py rr dd xd) (lawScrolls_L1n_H s which px py rr dd xd) 1001 (.exit 0) (lawScrolls_L1n_T1 s which px py rr dd (xd.1, xd.2)) (lawScrolls_L1n_H1 s which px py rr dd (xd.1, xd.2)) 1001 := by
  exact runs_of_x hG hM 400 [.no] (And.intro d1 trivial) (by kernel_rfl)
theorem lawScrolls_L1n_runs (s : Scroll) (which : Int) (px : Int) (py : Int) (rr : Int) (dd : Int) (k_ : Nat) (x_ : Int × Scroll) (y_ : Int × Scroll) (h_ : iter (lawScrolls_L1n s which px py rr dd) k_ x_ = some y_) : Runs Try.prog 102 (.block 0 (.loop (bodyOf Try.f8 [1, 1, 1, 1, 1, 0, 1, 0, 0]))) (lawScrolls_L1n_T s which px py rr dd x_) (lawScrolls_L1n_H s which px py rr dd x_) 1001 (outOf 0 (lawScrolls_L1n_ex y_)) (lawScrolls_L1n_T1 s which px py rr dd y_) (lawScrolls_L1n_H1 s which px py rr dd y_) 1001 := by
  refine block_iter (lawScrolls_L1n s which px py rr dd) (lawScrolls_L1n_T s which px py rr dd) (lawScrolls_L1n_H s which px py rr dd) lawScrolls_L1n_ex (lawScrolls_L1n_T1 s which px py rr dd) (lawScrolls_L1n_H1 s which px py rr dd) ?_ ?_ ?_ k_ x_ y_ h_
  · intro r hr; cases hr
  · intro xd y_ hx
    unfold lawScrolls_L1n at hx
    rcases bt (decide ((xd.1 : Int) < rr)) with d1 | d1
    · rw [if_pos d1] at hx
      cases hx; exact lawScrolls_L1n_p1 s which px py rr dd xd d1
    · rw [if_neg (nt d1)] at hx
      cases hx
  · intro xd y_ hx
    unfold lawScrolls_L1n at hx
    rcases bt (decide ((xd.1 : Int) < rr)) with d1 | d1
    · rw [if_pos d1] at hx
      cases hx
    · rw [if_neg (nt d1)] at hx
      cases hx; exact lawScrolls_L1n_p2 s which px py rr dd xd d1

/-- a loop of kotatsu/kotatsulaw14.LoopyScrolls: one round -/
def lawScrolls_L2n (s : Scroll) (which : Int) (px : Int) (py : Int) (rr : Int) (dd : Int) (r1 : Int × Scroll) (xd : Int × Scroll) : (Int × Scroll) ⊕ (Int × Scroll) :=
  if (decide ((xd.1 : Int) < dd)) = true then
    .inl ((IntKind.u8.wrap (xd.1 + 1)), (sDown xd.2))
  else
    .inr (xd.1, xd.2)
def lawScrolls_L2n_T (s : Scroll) (which : Int) (px : Int) (py : Int) (rr : Int) (dd : Int) (r1 : Int × Scroll) (xd : Int × Scroll) : Tm := [(4, .int .u8 rr), (5, .int .u8 dd), (6, .pointer (some ⟨1000, 0, none⟩)), (12, .bool false), (13, .int .i64 (IntKind.i64.wrap ((IntKind.i64.wrap (256 * (IntKind.i64.wrap (bAnd .u8 which 1)))) + (IntKind.i64.wrap px)))), (14, .int .i64 (IntKind.i64.wrap ((IntKind.i64.wrap (240 * (IntKind.i64.wrap (bAnd .u8 (bShr .u8 which 1) 1)))) + (IntKind.i64.wrap (Int.tmod py 240))))), (51, .int .u8 dd), (52, .int .u8 xd.1)]
def lawScrolls_L2n_H (s : Scroll) (which : Int) (px : Int) (py : Int) (rr : Int) (dd : Int) (r1 : Int × Scroll) (xd : Int × Scroll) : Heap := [(1000, ⟨[.one (.int .u16 xd.2.V), .one (.int .u16 xd.2.T), .one (.int .u8 xd.2.X), .one (.bool xd.2.W)], 24, false⟩)]
def lawScrolls_L2n_T1 (s : Scroll) (which : Int) (px : Int) (py : Int) (rr : Int) (dd : Int) (r1 : Int × Scroll) (r : Int × Scroll) : Tm := lawScrolls_L2n_T s which px py rr dd r1 r
def lawScrolls_L2n_H1 (s : Scroll) (which : Int) (px : Int) (py : Int) (rr : Int) (dd : Int) (r1 : Int × Scroll) (r : Int × Scroll) : Heap := lawScrolls_L2n_H s which px py rr dd r1 r
def lawScrolls_L2n_ex (_ : Int × Scroll) : Ex := .exit 2
theorem lawScrolls_L2n_p1 (s : Scroll) (which : Int) (px : Int) (py : Int) (rr : Int) (dd : Int) (r1 : Int × Scroll) (xd : Int × Scroll) (d1 : (decide ((xd.1 : Int) < dd)) = true) : Runs Try.prog 102 (bodyOf Try.f8 [1, 1, 1, 1, 1, 1, 0, 1, 0, 0]) (lawScrolls_L2n_T s which px py rr dd r1 xd) (lawScrolls_L2n_H s which px py rr dd r1 xd) 1001 .normal (lawScrolls_L2n_T s which px py rr dd r1 ((IntKind.u8.wrap (xd.1 + 1)), (sDown xd.2))) (lawScrolls_L2n_H s which px py rr dd r1 ((IntKind.u8.wrap (xd.1 + 1)), (sDown xd.2))) 1001 := by
  exact runs_of_x hG hM 400 [.yes, .call [] [] 1000 (Scroll.enc (sDown xd.2)) []] (And.intro d1 (And.intro (sDown_ok xd.2) trivial)) (by kernel_rfl)
theorem lawScrolls_L2n_p2 (s : Scroll) (which : Int) (px : Int) (py : Int) (rr : Int) (dd : Int) (r1 : Int × Scroll) (xd : Int × Scroll) (d1 : (decide ((xd.1 : Int) < dd)) = false) : Runs Try.prog 102 (bodyOf Try.f8 [1, 1, 1, 1, 1, 1, 0, 1, 0, 0]) (lawScrolls_L2n_T s which px py rr dd r1 xd) (lawScrolls_L2n_H s which px py rr dd r1 xd) 1001 (.exit 2) (lawScrolls_L2n_T1 s which px py rr dd r1 (xd.1, xd.2)) (lawScrolls_L2n_H1 s which px py rr dd r1 (xd.1, xd.2)) 1001 := by
  exact runs_of_x hG hM 400 [.no] (And.intro d1 trivial) (by kernel_rfl)
theorem lawScrolls_L2n_runs (s : Scroll) (which : Int) (px : Int) (py : Int) (rr : Int) (dd : Int) (r1 : Int × Scroll) (k_ : Nat) (x_ : Int × Scroll) (y_ : Int × Scroll) (h_ : iter (lawScrolls_L2n s which px py rr dd r1) k_ x_ = some y_) : Runs Try.prog 102 (.block 2 (.loop (bodyOf Try.f8 [1, 1, 1, 1, 1, 1, 0, 1, 0, 0]))) (lawScrolls_L2n_T s which px py rr dd r1 x_) (lawScrolls_L2n_H s which px py rr dd r1 x_) 1001 (outOf 2 (lawScrolls_L2n_ex y_)) (lawScrolls_L2n_T1 s which px py rr dd r1 y_) (lawScrolls_L2n_H1 s which px py rr dd r1 y_) 1001 := by
  refine block_iter (lawScrolls_L2n s which px py rr dd r1) (lawScrolls_L2n_T s which px py rr dd r1) (lawScrolls_L2n_H s which px py rr dd r1) lawScrolls_L2n_ex (lawScrolls_L2n_T1 s which px py rr dd r1) (lawScrolls_L2n_H1 s which px py rr dd r1) ?_ ?_ ?_ k_ x_ y_ h_
  · intro r hr; cases hr
  · intro xd y_ hx
    unfold lawScrolls_L2n at hx
    rcases bt (decide ((xd.1 : Int) < dd)) with d1 | d1
    · rw [if_pos d1] at hx
      cases hx; exact lawScrolls_L2n_p1 s which px py rr dd r1 xd d1
    · rw [if_neg (nt d1)] at hx
      cases hx
  · intro xd y_ hx
    unfold lawScrolls_L2n at hx
    rcases bt (decide ((xd.1 : Int) < dd)) with d1 | d1
    · rw [if_pos d1] at hx
      cases hx
    · rw [if_neg (nt d1)] at hx
      cases hx; exact lawScrolls_L2n_p2 s which px py rr dd r1 xd d1

theorem lawScrolls_p1 (s : Scroll) (which : Int) (px : Int) (py : Int) (rr : Int) (dd : Int) (m1 : Nat) (r1 : Int × Scroll) (l1 : iter (lawScrolls_L1n s which px py rr dd) m1 (0, (sTop (sLine (sOffset (sOffset (sControl (sLook s) which) px) (Int.tmod py 240))))) = some r1) (m2 : Nat) (r2 : Int × Scroll) (l2 : iter (lawScrolls_L2n s which px py rr dd r1) m2 (0, r1.2) = some r2) (c1 : (!awake) = false) (c2 : (((IntKind.i64.wrap ((IntKind.i64.wrap ((IntKind.i64.wrap (256 * (rOf (IntKind.i64.wrap r2.2.V)).Across)) + (IntKind.i64.wrap (8 * (rOf (IntKind.i64.wrap r2.2.V)).Column)))) + (IntKind.i64.wrap r2.2.X))) : Int) == (Int.tmod (IntKind.i64.wrap ((IntKind.i64.wrap ((IntKind.i64.wrap (256 * (IntKind.i64.wrap (bAnd .u8 which 1)))) + (IntKind.i64.wrap px))) + (IntKind.i64.wrap (8 * (IntKind.i64.wrap rr))))) 512)) = true) (c3 : (((IntKind.i64.wrap ((IntKind.i64.wrap ((IntKind.i64.wrap (240 * (rOf (IntKind.i64.wrap r2.2.V)).Down)) + (IntKind.i64.wrap (8 * (rOf (IntKind.i64.wrap r2.2.V)).Line)))) + (rOf (IntKind.i64.wrap r2.2.V)).Row)) : Int) == (Int.tmod (IntKind.i64.wrap ((IntKind.i64.wrap ((IntKind.i64.wrap (240 * (IntKind.i64.wrap (bAnd .u8 (bShr .u8 which 1) 1)))) + (IntKind.i64.wrap (Int.tmod py 240)))) + (IntKind.i64.wrap dd))) 480)) = true) : FnSpec Try.prog 8 1000 [Scroll.enc s, .int .u8 which, .int .u8 px, .int .u8 py, .int .u8 rr, .int .u8 dd] [] (.bool (!r2.2.W)) [] := by
  exact fn_of_x hG hM Try.func8 (by kernel_rfl) (by kernel_rfl) 400 [.call [] [] 1000 (.bool awake) [], .no, .call [] [] 1000 (Scroll.enc (sLook s)) [], .call [] [] 1000 (Scroll.enc (sControl (sLook s) which)) [], .call [] [] 1000 (Scroll.enc (sOffset (sControl (sLook s) which) px)) [], .call [] [] 1000 (Scroll.enc (sOffset (sOffset (sControl (sLook s) which) px) (Int.tmod py 240))) [], .call [] [] 1000 (Scroll.enc (sLine (sOffset (sOffset (sControl (sLook s) which) px) (Int.tmod py 240)))) [], .call [] [] 1000 (Scroll.enc (sTop (sLine (sOffset (sOffset (sControl (sLook s) which) px) (Int.tmod py 240))))) [], .seg [4, 5, 6, 12, 13, 14, 45, 46] [1000] .normal (lawScrolls_L1n_T1 s which px py rr dd r1) (lawScrolls_L1n_H1 s which px py rr dd r1) 1001, .seg [4, 5, 6, 12, 13, 14, 51, 52] [1000] .normal (lawScrolls_L2n_T1 s which px py rr dd r1 r2) (lawScrolls_L2n_H1 s which px py rr dd r1 r2) 1001, .call [] [] 1000 (Place.enc (rOf (IntKind.i64.wrap r2.2.V))) [], .yes, .yes, .yes, .yes, .yes, .yes, .yes, .yes, .yes, .yes, .yes, .yes, .yes, .yes, .yes, .yes, .yes, .yes, .yes, .yes, .yes] (And.intro (awake_ok) (And.intro c1 (And.intro (by decide : ((240 : Int) ≠ 0)) (And.intro (sLook_ok s) (And.intro (sControl_ok (sLook s) which) (And.intro (sOffset_ok (sControl (sLook s) which) px) (And.intro (sOffset_ok (sOffset (sControl (sLook s) which) px) (Int.tmod py 240)) (And.intro (sLine_ok (sOffset (sOffset (sControl (sLook s) which) px) (Int.tmod py 240))) (And.intro (sTop_ok (sLine (sOffset (sOffset (sControl (sLook s) which) px) (Int.tmod py 240)))) (And.intro (by decide : (0 : Int) ≤ 1) (And.intro (lawScrolls_L1n_runs s which px py rr dd m1 (0, (sTop (sLine (sOffset (sOffset (sControl (sLook s) which) px) (Int.tmod py 240))))) r1 l1) (And.intro (lawScrolls_L2n_runs s which px py rr dd r1 m2 (0, r1.2) r2 l2) (And.intro (rOf_ok (IntKind.i64.wrap r2.2.V)) (And.intro (by decide : ((512 : Int) ≠ 0)) (And.intro c2 (And.intro c2 (And.intro c2 (And.intro c2 (And.intro c2 (And.intro c2 (And.intro c2 (And.intro c2 (And.intro c2 (And.intro c2 (And.intro c2 (And.intro c2 (And.intro c2 (And.intro c2 (And.intro c2 (And.intro (by decide : ((480 : Int) ≠ 0)) (And.intro c2 (And.intro c2 (And.intro c3 (And.intro c3 (And.intro c3 (And.intro c3 trivial)))))))))))))))))))))))))))))))))))) (by kernel_rfl)

end Go.Proofs.Ytonbliaaicacgaa
