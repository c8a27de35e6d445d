/-
  The picture: where it is read. Written by gen_pic.py. No condition.
-/
import Derived.Test.YtgnhhnmpeklciaaVLl
import Derived.Test.YtgnhhnmpeklciaaVT
import Derived.Test.YtgnhhnmpeklciaaVR
import Derived.Test.YtgnhhnmpeklciaaVY
import Derived.Test.YtgnhhnmpeklciaaRows
namespace Go.Proofs.Ytgnhhnmpeklciaa
open Go VX
set_option linter.unusedVariables false
set_option linter.unusedSimpArgs false
set_option maxRecDepth 100000

theorem hG : Try.prog.globals.size ≤ 1000 := of_decide_eq_true (by kernel_rfl)
theorem hM : Try.prog.follows .mixedOrders = true := by kernel_rfl
theorem bt (b : Bool) : b = true ∨ b = false := by cases b <;> simp
theorem nt {b : Bool} (h : b = false) : ¬ b = true := by rw [h]; decide
theorem nf {b : Bool} (h : b = false) : (!b) = true := by rw [h]; rfl

structure Scroll where
  V : Int
  T : Int
  X : Int
  W : Bool
def Scroll.enc (s : Scroll) : Value := .agg ⟨[.int .u16 s.V, .int .u16 s.T, .int .u8 s.X, .bool s.W]⟩
def Scroll.blk (s : Scroll) : Blk := ⟨[.one (.int .u16 s.V), .one (.int .u16 s.T), .one (.int .u8 s.X), .one (.bool s.W)], 75, false⟩
def Scroll.cells (s : Scroll) : List Value := [.int .u16 s.V, .int .u16 s.T, .int .u8 s.X, .bool s.W]
structure Scroll.ok (s : Scroll) : Prop where
  V : rng 65536 s.V
  T : rng 65536 s.T
  X : rng 256 s.X

/-- (kotatsu/loopy.Scroll).right -/
def right (s : Scroll) : Scroll :=
  ({ V := (bAnd .u16 s.V 32767), T := (bAnd .u16 s.T 32767), X := (bAnd .u8 s.X 7), W := s.W } : Scroll)
theorem right_ok (s : Scroll) : FnSpec Try.prog 63 1000 [Scroll.enc s] [] (Scroll.enc (right s)) [] := by
  unfold right
  exact fn_of_x hG hM Try.func63 (by kernel_rfl) (by kernel_rfl) 400 [] trivial (by kernel_rfl)

theorem right_w (s : Scroll) (w_s : Scroll.ok s) : Scroll.ok (right s) := by
  unfold right
  exact (⟨(rng_bAnd_u16 s.V 32767), (rng_bAnd_u16 s.T 32767), (rng_bAnd_u8 s.X 7)⟩ : Scroll.ok ({ V := (bAnd .u16 s.V 32767), T := (bAnd .u16 s.T 32767), X := (bAnd .u8 s.X 7), W := s.W } : Scroll))

/-- kotatsu/loopy.put -/
def put (a : Int) (m : Int) (b : Int) : Int :=
  (bOr .u16 (bAndNot .u16 a m) (bAnd .u16 b m))
theorem put_ok (a : Int) (m : Int) (b : Int) : FnSpec Try.prog 69 1000 [.int .u16 a, .int .u16 m, .int .u16 b] [] (.int .u16 (put a m b)) [] := by
  unfold put
  exact fn_of_x hG hM Try.func69 (by kernel_rfl) (by kernel_rfl) 400 [] trivial (by kernel_rfl)

theorem put_w (a : Int) (m : Int) (b : Int) (w_a : rng 65536 a) (w_m : rng 65536 m) (w_b : rng 65536 b) : rng 65536 (put a m b) := by
  unfold put
  exact (rng_bOr_u16 (bAndNot .u16 a m) (bAnd .u16 b m))

/-- (kotatsu/loopy.Scroll).Control -/
def sControl (s : Scroll) (b : Int) : Scroll :=
  ({ (right s) with T := (put ((right s).T) 3072 (bShl .u16 (IntKind.u16.wrap b) 10)) } : Scroll)
theorem sControl_ok (s : Scroll) (b : Int) : FnSpec Try.prog 46 1000 [Scroll.enc s, .int .u8 b] [] (Scroll.enc (sControl s b)) [] := by
  unfold sControl
  exact fn_of_x hG hM Try.func46 (by kernel_rfl) (by kernel_rfl) 400 [.call [] [] 1000 (Scroll.enc (right s)) [], .call [] [] 1000 (.int .u16 (put ((right s).T) 3072 (bShl .u16 (IntKind.u16.wrap b) 10))) []] (J (right_ok s) (J (by decide : (0 : Int) ≤ 10) (J (put_ok ((right s).T) 3072 (bShl .u16 (IntKind.u16.wrap b) 10)) trivial))) (by kernel_rfl)

theorem sControl_w (s : Scroll) (b : Int) (w_s : Scroll.ok s) (w_b : rng 256 b) : Scroll.ok (sControl s b) := by
  unfold sControl
  exact (⟨(right_w s w_s).V, (put_w ((right s).T) 3072 (bShl .u16 (IntKind.u16.wrap b) 10) ((right_w s w_s).T) (by decide : rng 65536 3072) (rng_bShl_u16 (IntKind.u16.wrap b) 10)), (right_w s w_s).X⟩ : Scroll.ok ({ (right s) with T := (put ((right s).T) 3072 (bShl .u16 (IntKind.u16.wrap b) 10)) } : Scroll))

/-- (kotatsu/loopy.Scroll).Offset -/
def sOffset (s : Scroll) (b : Int) : Scroll :=
  if (right s).W = true then
    ({ (right s) with T := (put (put ((right s).T) 992 (bShl .u16 (bShr .u16 (IntKind.u16.wrap b) 3) 5)) 28672 (bShl .u16 (IntKind.u16.wrap b) 12)), W := (!((right s).W)) } : Scroll)
  else
    ({ V := (right s).V, T := (put ((right s).T) 31 (bShr .u16 (IntKind.u16.wrap b) 3)), X := (bAnd .u8 b 7), W := (!((right s).W)) } : Scroll)
theorem sOffset_ok (s : Scroll) (b : Int) : FnSpec Try.prog 47 1000 [Scroll.enc s, .int .u8 b] [] (Scroll.enc (sOffset s b)) [] := by
  unfold sOffset
  rcases bt ((right s).W) with c1 | c1
  · rw [if_pos c1]
    exact fn_of_x hG hM Try.func47 (by kernel_rfl) (by kernel_rfl) 400 [.call [] [] 1000 (Scroll.enc (right s)) [], .yes, .call [] [] 1000 (.int .u16 (put ((right s).T) 992 (bShl .u16 (bShr .u16 (IntKind.u16.wrap b) 3) 5))) [], .call [] [] 1000 (.int .u16 (put (put ((right s).T) 992 (bShl .u16 (bShr .u16 (IntKind.u16.wrap b) 3) 5)) 28672 (bShl .u16 (IntKind.u16.wrap b) 12))) []] (J (right_ok s) (J c1 (J (by decide : (0 : Int) ≤ 3) (J (by decide : (0 : Int) ≤ 5) (J (put_ok ((right s).T) 992 (bShl .u16 (bShr .u16 (IntKind.u16.wrap b) 3) 5)) (J (by decide : (0 : Int) ≤ 12) (J (put_ok (put ((right s).T) 992 (bShl .u16 (bShr .u16 (IntKind.u16.wrap b) 3) 5)) 28672 (bShl .u16 (IntKind.u16.wrap b) 12)) trivial))))))) (by kernel_rfl)
  · rw [if_neg (nt c1)]
    exact fn_of_x hG hM Try.func47 (by kernel_rfl) (by kernel_rfl) 400 [.call [] [] 1000 (Scroll.enc (right s)) [], .no, .call [] [] 1000 (.int .u16 (put ((right s).T) 31 (bShr .u16 (IntKind.u16.wrap b) 3))) []] (J (right_ok s) (J c1 (J (by decide : (0 : Int) ≤ 3) (J (put_ok ((right s).T) 31 (bShr .u16 (IntKind.u16.wrap b) 3)) trivial)))) (by kernel_rfl)

theorem sOffset_w (s : Scroll) (b : Int) (w_s : Scroll.ok s) (w_b : rng 256 b) : Scroll.ok (sOffset s b) := by
  unfold sOffset
  rcases bt ((right s).W) with c1 | c1
  · rw [if_pos c1]
    exact (⟨(right_w s w_s).V, (put_w (put ((right s).T) 992 (bShl .u16 (bShr .u16 (IntKind.u16.wrap b) 3) 5)) 28672 (bShl .u16 (IntKind.u16.wrap b) 12) (put_w ((right s).T) 992 (bShl .u16 (bShr .u16 (IntKind.u16.wrap b) 3) 5) ((right_w s w_s).T) (by decide : rng 65536 992) (rng_bShl_u16 (bShr .u16 (IntKind.u16.wrap b) 3) 5)) (by decide : rng 65536 28672) (rng_bShl_u16 (IntKind.u16.wrap b) 12)), (right_w s w_s).X⟩ : Scroll.ok ({ (right s) with T := (put (put ((right s).T) 992 (bShl .u16 (bShr .u16 (IntKind.u16.wrap b) 3) 5)) 28672 (bShl .u16 (IntKind.u16.wrap b) 12)), W := (!((right s).W)) } : Scroll))
  · rw [if_neg (nt c1)]
    exact (⟨(right_w s w_s).V, (put_w ((right s).T) 31 (bShr .u16 (IntKind.u16.wrap b) 3) ((right_w s w_s).T) (by decide : rng 65536 31) (rng_bShr (rng_wrap_u16 b) .u16 3)), (rng_bAnd_u8 b 7)⟩ : Scroll.ok ({ V := (right s).V, T := (put ((right s).T) 31 (bShr .u16 (IntKind.u16.wrap b) 3)), X := (bAnd .u8 b 7), W := (!((right s).W)) } : Scroll))

/-- (kotatsu/loopy.Scroll).Address -/
def sAddress (s : Scroll) (b : Int) : Scroll :=
  if (right s).W = true then
    ({ V := (put ((right s).T) 255 (IntKind.u16.wrap b)), T := (put ((right s).T) 255 (IntKind.u16.wrap b)), X := (right s).X, W := (!((right s).W)) } : Scroll)
  else
    ({ (right s) with T := (put ((right s).T) 32512 (bShl .u16 (IntKind.u16.wrap (bAnd .u8 b 63)) 8)), W := (!((right s).W)) } : Scroll)
theorem sAddress_ok (s : Scroll) (b : Int) : FnSpec Try.prog 48 1000 [Scroll.enc s, .int .u8 b] [] (Scroll.enc (sAddress s b)) [] := by
  unfold sAddress
  rcases bt ((right s).W) with c1 | c1
  · rw [if_pos c1]
    exact fn_of_x hG hM Try.func48 (by kernel_rfl) (by kernel_rfl) 400 [.call [] [] 1000 (Scroll.enc (right s)) [], .yes, .call [] [] 1000 (.int .u16 (put ((right s).T) 255 (IntKind.u16.wrap b))) []] (J (right_ok s) (J c1 (J (put_ok ((right s).T) 255 (IntKind.u16.wrap b)) trivial))) (by kernel_rfl)
  · rw [if_neg (nt c1)]
    exact fn_of_x hG hM Try.func48 (by kernel_rfl) (by kernel_rfl) 400 [.call [] [] 1000 (Scroll.enc (right s)) [], .no, .call [] [] 1000 (.int .u16 (put ((right s).T) 32512 (bShl .u16 (IntKind.u16.wrap (bAnd .u8 b 63)) 8))) []] (J (right_ok s) (J c1 (J (by decide : (0 : Int) ≤ 8) (J (put_ok ((right s).T) 32512 (bShl .u16 (IntKind.u16.wrap (bAnd .u8 b 63)) 8)) trivial)))) (by kernel_rfl)

theorem sAddress_w (s : Scroll) (b : Int) (w_s : Scroll.ok s) (w_b : rng 256 b) : Scroll.ok (sAddress s b) := by
  unfold sAddress
  rcases bt ((right s).W) with c1 | c1
  · rw [if_pos c1]
    exact (⟨(put_w ((right s).T) 255 (IntKind.u16.wrap b) ((right_w s w_s).T) (by decide : rng 65536 255) (rng_wrap_u16 b)), (put_w ((right s).T) 255 (IntKind.u16.wrap b) ((right_w s w_s).T) (by decide : rng 65536 255) (rng_wrap_u16 b)), (right_w s w_s).X⟩ : Scroll.ok ({ V := (put ((right s).T) 255 (IntKind.u16.wrap b)), T := (put ((right s).T) 255 (IntKind.u16.wrap b)), X := (right s).X, W := (!((right s).W)) } : Scroll))
  · rw [if_neg (nt c1)]
    exact (⟨(right_w s w_s).V, (put_w ((right s).T) 32512 (bShl .u16 (IntKind.u16.wrap (bAnd .u8 b 63)) 8) ((right_w s w_s).T) (by decide : rng 65536 32512) (rng_bShl_u16 (IntKind.u16.wrap (bAnd .u8 b 63)) 8)), (right_w s w_s).X⟩ : Scroll.ok ({ (right s) with T := (put ((right s).T) 32512 (bShl .u16 (IntKind.u16.wrap (bAnd .u8 b 63)) 8)), W := (!((right s).W)) } : Scroll))

/-- (kotatsu/loopy.Scroll).Look -/
def sLook (s : Scroll) : Scroll :=
  ({ (right s) with W := false } : Scroll)
theorem sLook_ok (s : Scroll) : FnSpec Try.prog 38 1000 [Scroll.enc s] [] (Scroll.enc (sLook s)) [] := by
  unfold sLook
  exact fn_of_x hG hM Try.func38 (by kernel_rfl) (by kernel_rfl) 400 [.call [] [] 1000 (Scroll.enc (right s)) []] (J (right_ok s) trivial) (by kernel_rfl)

theorem sLook_w (s : Scroll) (w_s : Scroll.ok s) : Scroll.ok (sLook s) := by
  unfold sLook
  exact (⟨(right_w s w_s).V, (right_w s w_s).T, (right_w s w_s).X⟩ : Scroll.ok ({ (right s) with W := false } : Scroll))

/-- (kotatsu/loopy.Scroll).Step -/
def sStep (s : Scroll) (far : Bool) : Scroll :=
  if far = true then
    (right ({ s with V := (IntKind.u16.wrap ((IntKind.u16.wrap (s.V + 1)) + 31)) } : Scroll))
  else
    (right ({ s with V := (IntKind.u16.wrap (s.V + 1)) } : Scroll))
theorem sStep_ok (s : Scroll) (far : Bool) : FnSpec Try.prog 40 1000 [Scroll.enc s, .bool far] [] (Scroll.enc (sStep s far)) [] := by
  unfold sStep
  rcases bt far with c1 | c1
  · rw [if_pos c1]
    exact fn_of_x hG hM Try.func40 (by kernel_rfl) (by kernel_rfl) 400 [.yes, .call [] [] 1000 (Scroll.enc (right ({ s with V := (IntKind.u16.wrap ((IntKind.u16.wrap (s.V + 1)) + 31)) } : Scroll))) []] (J c1 (J (right_ok ({ s with V := (IntKind.u16.wrap ((IntKind.u16.wrap (s.V + 1)) + 31)) } : Scroll)) trivial)) (by kernel_rfl)
  · rw [if_neg (nt c1)]
    exact fn_of_x hG hM Try.func40 (by kernel_rfl) (by kernel_rfl) 400 [.no, .call [] [] 1000 (Scroll.enc (right ({ s with V := (IntKind.u16.wrap (s.V + 1)) } : Scroll))) []] (J c1 (J (right_ok ({ s with V := (IntKind.u16.wrap (s.V + 1)) } : Scroll)) trivial)) (by kernel_rfl)

theorem sStep_w (s : Scroll) (far : Bool) (w_s : Scroll.ok s) : Scroll.ok (sStep s far) := by
  unfold sStep
  rcases bt far with c1 | c1
  · rw [if_pos c1]
    exact (right_w ({ s with V := (IntKind.u16.wrap ((IntKind.u16.wrap (s.V + 1)) + 31)) } : Scroll) (⟨(rng_wrap_u16 ((IntKind.u16.wrap (s.V + 1)) + 31)), w_s.T, w_s.X⟩ : Scroll.ok ({ s with V := (IntKind.u16.wrap ((IntKind.u16.wrap (s.V + 1)) + 31)) } : Scroll)))
  · rw [if_neg (nt c1)]
    exact (right_w ({ s with V := (IntKind.u16.wrap (s.V + 1)) } : Scroll) (⟨(rng_wrap_u16 (s.V + 1)), w_s.T, w_s.X⟩ : Scroll.ok ({ s with V := (IntKind.u16.wrap (s.V + 1)) } : Scroll)))

/-- (kotatsu/loopy.Scroll).Right -/
def sRight (s : Scroll) : Scroll :=
  if (((bAnd .u16 ((right s).V) 31) : Int) == 31) = true then
    ({ (right s) with V := (bXor .u16 (bAndNot .u16 ((right s).V) 31) 1024) } : Scroll)
  else
    ({ (right s) with V := (IntKind.u16.wrap ((right s).V + 1)) } : Scroll)
theorem sRight_ok (s : Scroll) : FnSpec Try.prog 75 1000 [Scroll.enc s] [] (Scroll.enc (sRight s)) [] := by
  unfold sRight
  rcases bt (((bAnd .u16 ((right s).V) 31) : Int) == 31) with c1 | c1
  · rw [if_pos c1]
    exact fn_of_x hG hM Try.func75 (by kernel_rfl) (by kernel_rfl) 400 [.call [] [] 1000 (Scroll.enc (right s)) [], .yes] (J (right_ok s) (J c1 trivial)) (by kernel_rfl)
  · rw [if_neg (nt c1)]
    exact fn_of_x hG hM Try.func75 (by kernel_rfl) (by kernel_rfl) 400 [.call [] [] 1000 (Scroll.enc (right s)) [], .no] (J (right_ok s) (J c1 trivial)) (by kernel_rfl)

theorem sRight_w (s : Scroll) (w_s : Scroll.ok s) : Scroll.ok (sRight s) := by
  unfold sRight
  rcases bt (((bAnd .u16 ((right s).V) 31) : Int) == 31) with c1 | c1
  · rw [if_pos c1]
    exact (⟨(rng_bXor_u16 (bAndNot .u16 ((right s).V) 31) 1024), (right_w s w_s).T, (right_w s w_s).X⟩ : Scroll.ok ({ (right s) with V := (bXor .u16 (bAndNot .u16 ((right s).V) 31) 1024) } : Scroll))
  · rw [if_neg (nt c1)]
    exact (⟨(rng_wrap_u16 ((right s).V + 1)), (right_w s w_s).T, (right_w s w_s).X⟩ : Scroll.ok ({ (right s) with V := (IntKind.u16.wrap ((right s).V + 1)) } : Scroll))

/-- (kotatsu/loopy.Scroll).Down -/
def sDown (s : Scroll) : Scroll :=
  if (((bAnd .u16 ((right s).V) 28672) : Int) != 28672) = true then
    ({ (right s) with V := (IntKind.u16.wrap ((right s).V + 4096)) } : Scroll)
  else
    if (((bAnd .u16 (bAndNot .u16 ((right s).V) 28672) 992) : Int) == 928) = true then
      ({ (right s) with V := (bXor .u16 (bAndNot .u16 (bAndNot .u16 ((right s).V) 28672) 992) 2048) } : Scroll)
    else
      if (((bAnd .u16 (bAndNot .u16 ((right s).V) 28672) 992) : Int) == 992) = true then
        ({ (right s) with V := (bAndNot .u16 (bAndNot .u16 ((right s).V) 28672) 992) } : Scroll)
      else
        ({ (right s) with V := (IntKind.u16.wrap ((bAndNot .u16 ((right s).V) 28672) + 32)) } : Scroll)
theorem sDown_ok (s : Scroll) : FnSpec Try.prog 74 1000 [Scroll.enc s] [] (Scroll.enc (sDown s)) [] := by
  unfold sDown
  rcases bt (((bAnd .u16 ((right s).V) 28672) : Int) != 28672) with c1 | c1
  · rw [if_pos c1]
    exact fn_of_x hG hM Try.func74 (by kernel_rfl) (by kernel_rfl) 400 [.call [] [] 1000 (Scroll.enc (right s)) [], .yes] (J (right_ok s) (J c1 trivial)) (by kernel_rfl)
  · rw [if_neg (nt c1)]
    rcases bt (((bAnd .u16 (bAndNot .u16 ((right s).V) 28672) 992) : Int) == 928) with c2 | c2
    · rw [if_pos c2]
      exact fn_of_x hG hM Try.func74 (by kernel_rfl) (by kernel_rfl) 400 [.call [] [] 1000 (Scroll.enc (right s)) [], .no, .yes] (J (right_ok s) (J c1 (J c2 trivial))) (by kernel_rfl)
    · rw [if_neg (nt c2)]
      rcases bt (((bAnd .u16 (bAndNot .u16 ((right s).V) 28672) 992) : Int) == 992) with c3 | c3
      · rw [if_pos c3]
        exact fn_of_x hG hM Try.func74 (by kernel_rfl) (by kernel_rfl) 400 [.call [] [] 1000 (Scroll.enc (right s)) [], .no, .no, .yes] (J (right_ok s) (J c1 (J c2 (J c3 trivial)))) (by kernel_rfl)
      · rw [if_neg (nt c3)]
        exact fn_of_x hG hM Try.func74 (by kernel_rfl) (by kernel_rfl) 400 [.call [] [] 1000 (Scroll.enc (right s)) [], .no, .no, .no] (J (right_ok s) (J c1 (J c2 (J c3 trivial)))) (by kernel_rfl)

theorem sDown_w (s : Scroll) (w_s : Scroll.ok s) : Scroll.ok (sDown s) := by
  unfold sDown
  rcases bt (((bAnd .u16 ((right s).V) 28672) : Int) != 28672) with c1 | c1
  · rw [if_pos c1]
    exact (⟨(rng_wrap_u16 ((right s).V + 4096)), (right_w s w_s).T, (right_w s w_s).X⟩ : Scroll.ok ({ (right s) with V := (IntKind.u16.wrap ((right s).V + 4096)) } : Scroll))
  · rw [if_neg (nt c1)]
    rcases bt (((bAnd .u16 (bAndNot .u16 ((right s).V) 28672) 992) : Int) == 928) with c2 | c2
    · rw [if_pos c2]
      exact (⟨(rng_bXor_u16 (bAndNot .u16 (bAndNot .u16 ((right s).V) 28672) 992) 2048), (right_w s w_s).T, (right_w s w_s).X⟩ : Scroll.ok ({ (right s) with V := (bXor .u16 (bAndNot .u16 (bAndNot .u16 ((right s).V) 28672) 992) 2048) } : Scroll))
    · rw [if_neg (nt c2)]
      rcases bt (((bAnd .u16 (bAndNot .u16 ((right s).V) 28672) 992) : Int) == 992) with c3 | c3
      · rw [if_pos c3]
        exact (⟨(rng_bAndNot_u16 (bAndNot .u16 ((right s).V) 28672) 992), (right_w s w_s).T, (right_w s w_s).X⟩ : Scroll.ok ({ (right s) with V := (bAndNot .u16 (bAndNot .u16 ((right s).V) 28672) 992) } : Scroll))
      · rw [if_neg (nt c3)]
        exact (⟨(rng_wrap_u16 ((bAndNot .u16 ((right s).V) 28672) + 32)), (right_w s w_s).T, (right_w s w_s).X⟩ : Scroll.ok ({ (right s) with V := (IntKind.u16.wrap ((bAndNot .u16 ((right s).V) 28672) + 32)) } : Scroll))

/-- (kotatsu/loopy.Scroll).Line -/
def sLine (s : Scroll) : Scroll :=
  ({ (right s) with V := (put ((right s).V) 1055 ((right s).T)) } : Scroll)
theorem sLine_ok (s : Scroll) : FnSpec Try.prog 73 1000 [Scroll.enc s] [] (Scroll.enc (sLine s)) [] := by
  unfold sLine
  exact fn_of_x hG hM Try.func73 (by kernel_rfl) (by kernel_rfl) 400 [.call [] [] 1000 (Scroll.enc (right s)) [], .call [] [] 1000 (.int .u16 (put ((right s).V) 1055 ((right s).T))) []] (J (right_ok s) (J (put_ok ((right s).V) 1055 ((right s).T)) trivial)) (by kernel_rfl)

theorem sLine_w (s : Scroll) (w_s : Scroll.ok s) : Scroll.ok (sLine s) := by
  unfold sLine
  exact (⟨(put_w ((right s).V) 1055 ((right s).T) ((right_w s w_s).V) (by decide : rng 65536 1055) ((right_w s w_s).T)), (right_w s w_s).T, (right_w s w_s).X⟩ : Scroll.ok ({ (right s) with V := (put ((right s).V) 1055 ((right s).T)) } : Scroll))

/-- (kotatsu/loopy.Scroll).Top -/
def sTop (s : Scroll) : Scroll :=
  ({ (right s) with V := (put ((right s).V) 31712 ((right s).T)) } : Scroll)
theorem sTop_ok (s : Scroll) : FnSpec Try.prog 72 1000 [Scroll.enc s] [] (Scroll.enc (sTop s)) [] := by
  unfold sTop
  exact fn_of_x hG hM Try.func72 (by kernel_rfl) (by kernel_rfl) 400 [.call [] [] 1000 (Scroll.enc (right s)) [], .call [] [] 1000 (.int .u16 (put ((right s).V) 31712 ((right s).T))) []] (J (right_ok s) (J (put_ok ((right s).V) 31712 ((right s).T)) trivial)) (by kernel_rfl)

theorem sTop_w (s : Scroll) (w_s : Scroll.ok s) : Scroll.ok (sTop s) := by
  unfold sTop
  exact (⟨(put_w ((right s).V) 31712 ((right s).T) ((right_w s w_s).V) (by decide : rng 65536 31712) ((right_w s w_s).T)), (right_w s w_s).T, (right_w s w_s).X⟩ : Scroll.ok ({ (right s) with V := (put ((right s).V) 31712 ((right s).T)) } : Scroll))

/-- (kotatsu/loopy.Scroll).Name -/
def sName (s : Scroll) : Int :=
  (bOr .u16 8192 (bAnd .u16 s.V 4095))
theorem sName_ok (s : Scroll) : FnSpec Try.prog 87 1000 [Scroll.enc s] [] (.int .u16 (sName s)) [] := by
  unfold sName
  exact fn_of_x hG hM Try.func87 (by kernel_rfl) (by kernel_rfl) 400 [] trivial (by kernel_rfl)

theorem sName_w (s : Scroll) (w_s : Scroll.ok s) : rng 65536 (sName s) := by
  unfold sName
  exact (rng_bOr_u16 8192 (bAnd .u16 s.V 4095))

/-- (kotatsu/loopy.Scroll).Shade -/
def sShade (s : Scroll) : Int × Int :=
  ((bOr .u16 (bOr .u16 (bOr .u16 9152 (bAnd .u16 s.V 3072)) (bShl .u16 (bShr .u16 (bShr .u16 (bAnd .u16 s.V 992) 5) 2) 3)) (bShr .u16 (bAnd .u16 s.V 31) 2)), (IntKind.u8.wrap (bOr .u16 (bAnd .u16 (bAnd .u16 s.V 31) 2) (bShl .u16 (bAnd .u16 (bShr .u16 (bAnd .u16 s.V 992) 5) 2) 1))))
theorem sShade_ok (s : Scroll) : FnSpec Try.prog 89 1000 [Scroll.enc s] [] (.tuple ⟨[.int .u16 ((sShade s).1), .int .u8 ((sShade s).2)]⟩) [] := by
  unfold sShade
  exact fn_of_x hG hM Try.func89 (by kernel_rfl) (by kernel_rfl) 400 [] (J (by decide : (0 : Int) ≤ 5) (J (by decide : (0 : Int) ≤ 2) (J (by decide : (0 : Int) ≤ 3) (J (by decide : (0 : Int) ≤ 2) (J (by decide : (0 : Int) ≤ 1) trivial))))) (by kernel_rfl)

theorem sShade_w1 (s : Scroll) (w_s : Scroll.ok s) : rng 65536 (sShade s).1 := by
  unfold sShade
  exact (rng_bOr_u16 (bOr .u16 (bOr .u16 9152 (bAnd .u16 s.V 3072)) (bShl .u16 (bShr .u16 (bShr .u16 (bAnd .u16 s.V 992) 5) 2) 3)) (bShr .u16 (bAnd .u16 s.V 31) 2))

theorem sShade_w2 (s : Scroll) (w_s : Scroll.ok s) : rng 256 (sShade s).2 := by
  unfold sShade
  exact (rng_wrap_u8 (bOr .u16 (bAnd .u16 (bAnd .u16 s.V 31) 2) (bShl .u16 (bAnd .u16 (bShr .u16 (bAnd .u16 s.V 992) 5) 2) 1)))

/-- (kotatsu/loopy.Scroll).Row -/
def sRow (s : Scroll) : Int :=
  (IntKind.u8.wrap (bShr .u16 (bAnd .u16 s.V 28672) 12))
theorem sRow_ok (s : Scroll) : FnSpec Try.prog 88 1000 [Scroll.enc s] [] (.int .u8 (sRow s)) [] := by
  unfold sRow
  exact fn_of_x hG hM Try.func88 (by kernel_rfl) (by kernel_rfl) 400 [] (J (by decide : (0 : Int) ≤ 12) trivial) (by kernel_rfl)

theorem sRow_w (s : Scroll) (w_s : Scroll.ok s) : rng 256 (sRow s) := by
  unfold sRow
  exact (rng_wrap_u8 (bShr .u16 (bAnd .u16 s.V 28672) 12))

/-- kotatsu/loopy.Mirror -/
def mirror (a : Int) (u : Bool) : Int :=
  if (!u) = true then
    (bOr .u16 (bAnd .u16 a 1023) (bAnd .u16 (bShr .u16 a 1) 1024))
  else
    (bAnd .u16 a 2047)
theorem mirror_ok (a : Int) (u : Bool) : FnSpec Try.prog 64 1000 [.int .u16 a, .bool u] [] (.int .u16 (mirror a u)) [] := by
  unfold mirror
  rcases bt (!u) with c1 | c1
  · rw [if_pos c1]
    exact fn_of_x hG hM Try.func64 (by kernel_rfl) (by kernel_rfl) 400 [.yes] (J c1 (J (by decide : (0 : Int) ≤ 1) trivial)) (by kernel_rfl)
  · rw [if_neg (nt c1)]
    exact fn_of_x hG hM Try.func64 (by kernel_rfl) (by kernel_rfl) 400 [.no] (J c1 trivial) (by kernel_rfl)

theorem mirror_w (a : Int) (u : Bool) (w_a : rng 65536 a) : rng 65536 (mirror a u) := by
  unfold mirror
  rcases bt (!u) with c1 | c1
  · rw [if_pos c1]
    exact (rng_bOr_u16 (bAnd .u16 a 1023) (bAnd .u16 (bShr .u16 a 1) 1024))
  · rw [if_neg (nt c1)]
    exact (rng_bAnd_u16 a 2047)

/-- kotatsu/loopy.Colour -/
def colour (a : Int) : Int :=
  if (((bAnd .u8 (IntKind.u8.wrap (bAnd .u16 a 31)) 19) : Int) == 16) = true then
    (bAndNot .u8 (IntKind.u8.wrap (bAnd .u16 a 31)) 16)
  else
    (IntKind.u8.wrap (bAnd .u16 a 31))
theorem colour_ok (a : Int) : FnSpec Try.prog 66 1000 [.int .u16 a] [] (.int .u8 (colour a)) [] := by
  unfold colour
  rcases bt (((bAnd .u8 (IntKind.u8.wrap (bAnd .u16 a 31)) 19) : Int) == 16) with c1 | c1
  · rw [if_pos c1]
    exact fn_of_x hG hM Try.func66 (by kernel_rfl) (by kernel_rfl) 400 [.yes] (J c1 trivial) (by kernel_rfl)
  · rw [if_neg (nt c1)]
    exact fn_of_x hG hM Try.func66 (by kernel_rfl) (by kernel_rfl) 400 [.no] (J c1 trivial) (by kernel_rfl)

theorem colour_w (a : Int) (w_a : rng 65536 a) : rng 256 (colour a) := by
  unfold colour
  rcases bt (((bAnd .u8 (IntKind.u8.wrap (bAnd .u16 a 31)) 19) : Int) == 16) with c1 | c1
  · rw [if_pos c1]
    exact (rng_bAndNot_u8 (IntKind.u8.wrap (bAnd .u16 a 31)) 16)
  · rw [if_neg (nt c1)]
    exact (rng_wrap_u8 (bAnd .u16 a 31))

/-- kotatsu/picture.two -/
def two (low : Int) (high : Int) (a : Int) : Int :=
  if (((bAnd .u8 (bShl .u8 low a) 128) : Int) != 0) = true then
    if (((bAnd .u8 (bShl .u8 high a) 128) : Int) != 0) = true then
      3
    else
      1
  else
    if (((bAnd .u8 (bShl .u8 high a) 128) : Int) != 0) = true then
      2
    else
      0
theorem two_ok (low : Int) (high : Int) (a : Int) (ha : 0 ≤ a) : FnSpec Try.prog 90 1000 [.int .u8 low, .int .u8 high, .int .i64 a] [] (.int .u8 (two low high a)) [] := by
  unfold two
  rcases bt (((bAnd .u8 (bShl .u8 low a) 128) : Int) != 0) with c1 | c1
  · rw [if_pos c1]
    rcases bt (((bAnd .u8 (bShl .u8 high a) 128) : Int) != 0) with c2 | c2
    · rw [if_pos c2]
      exact fn_of_x hG hM Try.func90 (by kernel_rfl) (by kernel_rfl) 400 [.yes, .yes] (J ha (J c1 (J ha (J c2 trivial)))) (by kernel_rfl)
    · rw [if_neg (nt c2)]
      exact fn_of_x hG hM Try.func90 (by kernel_rfl) (by kernel_rfl) 400 [.yes, .no] (J ha (J c1 (J ha (J c2 trivial)))) (by kernel_rfl)
  · rw [if_neg (nt c1)]
    rcases bt (((bAnd .u8 (bShl .u8 high a) 128) : Int) != 0) with c2 | c2
    · rw [if_pos c2]
      exact fn_of_x hG hM Try.func90 (by kernel_rfl) (by kernel_rfl) 400 [.no, .yes] (J ha (J c1 (J ha (J c2 trivial)))) (by kernel_rfl)
    · rw [if_neg (nt c2)]
      exact fn_of_x hG hM Try.func90 (by kernel_rfl) (by kernel_rfl) 400 [.no, .no] (J ha (J c1 (J ha (J c2 trivial)))) (by kernel_rfl)

theorem two_w (low : Int) (high : Int) (a : Int) (w_low : rng 256 low) (w_high : rng 256 high) (ha : 0 ≤ a) : rng 256 (two low high a) := by
  unfold two
  rcases bt (((bAnd .u8 (bShl .u8 low a) 128) : Int) != 0) with c1 | c1
  · rw [if_pos c1]
    rcases bt (((bAnd .u8 (bShl .u8 high a) 128) : Int) != 0) with c2 | c2
    · rw [if_pos c2]
      exact (by decide : rng 256 3)
    · rw [if_neg (nt c2)]
      exact (by decide : rng 256 1)
  · rw [if_neg (nt c1)]
    rcases bt (((bAnd .u8 (bShl .u8 high a) 128) : Int) != 0) with c2 | c2
    · rw [if_pos c2]
      exact (by decide : rng 256 2)
    · rw [if_neg (nt c2)]
      exact (by decide : rng 256 0)

end Go.Proofs.Ytgnhhnmpeklciaa
