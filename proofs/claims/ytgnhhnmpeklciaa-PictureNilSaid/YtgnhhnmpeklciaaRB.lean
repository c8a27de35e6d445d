/-
  A nil picture. The screen's way. Written by gen_pic.py. No condition.
-/
import Derived.Test.YtgnhhnmpeklciaaRA
namespace Go.Proofs.Ytgnhhnmpeklciaa
open Go VX
set_option linter.unusedVariables false
set_option linter.unusedSimpArgs false
set_option maxRecDepth 100000

set_option maxHeartbeats 4000000
/-- (*kotatsu/picture.Picture).Put -/
def zPut (reg : Int) (b : Int) : Unit :=
  ()
theorem zPut_ok (reg : Int) (b : Int) : FnSpec Try.prog 21 1000 [.pointer none, .int .u8 reg, .int .u8 b] [] (.tuple ⟨[]⟩) [] := by
  exact fn_of_x hG hM Try.func21 (by kernel_rfl) (by kernel_rfl) 400 [.yes] (J (Eq.refl true) trivial) (by kernel_rfl)

/-- (*kotatsu/picture.Picture).Clock -/
def zClock  : Unit :=
  ()
theorem zClock_ok  : FnSpec Try.prog 23 1000 [.pointer none] [] (.tuple ⟨[]⟩) [] := by
  exact fn_of_x hG hM Try.func23 (by kernel_rfl) (by kernel_rfl) 400 [.yes] (J (Eq.refl true) trivial) (by kernel_rfl)

/-- (*kotatsu/picture.Picture).Upright -/
def zUpright (on : Bool) : Unit :=
  ()
theorem zUpright_ok (on : Bool) : FnSpec Try.prog 31 1000 [.pointer none, .bool on] [] (.tuple ⟨[]⟩) [] := by
  exact fn_of_x hG hM Try.func31 (by kernel_rfl) (by kernel_rfl) 400 [.no] (J (Eq.refl false) trivial) (by kernel_rfl)

/-- (*kotatsu/picture.Picture).Poke -/
def zPoke (a : Int) (b : Int) : Unit :=
  ()
theorem zPoke_ok (a : Int) (b : Int) : FnSpec Try.prog 25 1000 [.pointer none, .int .u16 a, .int .u8 b] [] (.tuple ⟨[]⟩) [] := by
  exact fn_of_x hG hM Try.func25 (by kernel_rfl) (by kernel_rfl) 400 [.yes] (J (Eq.refl true) trivial) (by kernel_rfl)

/-- (*kotatsu/picture.Picture).Dot -/
def zDot  : Int × Int :=
  (0, 0)
theorem zDot_ok  : FnSpec Try.prog 34 1000 [.pointer none] [] (.tuple ⟨[.int .i64 zDot.1, .int .i64 zDot.2]⟩) [] := by
  unfold zDot
  exact fn_of_x hG hM Try.func34 (by kernel_rfl) (by kernel_rfl) 400 [.yes] (J (Eq.refl true) trivial) (by kernel_rfl)

/-- (*kotatsu/picture.Picture).Get -/
def zGet (reg : Int) : Int :=
  0
theorem zGet_ok (reg : Int) : FnSpec Try.prog 17 1000 [.pointer none, .int .u8 reg] [] (.int .u8 (zGet reg)) [] := by
  unfold zGet
  exact fn_of_x hG hM Try.func17 (by kernel_rfl) (by kernel_rfl) 400 [.yes] (J (Eq.refl true) trivial) (by kernel_rfl)

theorem zGet_w (reg : Int) (w_reg : rng 256 reg) : rng 256 (zGet reg) := by
  unfold zGet
  exact (by decide : rng 256 0)

/-- (*kotatsu/picture.Picture).Frame -/
def zFrame  : Int :=
  0
theorem zFrame_ok  : FnSpec Try.prog 22 1000 [.pointer none] [] (.int .i64 zFrame) [] := by
  unfold zFrame
  exact fn_of_x hG hM Try.func22 (by kernel_rfl) (by kernel_rfl) 400 [.yes] (J (Eq.refl true) trivial) (by kernel_rfl)

/-- (*kotatsu/picture.Picture).NMI -/
def zNMI  : Bool :=
  false
theorem zNMI_ok  : FnSpec Try.prog 24 1000 [.pointer none] [] (.bool zNMI) [] := by
  unfold zNMI
  exact fn_of_x hG hM Try.func24 (by kernel_rfl) (by kernel_rfl) 400 [.no, .no, .no, .no, .no, .no, .no, .no, .no, .no, .no, .no, .no, .no] (J (Eq.refl false) (J (Eq.refl false) (J (Eq.refl false) (J (Eq.refl false) (J (Eq.refl false) (J (Eq.refl false) (J (Eq.refl false) (J (Eq.refl false) (J (Eq.refl false) (J (Eq.refl false) (J (Eq.refl false) (J (Eq.refl false) (J (Eq.refl false) (J (Eq.refl false) trivial)))))))))))))) (by kernel_rfl)

/-- (*kotatsu/picture.Picture).Row -/
def zRow (y : Int) : Unit :=
  ()
theorem zRow_ok (y : Int) : FnSpec Try.prog 26 1000 [.pointer none, .int .i64 y] [] (.slice none 0 0) [] := by
  exact fn_of_x hG hM Try.func26 (by kernel_rfl) (by kernel_rfl) 400 [.yes, .yes, .yes, .yes, .yes, .yes, .yes] (J (Eq.refl true) (J (Eq.refl true) (J (Eq.refl true) (J (Eq.refl true) (J (Eq.refl true) (J (Eq.refl true) (J (Eq.refl true) trivial))))))) (by kernel_rfl)

/-- (*kotatsu/picture.Picture).Screen -/
def zScreen  : Unit :=
  ()
theorem zScreen_ok  : FnSpec Try.prog 33 1000 [.pointer none] [] (.slice none 0 0) [] := by
  exact fn_of_x hG hM Try.func33 (by kernel_rfl) (by kernel_rfl) 400 [.yes] (J (Eq.refl true) trivial) (by kernel_rfl)

/-- (*kotatsu/picture.Picture).Peek -/
def zPeek (a : Int) : Int :=
  0
theorem zPeek_ok (a : Int) : FnSpec Try.prog 19 1000 [.pointer none, .int .u16 a] [] (.int .u8 (zPeek a)) [] := by
  unfold zPeek
  exact fn_of_x hG hM Try.func19 (by kernel_rfl) (by kernel_rfl) 400 [.yes] (J (Eq.refl true) trivial) (by kernel_rfl)

theorem zPeek_w (a : Int) (w_a : rng 65536 a) : rng 256 (zPeek a) := by
  unfold zPeek
  exact (by decide : rng 256 0)

/-- (*kotatsu/picture.Picture).Copy -/
def zCopy  : Unit :=
  ()
theorem zCopy_ok  : FnSpec Try.prog 27 1000 [.pointer none] [] (.pointer none) [] := by
  exact fn_of_x hG hM Try.func27 (by kernel_rfl) (by kernel_rfl) 400 [.yes] (J (Eq.refl true) trivial) (by kernel_rfl)

/-- a loop of (*kotatsu/picture.Picture).Screen: one round -/
inductive wScreen_L1 (p : Pic) (p_chosen : List Sprite) (xd : (List Int) × Int) : ((List Int) × Int) ⊕ ((List Int) × Int) → Prop
  | p1 (d1 : (decide ((xd.2 : Int) < 240)) = true) (w1d : 0 ≤ xd.2) (w2d : (List.length xd.1) + 256 ≤ 1048576) : wScreen_L1 p p_chosen xd (.inl ((xd.1 ++ rowL p.screen ((Int.toNat xd.2 * 256) + 0) 256), (IntKind.i64.wrap (xd.2 + 1))))
  | p2 (d1 : (decide ((xd.2 : Int) < 240)) = false) : wScreen_L1 p p_chosen xd (.inr (xd.1, xd.2))
def wScreen_L1_T (p : Pic) (p_chosen : List Sprite) (xd : (List Int) × Int) : Tm := [(0, .pointer (some ⟨1000, 0, none⟩)), (2, .slice none 0 0), (3, .slice (some ⟨1003, 0, (some 0)⟩) (List.length xd.1) 1), (8, .int .i64 xd.2)]
def wScreen_L1_H (p : Pic) (p_chosen : List Sprite) (xd : (List Int) × Int) : Heap := [(1000, (Pic.bl p (.slice (some ⟨1001, 0, (some 0)⟩) (List.length p_chosen) 5) false)), (1003, ⟨[intsL .u8 xd.1], 5, false⟩)]
def wScreen_L1_T1 (p : Pic) (p_chosen : List Sprite) (y_ : (List Int) × Int) : Tm := wScreen_L1_T p p_chosen y_
def wScreen_L1_H1 (p : Pic) (p_chosen : List Sprite) (y_ : (List Int) × Int) : Heap := wScreen_L1_H p p_chosen y_
def wScreen_L1_ex (_ : (List Int) × Int) : Ex := .exit 0
theorem wScreen_L1_p1 (p : Pic) (p_chosen : List Sprite) (xd : (List Int) × Int) (d1 : (decide ((xd.2 : Int) < 240)) = true) (w1d : 0 ≤ xd.2) (w2d : (List.length xd.1) + 256 ≤ 1048576) : RunsM Try.prog 21 (bodyOf Try.f33 [1, 1, 1, 0, 1, 0, 0]) 1003 (wScreen_L1_T p p_chosen xd) (wScreen_L1_H p p_chosen xd) 1004 .normal (wScreen_L1_T p p_chosen ((xd.1 ++ rowL p.screen ((Int.toNat xd.2 * 256) + 0) 256), (IntKind.i64.wrap (xd.2 + 1)))) (wScreen_L1_H p p_chosen ((xd.1 ++ rowL p.screen ((Int.toNat xd.2 * 256) + 0) 256), (IntKind.i64.wrap (xd.2 + 1)))) 1004 := by
  have o1 : 0 ≤ xd.2 ∧ xd.2 < ((240 : Nat) : Int) := by first | decide | omega | (simp only [decide_eq_true_eq, decide_eq_false_iff_not, rng, IntKind.wrap_i64, IntKind.wrap_u8, IntKind.wrap_u16] at *; omega)
  exact runsM_of_x hG hM 400 1003 [.yes, .sym, .cut 0 256, .eq 18 (.slice (some ⟨1004, 0, (some 0)⟩) (List.length (xd.1 ++ rowL p.screen ((Int.toNat xd.2 * 256) + 0) 256)) 1), .win [intsL .u8 (xd.1 ++ rowL p.screen ((Int.toNat xd.2 * 256) + 0) 256)]] [(1000, 1000), (1001, 1001), (1004, 1003)] (J d1 (J o1 (J (sl_row 1004 1 xd.1 p.screen ((Int.toNat xd.2 * 256) + 0) 256) (J (behind_row (k := .u8) xd.1 p.screen ((Int.toNat xd.2 * 256) + 0) 256) (J w2d (J (ints_size .u8 5 false xd.1) (J (y256 (show Int.toNat xd.2 < 240 from by (simp only [decide_eq_true_eq] at *; omega))) trivial))))))) (by kernel_rfl)
theorem wScreen_L1_p2 (p : Pic) (p_chosen : List Sprite) (xd : (List Int) × Int) (d1 : (decide ((xd.2 : Int) < 240)) = false) : RunsM Try.prog 21 (bodyOf Try.f33 [1, 1, 1, 0, 1, 0, 0]) 1003 (wScreen_L1_T p p_chosen xd) (wScreen_L1_H p p_chosen xd) 1004 (.exit 0) (wScreen_L1_T1 p p_chosen (xd.1, xd.2)) (wScreen_L1_H1 p p_chosen (xd.1, xd.2)) 1004 := by
  exact runsM_of_x hG hM 400 1003 [.no] [(1000, 1000), (1001, 1001), (1003, 1003)] (J d1 trivial) (by kernel_rfl)
theorem wScreen_L1_runs (p : Pic) (p_chosen : List Sprite) (x_ : (List Int) × Int) (y_ : (List Int) × Int) (h_ : LoopR (wScreen_L1 p p_chosen) x_ y_) : RunsM Try.prog 21 (.block 0 (.loop (bodyOf Try.f33 [1, 1, 1, 0, 1, 0, 0]))) 1003 (wScreen_L1_T p p_chosen x_) (wScreen_L1_H p p_chosen x_) 1004 (outOf 0 (wScreen_L1_ex y_)) (wScreen_L1_T1 p p_chosen y_) (wScreen_L1_H1 p p_chosen y_) 1004 := by
  refine block_loopM hG (wScreen_L1 p p_chosen) (wScreen_L1_T p p_chosen) (wScreen_L1_H p p_chosen) wScreen_L1_ex (wScreen_L1_T1 p p_chosen) (wScreen_L1_H1 p p_chosen) ?_ ?_ ?_ x_ y_ h_
  · intro s r _ hr; cases hr
  · intro xd y_ hx
    cases hx with
    | p1 d1 w1d w2d => exact wScreen_L1_p1 p p_chosen xd d1 w1d w2d
  · intro xd y_ hx
    cases hx with
    | p2 d1 => exact wScreen_L1_p2 p p_chosen xd d1

theorem wScreen_p1 (p : Pic) (p_chosen : List Sprite) (r1 : (List Int) × Int) (l1 : LoopR (wScreen_L1 p p_chosen) (([] : List Int), 0) r1) : FnSpec Try.prog 33 1002 [.pointer (some ⟨1000, 0, none⟩)] [(1000, (Pic.bl p (.slice (some ⟨1001, 0, (some 0)⟩) (List.length p_chosen) 5) false)), (1001, ⟨[rowsL Sprite.cells Sprite.nil 5 p_chosen], 92, false⟩)] (.slice (some ⟨1002, 0, (some 0)⟩) (List.length r1.1) 1) [(1000, (Pic.bl p (.slice (some ⟨1001, 0, (some 0)⟩) (List.length p_chosen) 5) false)), (1001, ⟨[rowsL Sprite.cells Sprite.nil 5 p_chosen], 92, false⟩), (1002, ⟨[intsL .u8 r1.1], 5, false⟩)] := by
  exact fn_ren (v := .slice (some ⟨1003, 0, (some 0)⟩) (List.length r1.1) 1) (H1 := [(1000, (Pic.bl p (.slice (some ⟨1001, 0, (some 0)⟩) (List.length p_chosen) 5) false)), (1001, ⟨[rowsL Sprite.cells Sprite.nil 5 p_chosen], 92, false⟩), (1003, ⟨[intsL .u8 r1.1], 5, false⟩)]) (fn_of_x hG hM Try.func33 (by kernel_rfl) (by kernel_rfl) 400 [.no, .cut 0 61440, .list [intsL .u8 ([] : List Int)], .segk 1 0 [0, 2, 3, 8] [1000, 1002] .normal (wScreen_L1_T1 p p_chosen r1) (wScreen_L1_H1 p p_chosen r1) 1004] (J (Eq.refl false) (J (Eq.refl (0 : Int)) (J (Eq.refl (61440 : Int)) (J (noughts_nil .u8 61440) (J (runs_of_pre hG (wScreen_L1_runs p p_chosen (([] : List Int), 0) r1 l1) [(1000, 1000), (1001, 1001), (1002, 1003)] (T := [(0, .pointer (some ⟨1000, 0, none⟩)), (2, .slice none 0 0), (3, .slice (some ⟨1002, 0, (some 0)⟩) (List.length ([] : List Int)) 1), (8, .int .i64 0)]) (H := [(1000, (Pic.bl p (.slice (some ⟨1001, 0, (some 0)⟩) (List.length p_chosen) 5) false)), (1002, ⟨[intsL .u8 ([] : List Int)], 5, false⟩)]) (by kernel_rfl)) trivial))))) (by kernel_rfl)) [(1000, 1000), (1001, 1001), (1003, 1002)] 1003 (by kernel_rfl)

end Go.Proofs.Ytgnhhnmpeklciaa
