/-
  The picture: a dot is drawn. Written by gen_pic.py. No condition.
-/
import Derived.Test.YtgnhhnmpeklciaaPG
namespace Go.Proofs.Ytgnhhnmpeklciaa
open Go VX
set_option linter.unusedVariables false
set_option linter.unusedSimpArgs false
set_option maxRecDepth 100000

set_option maxHeartbeats 4000000
/-- a piece of (*kotatsu/picture.Picture).draw -/
def pDraw_J1 (p : Pic) (p_chosen : List Sprite) (x : Int) : Bool :=
  if (((pTile p p_chosen x).1 : Int) != 0) = true then
    if (((pSpriteF p p_chosen x).1 : Int) != 0) = true then
      if ((pSpriteF p p_chosen x).2).first = true then
        (decide ((x : Int) < 255))
      else
        false
    else
      false
  else
    false
def pDraw_J1_T (p : Pic) (p_chosen : List Sprite) (x : Int) : Tm := [(0, .pointer (some ⟨1000, 0, none⟩)), (1, .int .i64 x), (4, .int .u8 ((pTile p p_chosen x).1)), (5, .int .u8 ((pTile p p_chosen x).2)), (6, .int .u8 ((pSpriteF p p_chosen x).1)), (7, .pointer (some ⟨1002, 0, none⟩))]
def pDraw_J1_H (p : Pic) (p_chosen : List Sprite) (x : Int) : Heap := [(1002, ⟨[.one (.int .u8 (((pSpriteF p p_chosen x).2).low)), .one (.int .u8 (((pSpriteF p p_chosen x).2).high)), .one (.int .u8 (((pSpriteF p p_chosen x).2).look)), .one (.int .u8 (((pSpriteF p p_chosen x).2).x)), .one (.bool (((pSpriteF p p_chosen x).2).first))], 92, false⟩)]
def pDraw_J1_T1 (p : Pic) (p_chosen : List Sprite) (x : Int) (r_ : Bool) : Tm := [(0, .pointer (some ⟨1000, 0, none⟩)), (1, .int .i64 x), (4, .int .u8 ((pTile p p_chosen x).1)), (5, .int .u8 ((pTile p p_chosen x).2)), (6, .int .u8 ((pSpriteF p p_chosen x).1)), (7, .pointer (some ⟨1002, 0, none⟩)), (35, .bool r_)]
def pDraw_J1_H1 (p : Pic) (p_chosen : List Sprite) (x : Int) (r_ : Bool) : Heap := [(1002, ⟨[.one (.int .u8 (((pSpriteF p p_chosen x).2).low)), .one (.int .u8 (((pSpriteF p p_chosen x).2).high)), .one (.int .u8 (((pSpriteF p p_chosen x).2).look)), .one (.int .u8 (((pSpriteF p p_chosen x).2).x)), .one (.bool (((pSpriteF p p_chosen x).2).first))], 92, false⟩)]
theorem pDraw_J1_p1 (p : Pic) (p_chosen : List Sprite) (x : Int) (d1 : (((pTile p p_chosen x).1 : Int) != 0) = true) (d2 : (((pSpriteF p p_chosen x).1 : Int) != 0) = true) (d3 : ((pSpriteF p p_chosen x).2).first = true) : Runs Try.prog 95 (bodyOf Try.f49 [1, 1, 0, 0]) (pDraw_J1_T p p_chosen x) (pDraw_J1_H p p_chosen x) 1003 .normal (pDraw_J1_T1 p p_chosen x (decide ((x : Int) < 255))) (pDraw_J1_H1 p p_chosen x (decide ((x : Int) < 255))) 1003 := by
  exact runs_of_x hG hM 400 [.yes, .yes, .yes, .yes, .yes, .yes, .yes, .yes, .yes] (J d1 (J d1 (J d1 (J d2 (J d2 (J d2 (J d3 (J d3 (J d3 trivial))))))))) (by kernel_rfl)
theorem pDraw_J1_p2 (p : Pic) (p_chosen : List Sprite) (x : Int) (d1 : (((pTile p p_chosen x).1 : Int) != 0) = true) (d2 : (((pSpriteF p p_chosen x).1 : Int) != 0) = true) (d3 : ((pSpriteF p p_chosen x).2).first = false) : Runs Try.prog 95 (bodyOf Try.f49 [1, 1, 0, 0]) (pDraw_J1_T p p_chosen x) (pDraw_J1_H p p_chosen x) 1003 .normal (pDraw_J1_T1 p p_chosen x false) (pDraw_J1_H1 p p_chosen x false) 1003 := by
  exact runs_of_x hG hM 400 [.yes, .yes, .yes, .yes, .yes, .yes, .no, .no, .no] (J d1 (J d1 (J d1 (J d2 (J d2 (J d2 (J d3 (J d3 (J d3 trivial))))))))) (by kernel_rfl)
theorem pDraw_J1_p3 (p : Pic) (p_chosen : List Sprite) (x : Int) (d1 : (((pTile p p_chosen x).1 : Int) != 0) = true) (d2 : (((pSpriteF p p_chosen x).1 : Int) != 0) = false) : Runs Try.prog 95 (bodyOf Try.f49 [1, 1, 0, 0]) (pDraw_J1_T p p_chosen x) (pDraw_J1_H p p_chosen x) 1003 .normal (pDraw_J1_T1 p p_chosen x false) (pDraw_J1_H1 p p_chosen x false) 1003 := by
  exact runs_of_x hG hM 400 [.yes, .yes, .yes, .no, .no, .no, .no, .no, .no] (J d1 (J d1 (J d1 (J d2 (J d2 (J d2 (J (Eq.refl false) (J (Eq.refl false) (J (Eq.refl false) trivial))))))))) (by kernel_rfl)
theorem pDraw_J1_p4 (p : Pic) (p_chosen : List Sprite) (x : Int) (d1 : (((pTile p p_chosen x).1 : Int) != 0) = false) : Runs Try.prog 95 (bodyOf Try.f49 [1, 1, 0, 0]) (pDraw_J1_T p p_chosen x) (pDraw_J1_H p p_chosen x) 1003 .normal (pDraw_J1_T1 p p_chosen x false) (pDraw_J1_H1 p p_chosen x false) 1003 := by
  exact runs_of_x hG hM 400 [.no, .no, .no, .no, .no, .no, .no, .no, .no] (J d1 (J d1 (J d1 (J (Eq.refl false) (J (Eq.refl false) (J (Eq.refl false) (J (Eq.refl false) (J (Eq.refl false) (J (Eq.refl false) trivial))))))))) (by kernel_rfl)
theorem pDraw_J1_runs (p : Pic) (p_chosen : List Sprite) (x : Int) : Runs Try.prog 95 (bodyOf Try.f49 [1, 1, 0, 0]) (pDraw_J1_T p p_chosen x) (pDraw_J1_H p p_chosen x) 1003 .normal (pDraw_J1_T1 p p_chosen x (pDraw_J1 p p_chosen x)) (pDraw_J1_H1 p p_chosen x (pDraw_J1 p p_chosen x)) 1003 := by
  rcases bt (((pTile p p_chosen x).1 : Int) != 0) with d1 | d1
  ·
    rcases bt (((pSpriteF p p_chosen x).1 : Int) != 0) with d2 | d2
    ·
      rcases bt (((pSpriteF p p_chosen x).2).first) with d3 | d3
      ·
        rw [show pDraw_J1 p p_chosen x = (decide ((x : Int) < 255)) from by unfold pDraw_J1; rw [if_pos d1, if_pos d2, if_pos d3]]
        exact pDraw_J1_p1 p p_chosen x d1 d2 d3
      ·
        rw [show pDraw_J1 p p_chosen x = false from by unfold pDraw_J1; rw [if_pos d1, if_pos d2, if_neg (nt d3)]]
        exact pDraw_J1_p2 p p_chosen x d1 d2 d3
    ·
      rw [show pDraw_J1 p p_chosen x = false from by unfold pDraw_J1; rw [if_pos d1, if_neg (nt d2)]]
      exact pDraw_J1_p3 p p_chosen x d1 d2
  ·
    rw [show pDraw_J1 p p_chosen x = false from by unfold pDraw_J1; rw [if_neg (nt d1)]]
    exact pDraw_J1_p4 p p_chosen x d1

/-- a piece of (*kotatsu/picture.Picture).draw -/
def pDraw_J2 (p : Pic) (p_chosen : List Sprite) (x : Int) (xd : Int) : Int :=
  if (pDraw_J1 p p_chosen x) = true then
    (bOr .u8 xd 64)
  else
    xd
def pDraw_J2_T (p : Pic) (p_chosen : List Sprite) (x : Int) (xd : Int) : Tm := [(0, .pointer (some ⟨1000, 0, none⟩)), (1, .int .i64 x), (4, .int .u8 ((pTile p p_chosen x).1)), (5, .int .u8 ((pTile p p_chosen x).2)), (6, .int .u8 ((pSpriteF p p_chosen x).1)), (7, .pointer (some ⟨1002, 0, none⟩)), (35, .bool (pDraw_J1 p p_chosen x))]
def pDraw_J2_H (p : Pic) (p_chosen : List Sprite) (x : Int) (xd : Int) : Heap := [(1000, ⟨[.ints .u8 8192 p.tiles, .ints .u8 2048 p.names, .ints .u8 32 p.colours, .ints .u8 256 p.men, .one (.int .u8 p.man), .one (.int .u16 p.scroll.V), .one (.int .u16 p.scroll.T), .one (.int .u8 p.scroll.X), .one (.bool p.scroll.W), .one (.int .u8 p.control), .one (.int .u8 p.mask), .one (.int .u8 xd), .one (.int .u8 p.waits), .one (.int .u8 p.bus), .one (.bool p.upright), .one (.int .i64 p.line), .one (.int .i64 p.dot), .one (.bool p.odd), .one (.int .i64 p.frames), .one (.slice (some ⟨1001, 0, (some 0)⟩) (List.length p_chosen) 5), .ints .u8 61440 p.screen], 79, false⟩)]
def pDraw_J2_T1 (p : Pic) (p_chosen : List Sprite) (x : Int) (xd : Int) (r_ : Int) : Tm := [(0, .pointer (some ⟨1000, 0, none⟩)), (1, .int .i64 x), (4, .int .u8 ((pTile p p_chosen x).1)), (5, .int .u8 ((pTile p p_chosen x).2)), (6, .int .u8 ((pSpriteF p p_chosen x).1)), (7, .pointer (some ⟨1002, 0, none⟩))]
def pDraw_J2_H1 (p : Pic) (p_chosen : List Sprite) (x : Int) (xd : Int) (r_ : Int) : Heap := [(1000, ⟨[.ints .u8 8192 p.tiles, .ints .u8 2048 p.names, .ints .u8 32 p.colours, .ints .u8 256 p.men, .one (.int .u8 p.man), .one (.int .u16 p.scroll.V), .one (.int .u16 p.scroll.T), .one (.int .u8 p.scroll.X), .one (.bool p.scroll.W), .one (.int .u8 p.control), .one (.int .u8 p.mask), .one (.int .u8 r_), .one (.int .u8 p.waits), .one (.int .u8 p.bus), .one (.bool p.upright), .one (.int .i64 p.line), .one (.int .i64 p.dot), .one (.bool p.odd), .one (.int .i64 p.frames), .one (.slice (some ⟨1001, 0, (some 0)⟩) (List.length p_chosen) 5), .ints .u8 61440 p.screen], 79, false⟩)]
theorem pDraw_J2_p1 (p : Pic) (p_chosen : List Sprite) (x : Int) (xd : Int) (d1 : (pDraw_J1 p p_chosen x) = true) : Runs Try.prog 95 (bodyOf Try.f49 [1, 1, 0, 1]) (pDraw_J2_T p p_chosen x xd) (pDraw_J2_H p p_chosen x xd) 1003 .normal (pDraw_J2_T1 p p_chosen x xd (bOr .u8 xd 64)) (pDraw_J2_H1 p p_chosen x xd (bOr .u8 xd 64)) 1003 := by
  exact runs_of_x hG hM 400 [.yes] (J d1 trivial) (by kernel_rfl)
theorem pDraw_J2_p2 (p : Pic) (p_chosen : List Sprite) (x : Int) (xd : Int) (d1 : (pDraw_J1 p p_chosen x) = false) : Runs Try.prog 95 (bodyOf Try.f49 [1, 1, 0, 1]) (pDraw_J2_T p p_chosen x xd) (pDraw_J2_H p p_chosen x xd) 1003 .normal (pDraw_J2_T1 p p_chosen x xd xd) (pDraw_J2_H1 p p_chosen x xd xd) 1003 := by
  exact runs_of_x hG hM 400 [.no] (J d1 trivial) (by kernel_rfl)
theorem pDraw_J2_runs (p : Pic) (p_chosen : List Sprite) (x : Int) (xd : Int) : Runs Try.prog 95 (bodyOf Try.f49 [1, 1, 0, 1]) (pDraw_J2_T p p_chosen x xd) (pDraw_J2_H p p_chosen x xd) 1003 .normal (pDraw_J2_T1 p p_chosen x xd (pDraw_J2 p p_chosen x xd)) (pDraw_J2_H1 p p_chosen x xd (pDraw_J2 p p_chosen x xd)) 1003 := by
  rcases bt (pDraw_J1 p p_chosen x) with d1 | d1
  ·
    rw [show pDraw_J2 p p_chosen x xd = (bOr .u8 xd 64) from by unfold pDraw_J2; rw [if_pos d1]]
    exact pDraw_J2_p1 p p_chosen x xd d1
  ·
    rw [show pDraw_J2 p p_chosen x xd = xd from by unfold pDraw_J2; rw [if_neg (nt d1)]]
    exact pDraw_J2_p2 p p_chosen x xd d1
theorem pDraw_J2_w (p : Pic) (p_chosen : List Sprite) (x : Int) (xd : Int) (v1d : rng 256 xd) : rng 256 (pDraw_J2 p p_chosen x xd) := by
  rcases bt (pDraw_J1 p p_chosen x) with d1 | d1
  ·
    rw [show pDraw_J2 p p_chosen x xd = (bOr .u8 xd 64) from by unfold pDraw_J2; rw [if_pos d1]]
    exact (rng_bOr_u8 xd 64)
  ·
    rw [show pDraw_J2 p p_chosen x xd = xd from by unfold pDraw_J2; rw [if_neg (nt d1)]]
    exact v1d

/-- a piece of (*kotatsu/picture.Picture).draw -/
def pDraw_J3 (p : Pic) (p_chosen : List Sprite) (x : Int) : Bool :=
  if (((pSpriteF p p_chosen x).1 : Int) != 0) = true then
    if (((pTile p p_chosen x).1 : Int) == 0) = true then
      true
    else
      (((bAnd .u8 (((pSpriteF p p_chosen x).2).look) 32) : Int) == 0)
  else
    false
def pDraw_J3_T (p : Pic) (p_chosen : List Sprite) (x : Int) : Tm := [(0, .pointer (some ⟨1000, 0, none⟩)), (1, .int .i64 x), (4, .int .u8 ((pTile p p_chosen x).1)), (5, .int .u8 ((pTile p p_chosen x).2)), (6, .int .u8 ((pSpriteF p p_chosen x).1)), (7, .pointer (some ⟨1002, 0, none⟩)), (8, .int .u16 0)]
def pDraw_J3_H (p : Pic) (p_chosen : List Sprite) (x : Int) : Heap := [(1002, ⟨[.one (.int .u8 (((pSpriteF p p_chosen x).2).low)), .one (.int .u8 (((pSpriteF p p_chosen x).2).high)), .one (.int .u8 (((pSpriteF p p_chosen x).2).look)), .one (.int .u8 (((pSpriteF p p_chosen x).2).x)), .one (.bool (((pSpriteF p p_chosen x).2).first))], 92, false⟩)]
def pDraw_J3_T1 (p : Pic) (p_chosen : List Sprite) (x : Int) (r_ : Bool) : Tm := [(0, .pointer (some ⟨1000, 0, none⟩)), (1, .int .i64 x), (4, .int .u8 ((pTile p p_chosen x).1)), (5, .int .u8 ((pTile p p_chosen x).2)), (6, .int .u8 ((pSpriteF p p_chosen x).1)), (7, .pointer (some ⟨1002, 0, none⟩)), (8, .int .u16 0), (43, .bool r_)]
def pDraw_J3_H1 (p : Pic) (p_chosen : List Sprite) (x : Int) (r_ : Bool) : Heap := [(1002, ⟨[.one (.int .u8 (((pSpriteF p p_chosen x).2).low)), .one (.int .u8 (((pSpriteF p p_chosen x).2).high)), .one (.int .u8 (((pSpriteF p p_chosen x).2).look)), .one (.int .u8 (((pSpriteF p p_chosen x).2).x)), .one (.bool (((pSpriteF p p_chosen x).2).first))], 92, false⟩)]
theorem pDraw_J3_p1 (p : Pic) (p_chosen : List Sprite) (x : Int) (d1 : (((pSpriteF p p_chosen x).1 : Int) != 0) = true) (d2 : (((pTile p p_chosen x).1 : Int) == 0) = true) : Runs Try.prog 95 (bodyOf Try.f49 [1, 1, 1, 1, 0, 0, 0]) (pDraw_J3_T p p_chosen x) (pDraw_J3_H p p_chosen x) 1003 .normal (pDraw_J3_T1 p p_chosen x true) (pDraw_J3_H1 p p_chosen x true) 1003 := by
  exact runs_of_x hG hM 400 [.yes, .yes, .yes, .yes, .yes, .yes, .yes, .yes, .yes, .yes] (J d1 (J d1 (J d1 (J d2 (J d2 (J d2 (J d2 (J d1 (J d2 (J d1 trivial)))))))))) (by kernel_rfl)
theorem pDraw_J3_p2 (p : Pic) (p_chosen : List Sprite) (x : Int) (d1 : (((pSpriteF p p_chosen x).1 : Int) != 0) = true) (d2 : (((pTile p p_chosen x).1 : Int) == 0) = false) : Runs Try.prog 95 (bodyOf Try.f49 [1, 1, 1, 1, 0, 0, 0]) (pDraw_J3_T p p_chosen x) (pDraw_J3_H p p_chosen x) 1003 .normal (pDraw_J3_T1 p p_chosen x (((bAnd .u8 (((pSpriteF p p_chosen x).2).look) 32) : Int) == 0)) (pDraw_J3_H1 p p_chosen x (((bAnd .u8 (((pSpriteF p p_chosen x).2).look) 32) : Int) == 0)) 1003 := by
  exact runs_of_x hG hM 400 [.yes, .yes, .yes, .no, .no, .no, .no, .yes, .no, .yes] (J d1 (J d1 (J d1 (J d2 (J d2 (J d2 (J d2 (J d1 (J d2 (J d1 trivial)))))))))) (by kernel_rfl)
theorem pDraw_J3_p3 (p : Pic) (p_chosen : List Sprite) (x : Int) (d1 : (((pSpriteF p p_chosen x).1 : Int) != 0) = false) : Runs Try.prog 95 (bodyOf Try.f49 [1, 1, 1, 1, 0, 0, 0]) (pDraw_J3_T p p_chosen x) (pDraw_J3_H p p_chosen x) 1003 .normal (pDraw_J3_T1 p p_chosen x false) (pDraw_J3_H1 p p_chosen x false) 1003 := by
  exact runs_of_x hG hM 400 [.no, .no, .no, .no, .no] (J d1 (J d1 (J d1 (J d1 (J d1 trivial))))) (by kernel_rfl)
theorem pDraw_J3_runs (p : Pic) (p_chosen : List Sprite) (x : Int) : Runs Try.prog 95 (bodyOf Try.f49 [1, 1, 1, 1, 0, 0, 0]) (pDraw_J3_T p p_chosen x) (pDraw_J3_H p p_chosen x) 1003 .normal (pDraw_J3_T1 p p_chosen x (pDraw_J3 p p_chosen x)) (pDraw_J3_H1 p p_chosen x (pDraw_J3 p p_chosen x)) 1003 := by
  rcases bt (((pSpriteF p p_chosen x).1 : Int) != 0) with d1 | d1
  ·
    rcases bt (((pTile p p_chosen x).1 : Int) == 0) with d2 | d2
    ·
      rw [show pDraw_J3 p p_chosen x = true from by unfold pDraw_J3; rw [if_pos d1, if_pos d2]]
      exact pDraw_J3_p1 p p_chosen x d1 d2
    ·
      rw [show pDraw_J3 p p_chosen x = (((bAnd .u8 (((pSpriteF p p_chosen x).2).look) 32) : Int) == 0) from by unfold pDraw_J3; rw [if_pos d1, if_neg (nt d2)]]
      exact pDraw_J3_p2 p p_chosen x d1 d2
  ·
    rw [show pDraw_J3 p p_chosen x = false from by unfold pDraw_J3; rw [if_neg (nt d1)]]
    exact pDraw_J3_p3 p p_chosen x d1

/-- a piece of (*kotatsu/picture.Picture).draw -/
def pDraw_J5n (p : Pic) (p_chosen : List Sprite) (x : Int) : Int :=
  if (((pTile p p_chosen x).1 : Int) != 0) = true then
    (IntKind.u16.wrap (bOr .u8 (bShl .u8 ((pTile p p_chosen x).2) 2) ((pTile p p_chosen x).1)))
  else
    0
def pDraw_J5n_T (p : Pic) (p_chosen : List Sprite) (x : Int) : Tm := [(0, .pointer (some ⟨1000, 0, none⟩)), (1, .int .i64 x), (4, .int .u8 ((pTile p p_chosen x).1)), (5, .int .u8 ((pTile p p_chosen x).2)), (8, .int .u16 0), (64, .bool (((pTile p p_chosen x).1 : Int) != 0))]
def pDraw_J5n_H (p : Pic) (p_chosen : List Sprite) (x : Int) : Heap := []
def pDraw_J5n_T1 (p : Pic) (p_chosen : List Sprite) (x : Int) (r_ : Int) : Tm := [(0, .pointer (some ⟨1000, 0, none⟩)), (1, .int .i64 x), (8, .int .u16 r_)]
def pDraw_J5n_H1 (p : Pic) (p_chosen : List Sprite) (x : Int) (r_ : Int) : Heap := []
theorem pDraw_J5n_p1 (p : Pic) (p_chosen : List Sprite) (x : Int) (e1 : (((pTile p p_chosen x).1 : Int) != 0) = true) : Runs Try.prog 95 (bodyOf Try.f49 [1, 1, 1, 1, 0, 0, 1, 1, 1]) (pDraw_J5n_T p p_chosen x) (pDraw_J5n_H p p_chosen x) 1003 .normal (pDraw_J5n_T1 p p_chosen x (IntKind.u16.wrap (bOr .u8 (bShl .u8 ((pTile p p_chosen x).2) 2) ((pTile p p_chosen x).1)))) (pDraw_J5n_H1 p p_chosen x (IntKind.u16.wrap (bOr .u8 (bShl .u8 ((pTile p p_chosen x).2) 2) ((pTile p p_chosen x).1)))) 1003 := by
  exact runs_of_x hG hM 400 [.yes] (J e1 (J (by decide : (0 : Int) ≤ 2) trivial)) (by kernel_rfl)
theorem pDraw_J5n_p2 (p : Pic) (p_chosen : List Sprite) (x : Int) (e1 : (((pTile p p_chosen x).1 : Int) != 0) = false) : Runs Try.prog 95 (bodyOf Try.f49 [1, 1, 1, 1, 0, 0, 1, 1, 1]) (pDraw_J5n_T p p_chosen x) (pDraw_J5n_H p p_chosen x) 1003 .normal (pDraw_J5n_T1 p p_chosen x 0) (pDraw_J5n_H1 p p_chosen x 0) 1003 := by
  exact runs_of_x hG hM 400 [.no] (J e1 trivial) (by kernel_rfl)
theorem pDraw_J5n_runs (p : Pic) (p_chosen : List Sprite) (x : Int) : Runs Try.prog 95 (bodyOf Try.f49 [1, 1, 1, 1, 0, 0, 1, 1, 1]) (pDraw_J5n_T p p_chosen x) (pDraw_J5n_H p p_chosen x) 1003 .normal (pDraw_J5n_T1 p p_chosen x (pDraw_J5n p p_chosen x)) (pDraw_J5n_H1 p p_chosen x (pDraw_J5n p p_chosen x)) 1003 := by
  rcases bt (((pTile p p_chosen x).1 : Int) != 0) with e1 | e1
  ·
    rw [show pDraw_J5n p p_chosen x = (IntKind.u16.wrap (bOr .u8 (bShl .u8 ((pTile p p_chosen x).2) 2) ((pTile p p_chosen x).1))) from by unfold pDraw_J5n; rw [if_pos e1]]
    exact pDraw_J5n_p1 p p_chosen x e1
  ·
    rw [show pDraw_J5n p p_chosen x = 0 from by unfold pDraw_J5n; rw [if_neg (nt e1)]]
    exact pDraw_J5n_p2 p p_chosen x e1
theorem pDraw_J5n_w (p : Pic) (p_chosen : List Sprite) (x : Int) : rng 65536 (pDraw_J5n p p_chosen x) := by
  rcases bt (((pTile p p_chosen x).1 : Int) != 0) with e1 | e1
  ·
    rw [show pDraw_J5n p p_chosen x = (IntKind.u16.wrap (bOr .u8 (bShl .u8 ((pTile p p_chosen x).2) 2) ((pTile p p_chosen x).1))) from by unfold pDraw_J5n; rw [if_pos e1]]
    exact (rng_wrap_u16 (bOr .u8 (bShl .u8 ((pTile p p_chosen x).2) 2) ((pTile p p_chosen x).1)))
  ·
    rw [show pDraw_J5n p p_chosen x = 0 from by unfold pDraw_J5n; rw [if_neg (nt e1)]]
    exact (by decide : rng 65536 0)

/-- a piece of (*kotatsu/picture.Picture).draw -/
def pDraw_J4 (p : Pic) (p_chosen : List Sprite) (x : Int) : Int :=
  if (pDraw_J3 p p_chosen x) = true then
    (IntKind.u16.wrap (bOr .u8 (bOr .u8 16 (bShl .u8 (bAnd .u8 (((pSpriteF p p_chosen x).2).look) 3) 2)) ((pSpriteF p p_chosen x).1)))
  else
    (pDraw_J5n p p_chosen x)
def pDraw_J4_T (p : Pic) (p_chosen : List Sprite) (x : Int) : Tm := [(0, .pointer (some ⟨1000, 0, none⟩)), (1, .int .i64 x), (4, .int .u8 ((pTile p p_chosen x).1)), (5, .int .u8 ((pTile p p_chosen x).2)), (6, .int .u8 ((pSpriteF p p_chosen x).1)), (7, .pointer (some ⟨1002, 0, none⟩)), (8, .int .u16 0), (43, .bool (pDraw_J3 p p_chosen x))]
def pDraw_J4_H (p : Pic) (p_chosen : List Sprite) (x : Int) : Heap := [(1002, ⟨[.one (.int .u8 (((pSpriteF p p_chosen x).2).low)), .one (.int .u8 (((pSpriteF p p_chosen x).2).high)), .one (.int .u8 (((pSpriteF p p_chosen x).2).look)), .one (.int .u8 (((pSpriteF p p_chosen x).2).x)), .one (.bool (((pSpriteF p p_chosen x).2).first))], 92, false⟩)]
def pDraw_J4_T1 (p : Pic) (p_chosen : List Sprite) (x : Int) (r_ : Int) : Tm := [(0, .pointer (some ⟨1000, 0, none⟩)), (1, .int .i64 x), (8, .int .u16 r_)]
def pDraw_J4_H1 (p : Pic) (p_chosen : List Sprite) (x : Int) (r_ : Int) : Heap := [(1002, ⟨[.one (.int .u8 (((pSpriteF p p_chosen x).2).low)), .one (.int .u8 (((pSpriteF p p_chosen x).2).high)), .one (.int .u8 (((pSpriteF p p_chosen x).2).look)), .one (.int .u8 (((pSpriteF p p_chosen x).2).x)), .one (.bool (((pSpriteF p p_chosen x).2).first))], 92, false⟩)]
theorem pDraw_J4_p1 (p : Pic) (p_chosen : List Sprite) (x : Int) (d1 : (pDraw_J3 p p_chosen x) = true) : Runs Try.prog 95 (bodyOf Try.f49 [1, 1, 1, 1, 0, 0, 1]) (pDraw_J4_T p p_chosen x) (pDraw_J4_H p p_chosen x) 1003 .normal (pDraw_J4_T1 p p_chosen x (IntKind.u16.wrap (bOr .u8 (bOr .u8 16 (bShl .u8 (bAnd .u8 (((pSpriteF p p_chosen x).2).look) 3) 2)) ((pSpriteF p p_chosen x).1)))) (pDraw_J4_H1 p p_chosen x (IntKind.u16.wrap (bOr .u8 (bOr .u8 16 (bShl .u8 (bAnd .u8 (((pSpriteF p p_chosen x).2).look) 3) 2)) ((pSpriteF p p_chosen x).1)))) 1003 := by
  exact runs_of_x hG hM 400 [.yes] (J d1 (J (by decide : (0 : Int) ≤ 2) trivial)) (by kernel_rfl)
theorem pDraw_J4_p2 (p : Pic) (p_chosen : List Sprite) (x : Int) (d1 : (pDraw_J3 p p_chosen x) = false) : Runs Try.prog 95 (bodyOf Try.f49 [1, 1, 1, 1, 0, 0, 1]) (pDraw_J4_T p p_chosen x) (pDraw_J4_H p p_chosen x) 1003 .normal (pDraw_J4_T1 p p_chosen x (pDraw_J5n p p_chosen x)) (pDraw_J4_H1 p p_chosen x (pDraw_J5n p p_chosen x)) 1003 := by
  exact runs_of_x hG hM 400 [.no, .segk 2 0 [0, 1, 4, 5, 8, 64] [] .normal (pDraw_J5n_T1 p p_chosen x (pDraw_J5n p p_chosen x)) (pDraw_J5n_H1 p p_chosen x (pDraw_J5n p p_chosen x)) 1003] (J d1 (J (pDraw_J5n_runs p p_chosen x) trivial)) (by kernel_rfl)
theorem pDraw_J4_runs (p : Pic) (p_chosen : List Sprite) (x : Int) : Runs Try.prog 95 (bodyOf Try.f49 [1, 1, 1, 1, 0, 0, 1]) (pDraw_J4_T p p_chosen x) (pDraw_J4_H p p_chosen x) 1003 .normal (pDraw_J4_T1 p p_chosen x (pDraw_J4 p p_chosen x)) (pDraw_J4_H1 p p_chosen x (pDraw_J4 p p_chosen x)) 1003 := by
  rcases bt (pDraw_J3 p p_chosen x) with d1 | d1
  ·
    rw [show pDraw_J4 p p_chosen x = (IntKind.u16.wrap (bOr .u8 (bOr .u8 16 (bShl .u8 (bAnd .u8 (((pSpriteF p p_chosen x).2).look) 3) 2)) ((pSpriteF p p_chosen x).1))) from by unfold pDraw_J4; rw [if_pos d1]]
    exact pDraw_J4_p1 p p_chosen x d1
  ·
    rw [show pDraw_J4 p p_chosen x = (pDraw_J5n p p_chosen x) from by unfold pDraw_J4; rw [if_neg (nt d1)]]
    exact pDraw_J4_p2 p p_chosen x d1
theorem pDraw_J4_w (p : Pic) (p_chosen : List Sprite) (x : Int) : rng 65536 (pDraw_J4 p p_chosen x) := by
  rcases bt (pDraw_J3 p p_chosen x) with d1 | d1
  ·
    rw [show pDraw_J4 p p_chosen x = (IntKind.u16.wrap (bOr .u8 (bOr .u8 16 (bShl .u8 (bAnd .u8 (((pSpriteF p p_chosen x).2).look) 3) 2)) ((pSpriteF p p_chosen x).1))) from by unfold pDraw_J4; rw [if_pos d1]]
    exact (rng_wrap_u16 (bOr .u8 (bOr .u8 16 (bShl .u8 (bAnd .u8 (((pSpriteF p p_chosen x).2).look) 3) 2)) ((pSpriteF p p_chosen x).1)))
  ·
    rw [show pDraw_J4 p p_chosen x = (pDraw_J5n p p_chosen x) from by unfold pDraw_J4; rw [if_neg (nt d1)]]
    exact (pDraw_J5n_w p p_chosen x)

/-- a piece of (*kotatsu/picture.Picture).draw -/
def pDraw_J6 (x : Int) (xd : Int × Bool) : Int :=
  if xd.2 = true then
    (bAnd .u8 xd.1 48)
  else
    xd.1
def pDraw_J6_T (x : Int) (xd : Int × Bool) : Tm := [(0, .pointer (some ⟨1000, 0, none⟩)), (1, .int .i64 x), (9, .int .u8 xd.1), (81, .bool xd.2)]
def pDraw_J6_H (x : Int) (xd : Int × Bool) : Heap := []
def pDraw_J6_T1 (x : Int) (xd : Int × Bool) (r_ : Int) : Tm := [(0, .pointer (some ⟨1000, 0, none⟩)), (1, .int .i64 x), (9, .int .u8 r_)]
def pDraw_J6_H1 (x : Int) (xd : Int × Bool) (r_ : Int) : Heap := []
theorem pDraw_J6_p1 (x : Int) (xd : Int × Bool) (d1 : xd.2 = true) : Runs Try.prog 95 (bodyOf Try.f49 [1, 1, 1, 1, 1, 1, 0, 1]) (pDraw_J6_T x xd) (pDraw_J6_H x xd) 1003 .normal (pDraw_J6_T1 x xd (bAnd .u8 xd.1 48)) (pDraw_J6_H1 x xd (bAnd .u8 xd.1 48)) 1003 := by
  exact runs_of_x hG hM 400 [.yes] (J d1 trivial) (by kernel_rfl)
theorem pDraw_J6_p2 (x : Int) (xd : Int × Bool) (d1 : xd.2 = false) : Runs Try.prog 95 (bodyOf Try.f49 [1, 1, 1, 1, 1, 1, 0, 1]) (pDraw_J6_T x xd) (pDraw_J6_H x xd) 1003 .normal (pDraw_J6_T1 x xd xd.1) (pDraw_J6_H1 x xd xd.1) 1003 := by
  exact runs_of_x hG hM 400 [.no] (J d1 trivial) (by kernel_rfl)
theorem pDraw_J6_runs (x : Int) (xd : Int × Bool) : Runs Try.prog 95 (bodyOf Try.f49 [1, 1, 1, 1, 1, 1, 0, 1]) (pDraw_J6_T x xd) (pDraw_J6_H x xd) 1003 .normal (pDraw_J6_T1 x xd (pDraw_J6 x xd)) (pDraw_J6_H1 x xd (pDraw_J6 x xd)) 1003 := by
  rcases bt xd.2 with d1 | d1
  ·
    rw [show pDraw_J6 x xd = (bAnd .u8 xd.1 48) from by unfold pDraw_J6; rw [if_pos d1]]
    exact pDraw_J6_p1 x xd d1
  ·
    rw [show pDraw_J6 x xd = xd.1 from by unfold pDraw_J6; rw [if_neg (nt d1)]]
    exact pDraw_J6_p2 x xd d1
theorem pDraw_J6_w (x : Int) (xd : Int × Bool) (v1d : rng 256 xd.1) : rng 256 (pDraw_J6 x xd) := by
  rcases bt xd.2 with d1 | d1
  ·
    rw [show pDraw_J6 x xd = (bAnd .u8 xd.1 48) from by unfold pDraw_J6; rw [if_pos d1]]
    exact (rng_bAnd_u8 xd.1 48)
  ·
    rw [show pDraw_J6 x xd = xd.1 from by unfold pDraw_J6; rw [if_neg (nt d1)]]
    exact v1d

/-- (*kotatsu/picture.Picture).draw -/
def pDraw (p : Pic) (p_chosen : List Sprite) (x : Int) : Pic :=
  ({ ({ p with flags := (pDraw_J2 p p_chosen x p.flags) } : Pic) with screen := (upd (({ p with flags := (pDraw_J2 p p_chosen x p.flags) } : Pic).screen) ((Int.toNat (({ p with flags := (pDraw_J2 p p_chosen x p.flags) } : Pic).line) * 256) + (Int.toNat x)) (pDraw_J6 x ((pPeek ({ p with flags := (pDraw_J2 p p_chosen x p.flags) } : Pic) p_chosen (bOr .u16 16128 (pDraw_J4 p p_chosen x))), (((bAnd .u8 (({ p with flags := (pDraw_J2 p p_chosen x p.flags) } : Pic).mask) 1) : Int) != 0)))) } : Pic)
theorem pDraw_ok (p : Pic) (p_chosen : List Sprite) (x : Int) (w_p : Pic.ok p) (hx : 0 ≤ x) (hx2 : x < 256) (hl : 0 ≤ p.line) (hl2 : p.line < 240) (hL : (List.length p_chosen) ≤ 8) : FnSpec Try.prog 49 1002 [.pointer (some ⟨1000, 0, none⟩), .int .i64 x] [(1000, (Pic.bl p (.slice (some ⟨1001, 0, (some 0)⟩) (List.length p_chosen) 5) false)), (1001, ⟨[rowsL Sprite.cells Sprite.nil 5 p_chosen], 92, false⟩)] (.tuple ⟨[]⟩) [(1000, (Pic.bl (pDraw p p_chosen x) (.slice (some ⟨1001, 0, (some 0)⟩) (List.length p_chosen) 5) false)), (1001, ⟨[rowsL Sprite.cells Sprite.nil 5 p_chosen], 92, false⟩)] := by
  unfold pDraw
  have o1 : 0 ≤ ({ p with flags := (pDraw_J2 p p_chosen x p.flags) } : Pic).line ∧ ({ p with flags := (pDraw_J2 p p_chosen x p.flags) } : Pic).line < ((240 : Nat) : Int) := by first | decide | omega | (simp only [decide_eq_true_eq, decide_eq_false_iff_not, rng, IntKind.wrap_i64, IntKind.wrap_u8, IntKind.wrap_u16] at *; omega)
  have o2 : 0 ≤ x ∧ x < ((256 : Nat) : Int) := by first | decide | omega | (simp only [decide_eq_true_eq, decide_eq_false_iff_not, rng, IntKind.wrap_i64, IntKind.wrap_u8, IntKind.wrap_u16] at *; omega)
  have o3 : ((Int.toNat (({ p with flags := (pDraw_J2 p p_chosen x p.flags) } : Pic).line) * 256) + (Int.toNat x)) < 61440 := by first | decide | omega | (simp only [decide_eq_true_eq, decide_eq_false_iff_not, rng, IntKind.wrap_i64, IntKind.wrap_u8, IntKind.wrap_u16] at *; omega)
  exact fn_of_x hG hM Try.func49 (by kernel_rfl) (by kernel_rfl) 400 [.call [(1000, 1000), (1001, 1001)] [] 1002 (.tuple ⟨[.int .u8 ((pTile p p_chosen x).1), .int .u8 ((pTile p p_chosen x).2)]⟩) [(1000, (Pic.bl p (.slice (some ⟨1001, 0, (some 0)⟩) (List.length p_chosen) 5) false)), (1001, ⟨[rowsL Sprite.cells Sprite.nil 5 p_chosen], 92, false⟩)], .call [(1000, 1000), (1001, 1001)] [] 1002 (.tuple ⟨[.int .u8 ((pSpriteF p p_chosen x).1), Sprite.enc ((pSpriteF p p_chosen x).2)]⟩) [(1000, (Pic.bl p (.slice (some ⟨1001, 0, (some 0)⟩) (List.length p_chosen) 5) false)), (1001, ⟨[rowsL Sprite.cells Sprite.nil 5 p_chosen], 92, false⟩)], .segk 0 2 [0, 1, 4, 5, 6, 7] [1002] .normal (pDraw_J1_T1 p p_chosen x (pDraw_J1 p p_chosen x)) (pDraw_J1_H1 p p_chosen x (pDraw_J1 p p_chosen x)) 1003, .segk 2 0 [0, 1, 4, 5, 6, 7, 35] [1000] .normal (pDraw_J2_T1 p p_chosen x p.flags (pDraw_J2 p p_chosen x p.flags)) (pDraw_J2_H1 p p_chosen x p.flags (pDraw_J2 p p_chosen x p.flags)) 1003, .segk 0 5 [0, 1, 4, 5, 6, 7, 8] [1002] .normal (pDraw_J3_T1 p p_chosen x (pDraw_J3 p p_chosen x)) (pDraw_J3_H1 p p_chosen x (pDraw_J3 p p_chosen x)) 1003, .segk 2 0 [0, 1, 4, 5, 6, 7, 8, 43] [1002] .normal (pDraw_J4_T1 p p_chosen x (pDraw_J4 p p_chosen x)) (pDraw_J4_H1 p p_chosen x (pDraw_J4 p p_chosen x)) 1003, .call [(1000, 1000), (1001, 1001)] [] 1002 (.int .u8 (pPeek ({ p with flags := (pDraw_J2 p p_chosen x p.flags) } : Pic) p_chosen (bOr .u16 16128 (pDraw_J4 p p_chosen x)))) [(1000, (Pic.bl ({ p with flags := (pDraw_J2 p p_chosen x p.flags) } : Pic) (.slice (some ⟨1001, 0, (some 0)⟩) (List.length p_chosen) 5) false)), (1001, ⟨[rowsL Sprite.cells Sprite.nil 5 p_chosen], 92, false⟩)], .segk 2 0 [0, 1, 9, 81] [] .normal (pDraw_J6_T1 x ((pPeek ({ p with flags := (pDraw_J2 p p_chosen x p.flags) } : Pic) p_chosen (bOr .u16 16128 (pDraw_J4 p p_chosen x))), (((bAnd .u8 (({ p with flags := (pDraw_J2 p p_chosen x p.flags) } : Pic).mask) 1) : Int) != 0)) (pDraw_J6 x ((pPeek ({ p with flags := (pDraw_J2 p p_chosen x p.flags) } : Pic) p_chosen (bOr .u16 16128 (pDraw_J4 p p_chosen x))), (((bAnd .u8 (({ p with flags := (pDraw_J2 p p_chosen x p.flags) } : Pic).mask) 1) : Int) != 0)))) (pDraw_J6_H1 x ((pPeek ({ p with flags := (pDraw_J2 p p_chosen x p.flags) } : Pic) p_chosen (bOr .u16 16128 (pDraw_J4 p p_chosen x))), (((bAnd .u8 (({ p with flags := (pDraw_J2 p p_chosen x p.flags) } : Pic).mask) 1) : Int) != 0)) (pDraw_J6 x ((pPeek ({ p with flags := (pDraw_J2 p p_chosen x p.flags) } : Pic) p_chosen (bOr .u16 16128 (pDraw_J4 p p_chosen x))), (((bAnd .u8 (({ p with flags := (pDraw_J2 p p_chosen x p.flags) } : Pic).mask) 1) : Int) != 0)))) 1003, .sym, .eq 94 (.pointer (some ⟨1000, ((Int.toNat (({ p with flags := (pDraw_J2 p p_chosen x p.flags) } : Pic).line) * 256) + (Int.toNat x)), (some 10544)⟩)), .sym] (J (pTile_ok p p_chosen x w_p hx hx2) (J (pSpriteF_ok p p_chosen x hx hx2 hL) (J (pDraw_J1_runs p p_chosen x) (J (pDraw_J2_runs p p_chosen x p.flags) (J (pDraw_J3_runs p p_chosen x) (J (pDraw_J4_runs p p_chosen x) (J (pPeek_ok ({ p with flags := (pDraw_J2 p p_chosen x p.flags) } : Pic) p_chosen (bOr .u16 16128 (pDraw_J4 p p_chosen x))) (J (pDraw_J6_runs x ((pPeek ({ p with flags := (pDraw_J2 p p_chosen x p.flags) } : Pic) p_chosen (bOr .u16 16128 (pDraw_J4 p p_chosen x))), (((bAnd .u8 (({ p with flags := (pDraw_J2 p p_chosen x p.flags) } : Pic).mask) 1) : Int) != 0))) (J o1 (J (at2 1000 (Int.toNat (({ p with flags := (pDraw_J2 p p_chosen x p.flags) } : Pic).line) * 256) (Int.toNat x) (some 10544)) (J o2 (J o3 trivial)))))))))))) (by kernel_rfl)

theorem pDraw_w (p : Pic) (p_chosen : List Sprite) (x : Int) (w_p : Pic.ok p) : Pic.ok (pDraw p p_chosen x) := by
  have wf := pDraw_J2_w p p_chosen x p.flags w_p.flags
  have w2 : Pic.ok ({ p with flags := (pDraw_J2 p p_chosen x p.flags) } : Pic) := ⟨w_p.tiles, w_p.names, w_p.colours, w_p.men, w_p.man, w_p.scroll, w_p.control, w_p.mask, wf, w_p.waits, w_p.bus, w_p.screen⟩
  refine ⟨w_p.tiles, w_p.names, w_p.colours, w_p.men, w_p.man, w_p.scroll, w_p.control, w_p.mask, wf, w_p.waits, w_p.bus, fun j => ?_⟩
  show rng 256 (upd _ _ _ j)
  unfold upd
  cases Nat.beq j _
  · exact w_p.screen j
  · exact pDraw_J6_w x _ (pPeek_w _ p_chosen _ w2 (rng_bOr_u16 16128 (pDraw_J4 p p_chosen x)))
theorem chooseL_w (p : Pic) (w : Pic.ok p) : ∀ (n k : Nat) (L : List Sprite), Pic.ok (chooseL p n k L).2
  | 0, _, L => w
  | n + 1, k, L => by
    unfold chooseL
    split
    · exact chooseL_w p w n _ L
    · split
      · exact chooseL_w p w n _ L
      · split
        · exact ⟨w.tiles, w.names, w.colours, w.men, w.man, w.scroll, w.control, w.mask, rng_bOr_u8 _ _, w.waits, w.bus, w.screen⟩
        · exact chooseL_w p w n _ _
theorem pChoose_w (p : Pic) (p_chosen : List Sprite) (seen : Bool) (w_p : Pic.ok p) : Pic.ok (pChooseF p p_chosen seen).1 := by
  unfold pChooseF
  split
  · exact w_p
  · split
    · exact w_p
    · exact chooseL_w p w_p 64 0 []
theorem line_no241 {x : Int} (h : ((x : Int) == 241) = true) : (decide ((x : Int) < 240)) = false := by
  have : x = 241 := by simpa using h
  subst this; decide
theorem line_no261 {x : Int} (h : ((x : Int) == 261) = true) : (decide ((x : Int) < 240)) = false := by
  have : x = 261 := by simpa using h
  subst this; decide

end Go.Proofs.Ytgnhhnmpeklciaa
