/-
  The picture: one that shows nothing. No condition.
-/
import Derived.Test.YtgnhhnmpeklciaaPI
import Derived.Test.YtgnhhnmpeklciaaPK
namespace Go.Proofs.Ytgnhhnmpeklciaa
open Go VX
set_option linter.unusedVariables false
set_option linter.unusedSimpArgs false
set_option maxRecDepth 100000

/-- A picture that shows nothing, at a dot. -/
def picS (l d : Int) (fr fl : Int) : Pic := { picZero with line := l, dot := d, frames := fr, flags := fl }
theorem m8 : ((bAnd .u8 0 8 : Int) == 0) = true := by kernel_rfl
theorem m16 : ((bAnd .u8 0 16 : Int) == 0) = true := by kernel_rfl
theorem shows_S (l d fr fl : Int) (L : List Sprite) : pShows (picS l d fr fl) L = false := by
  show (bAnd .u8 0 24 != 0) = false
  kernel_rfl
theorem upd_zero (k : Nat) : upd (fun _ => (0 : Int)) k 0 = fun _ => 0 := by
  funext j; unfold upd; cases Nat.beq j k <;> rfl
theorem tile_S (l d fr fl : Int) (L : List Sprite) (x : Int) : pTile (picS l d fr fl) L x = (0, 0) := by
  unfold pTile; rw [if_pos (show ((bAnd .u8 (picS l d fr fl).mask 8 : Int) == 0) = true from m8)]
theorem sprite_S (l d fr fl : Int) (L : List Sprite) (x : Int) : pSpriteF (picS l d fr fl) L x = (0, noMan) := by
  unfold pSpriteF; rw [if_pos (show ((bAnd .u8 (picS l d fr fl).mask 16 : Int) == 0) = true from m16)]
theorem peek_S (l d fr fl : Int) (L : List Sprite) (a : Int) : pPeek (picS l d fr fl) L a = 0 := by
  unfold pPeek; repeat' split
  all_goals rfl
theorem draw_S (l d fr fl : Int) (L : List Sprite) (x : Int) : pDraw (picS l d fr fl) L x = picS l d fr fl := by
  have j1 : pDraw_J1 (picS l d fr fl) L x = false := by unfold pDraw_J1; rw [tile_S]; rfl
  have j2 : pDraw_J2 (picS l d fr fl) L x (picS l d fr fl).flags = fl := by unfold pDraw_J2; rw [j1]; rfl
  have e : ({ (picS l d fr fl) with flags := pDraw_J2 (picS l d fr fl) L x (picS l d fr fl).flags } : Pic) = picS l d fr fl := by rw [j2]; rfl
  have j6 : ∀ b : Bool, pDraw_J6 x (0, b) = 0 := by intro b; unfold pDraw_J6; cases b <;> rfl
  unfold pDraw
  simp only [e, peek_S, j6]
  rw [j2, show (picS l d fr fl).screen = fun _ => 0 from rfl, upd_zero]; rfl
theorem choose_S (l d fr fl : Int) (seen : Bool) : pChooseF (picS l d fr fl) [] seen = (picS l d fr fl, []) := by
  unfold pChooseF; rw [shows_S]; cases seen <;> rfl
theorem i64_in2 {x : Int} (h0 : 0 ≤ x) (h : x < 1000000) : IntKind.i64.wrap x = x := by rw [IntKind.wrap_i64]; omega
theorem next_S (l d fr fl : Int) (hl : 0 ≤ l) (hl2 : l < 261) (hd : 0 ≤ d) (hd2 : d < 341) : pNext (picS l d fr fl) [] = if d + 1 < 341 then picS l (d + 1) fr fl else picS (l + 1) 0 fr fl := by
  have e1 : IntKind.i64.wrap ((picS l d fr fl).dot + 1) = d + 1 := i64_in2 (by show 0 ≤ d + 1; omega) (by show d + 1 < _; omega)
  have e2 : IntKind.i64.wrap ((picS l d fr fl).line + 1) = l + 1 := i64_in2 (by show 0 ≤ l + 1; omega) (by show l + 1 < _; omega)
  unfold pNext
  rw [if_neg (show ¬ (((picS l d fr fl).line : Int) == 261) = true by show ¬ ((l : Int) == 261) = true; simp; omega)]
  simp only [e1, e2]
  by_cases h : d + 1 < 341
  · rw [if_pos (decide_eq_true h), if_pos h]; rfl
  · rw [if_neg (by simpa using h), if_neg h, if_neg (show ¬ ((l + 1 : Int) == 262) = true by simp; omega)]; rfl
/-- What a dot does. -/
theorem clock_S (l d fr fl : Int) (hl : 0 ≤ l) (hl2 : l < 261) (hd : 0 ≤ d) (hd2 : d < 341) (h : ¬ (l = 241 ∧ d = 1)) : pClock (picS l d fr fl) [] = (if d + 1 < 341 then picS l (d + 1) fr fl else picS (l + 1) 0 fr fl, []) := by
  have hs := shows_S l d fr fl []
  have hn := next_S l d fr fl hl hl2 hd hd2
  have hline : (picS l d fr fl).line = l := rfl
  have hdot : (picS l d fr fl).dot = d := rfl
  have h261 : ¬ ((l : Int) == 261) = true := by simp; omega
  unfold pClock
  simp only [draw_S, hs, choose_S, hline, hdot, hn, h261, if_false, Bool.false_eq_true]
  by_cases h241 : l = 241
  · have h1 : ¬ ((d : Int) == 1) = true := by simp; omega
    simp [h241, h1]
  · simp [h241]
end Go.Proofs.Ytgnhhnmpeklciaa
