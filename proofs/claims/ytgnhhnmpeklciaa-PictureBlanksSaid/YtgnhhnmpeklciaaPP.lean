/-
  The picture: one whose mask is 0: what a dot does to its line, dot, frames and flags. No condition.
-/
import Derived.Test.YtgnhhnmpeklciaaPM
namespace Go.Proofs.Ytgnhhnmpeklciaa
open Go VX
set_option linter.unusedVariables false
set_option linter.unusedSimpArgs false
set_option maxRecDepth 100000

structure Qt (p : Pic) (L : List Sprite) (l d fr fl c : Int) : Prop where
  nil : L = []
  line : p.line = l
  dot : p.dot = d
  frames : p.frames = fr
  flags : p.flags = fl
  control : p.control = c
  mask : p.mask = 0
  odd : p.odd = false
  ok : Pic.ok p

theorem shows_Q {p : Pic} (h : p.mask = 0) (L : List Sprite) : pShows p L = false := by
  unfold pShows; rw [h]; kernel_rfl
theorem tile_Q {p : Pic} (h : p.mask = 0) (L : List Sprite) (x : Int) : pTile p L x = (0, 0) := by
  unfold pTile; rw [h, if_pos m8]
theorem j2_Q {p : Pic} (h : p.mask = 0) (L : List Sprite) (x f : Int) : pDraw_J2 p L x f = f := by
  have j1 : pDraw_J1 p L x = false := by unfold pDraw_J1; rw [tile_Q h]; rfl
  unfold pDraw_J2; rw [j1]; rfl
theorem choose_Q {p : Pic} (h : p.mask = 0) (seen : Bool) : pChooseF p [] seen = (p, []) := by
  unfold pChooseF; rw [shows_Q h]; cases seen <;> rfl
theorem draw_Q {p : Pic} {l d fr fl c : Int} (h : Qt p [] l d fr fl c) (x : Int) : Qt (pDraw p [] x) [] l d fr fl c :=
  ⟨rfl, h.line, h.dot, h.frames, by show pDraw_J2 p [] x p.flags = fl; rw [j2_Q h.mask, h.flags], h.control, h.mask, h.odd, pDraw_w p [] x h.ok⟩
theorem next_Q {p : Pic} {l d fr fl c : Int} (h : Qt p [] l d fr fl c) (hl : 0 ≤ l) (hd : 0 ≤ d) (hh : (l < 261 ∧ d < 341) ∨ (l = 261 ∧ d < 100)) :
    Qt (pNext p []) [] (if d + 1 < 341 then l else l + 1) (if d + 1 < 341 then d + 1 else 0) fr fl c := by
  have hok := pNext_w p [] h.ok
  have e1 : IntKind.i64.wrap (p.dot + 1) = d + 1 := by rw [h.dot]; exact i64_in2 (by omega) (by omega)
  have e2 : IntKind.i64.wrap (l + 1) = l + 1 := i64_in2 (by omega) (by omega)
  have key : pNext p [] = if d + 1 < 341 then { p with dot := d + 1 } else { p with line := l + 1, dot := 0 } := by
    unfold pNext
    simp only [e1, h.line, h.odd, e2]
    by_cases hc : d + 1 < 341
    · rw [if_pos hc]
      have hd1 : (decide ((d + 1 : Int) < 341)) = true := decide_eq_true hc
      simp only [hd1, if_true]
      repeat' split
      all_goals first | rfl | contradiction
    · have hd1 : (decide ((d + 1 : Int) < 341)) = false := decide_eq_false hc
      have hne : ¬ ((l : Int) == 261) = true := by simp; omega
      have hne2 : ¬ ((l + 1 : Int) == 262) = true := by simp; omega
      rw [if_neg hc, if_neg hne, if_neg (by rw [hd1]; decide), if_neg hne2]
  rw [key] at hok ⊢
  by_cases hc : d + 1 < 341
  · simp only [if_pos hc] at hok ⊢
    exact ⟨rfl, h.line, rfl, h.frames, h.flags, h.control, h.mask, h.odd, hok⟩
  · simp only [if_neg hc] at hok ⊢
    exact ⟨rfl, rfl, rfl, h.frames, h.flags, h.control, h.mask, h.odd, hok⟩

theorem flag_Q {p : Pic} {l d fr fl c fr' fl' : Int} (h : Qt p [] l d fr fl c) (w : rng 256 fl') : Qt ({ p with flags := fl', frames := fr' } : Pic) [] l d fr' fl' c :=
  ⟨rfl, h.line, h.dot, rfl, rfl, h.control, h.mask, h.odd, ⟨h.ok.tiles, h.ok.names, h.ok.colours, h.ok.men, h.ok.man, h.ok.scroll, h.ok.control, h.ok.mask, w, h.ok.waits, h.ok.bus, h.ok.screen⟩⟩
theorem clock_Q {p : Pic} {l d fr fl c : Int} (h : Qt p [] l d fr fl c) (hl : 0 ≤ l) (hd : 0 ≤ d) (hf : 0 ≤ fr ∧ fr < 900000) (hh : (l < 261 ∧ d < 341) ∨ (l = 261 ∧ d < 100)) :
    Qt (pClock p []).1 (pClock p []).2 (if d + 1 < 341 then l else l + 1) (if d + 1 < 341 then d + 1 else 0) (if l = 241 ∧ d = 1 then fr + 1 else fr) (if l = 241 ∧ d = 1 then bOr .u8 fl 128 else if l = 261 ∧ d = 1 then 0 else fl) c := by
  have hs := fun L => shows_Q h.mask L
  have e1 : IntKind.i64.wrap (p.frames + 1) = fr + 1 := by rw [h.frames]; exact i64_in2 (by omega) (by omega)
  by_cases a1 : l = 241 ∧ d = 1
  · have q := flag_Q (fr' := fr + 1) (fl' := bOr .u8 fl 128) h (rng_bOr_u8 _ _)
    have n := next_Q q hl hd hh
    have e : pClock p [] = (pNext ({ p with flags := bOr .u8 fl 128, frames := fr + 1 } : Pic) [], []) := by
      unfold pClock
      rw [if_pos (by rw [h.line, a1.1]; rfl), if_pos (by rw [h.dot, a1.2]; rfl), e1, h.flags]
      split <;> rfl
    rw [e, if_pos a1, if_pos a1]; exact n
  · rw [if_neg a1, if_neg a1]
    by_cases a2 : l = 261 ∧ d = 1
    · have q := flag_Q (fr' := fr) (fl' := 0) h (by decide)
      have n := next_Q q hl hd hh
      have e : pClock p [] = (pNext ({ p with flags := 0 } : Pic) [], []) := by
        unfold pClock
        rw [if_neg (by rw [h.line, a2.1]; decide), if_pos (by rw [h.line, a2.1]; rfl), if_pos (by rw [h.dot, a2.2]; rfl), if_neg (by rw [shows_Q (p := ({ p with flags := 0 } : Pic)) h.mask]; decide)]
      have e3 : ({ p with flags := 0 } : Pic) = ({ p with flags := 0, frames := fr } : Pic) := by rw [← h.frames]
      rw [e, if_pos a2, e3]; exact n
    · rw [if_neg a2]
      by_cases a3 : l < 240 ∧ 1 ≤ d ∧ d ≤ 256
      · have q := draw_Q h (IntKind.i64.wrap (p.dot - 1))
        have n := next_Q q hl hd hh
        have e : pClock p [] = (pNext (pDraw p [] (IntKind.i64.wrap (p.dot - 1))) [], []) := by
          unfold pClock
          rw [if_neg (by rw [h.line]; simp; omega), if_neg (by rw [h.line]; simp; omega), if_pos (by rw [h.line]; exact decide_eq_true a3.1), if_pos (by rw [h.dot]; exact decide_eq_true a3.2.1), if_pos (by rw [h.dot]; exact decide_eq_true a3.2.2),
            if_neg (by rw [shows_Q q.mask]; decide), if_neg (by rw [q.dot]; simp; omega)]
        rw [e]; exact n
      · have n := next_Q h hl hd hh
        have e : pClock p [] = (pNext p [], []) := by
          unfold pClock
          simp only [hs, choose_Q h.mask, h.line, h.dot, Bool.false_eq_true, if_false, ite_self]
          repeat' split
          all_goals first | rfl | (exfalso; simp only [beq_iff_eq, decide_eq_true_eq] at *; omega)
        rw [e]; exact n
end Go.Proofs.Ytgnhhnmpeklciaa
