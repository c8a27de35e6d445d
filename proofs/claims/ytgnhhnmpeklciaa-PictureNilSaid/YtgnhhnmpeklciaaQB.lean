/-
  The picture: a dot of a seen line, of a picture of which a part stays as it is. No condition.
-/
import Derived.Test.YtgnhhnmpeklciaaPT
namespace Go.Proofs.Ytgnhhnmpeklciaa
open Go VX
set_option linter.unusedVariables false
set_option linter.unusedSimpArgs false
set_option maxRecDepth 100000

/-- A picture at a dot of its first round, with the memory, sprites and registers of another one. -/
structure St (b p : Pic) (l d : Nat) : Prop where
  tiles : p.tiles = b.tiles
  names : p.names = b.names
  colours : p.colours = b.colours
  men : p.men = b.men
  control : p.control = b.control
  mask : p.mask = b.mask
  upright : p.upright = b.upright
  bus : p.bus = b.bus
  fine : p.scroll.X = 0
  line : p.line = (l : Int)
  dot : p.dot = (d : Int)
  odd : p.odd = false
  ok : Pic.ok p

theorem right_X {s : Scroll} (h : s.X = 0) : (right s).X = 0 := by
  show bAnd .u8 s.X 7 = 0; rw [h]; kernel_rfl
theorem sTop_X {s : Scroll} (h : s.X = 0) : (sTop s).X = 0 := right_X h
theorem sLine_X {s : Scroll} (h : s.X = 0) : (sLine s).X = 0 := right_X h
theorem sRight_X {s : Scroll} (h : s.X = 0) : (sRight s).X = 0 := by
  have r := right_X h
  unfold sRight
  generalize right s = q at r ⊢
  split <;> exact r
theorem sDown_X {s : Scroll} (h : s.X = 0) : (sDown s).X = 0 := by
  have r := right_X h
  unfold sDown
  generalize right s = q at r ⊢
  split
  · exact r
  · split
    · exact r
    · split <;> exact r
theorem move_X {p : Pic} (h : p.scroll.X = 0) : (pMove p []).scroll.X = 0 := by
  have h1 := sTop_X h; have h2 := sLine_X h; have h3 := sDown_X h; have h4 := sRight_X h
  unfold pMove
  generalize sTop p.scroll = q1 at *; generalize sLine p.scroll = q2 at *; generalize sDown p.scroll = q3 at *; generalize sRight p.scroll = q4 at *
  repeat' split
  all_goals assumption
theorem st_move {b p : Pic} {l d : Nat} (h : St b p l d) : St b (kMove p) l d ∧ (kMove p).flags = p.flags ∧ (kMove p).screen = p.screen := by
  have hok : Pic.ok (kMove p) := by
    unfold kMove; split
    · exact pMove_w p [] h.ok
    · exact h.ok
  have hx : (kMove p).scroll.X = 0 := by
    unfold kMove; split
    · exact move_X h.fine
    · exact h.fine
  obtain ⟨s, e⟩ := kMove_ex p
  rw [e] at hok hx ⊢
  exact ⟨⟨h.tiles, h.names, h.colours, h.men, h.control, h.mask, h.upright, h.bus, hx, h.line, h.dot, h.odd, hok⟩, rfl, rfl⟩
theorem st_next {b p : Pic} {l d : Nat} (h : St b p l d) (hl : l < 240) (hd : d < 341) :
    St b (pNext p []) (if d + 1 < 341 then l else l + 1) (if d + 1 < 341 then d + 1 else 0) ∧ (pNext p []).flags = p.flags ∧ (pNext p []).screen = p.screen := by
  have hok := pNext_w p [] h.ok
  have hL := h.line; have hD := h.dot
  rw [pNext_eq p [] (by omega) (by omega) (by omega) (by omega), if_neg (show ¬ (p.line = 261 ∧ _) by omega), if_neg (show ¬ p.line = 261 by omega)] at hok ⊢
  by_cases c : d + 1 < 341
  · rw [if_pos (show p.dot + 1 + 0 < 341 by omega)] at hok ⊢
    rw [if_pos c, if_pos c]
    exact ⟨⟨h.tiles, h.names, h.colours, h.men, h.control, h.mask, h.upright, h.bus, h.fine, h.line, by show p.dot + 1 = _; omega, h.odd, hok⟩, rfl, rfl⟩
  · rw [if_neg (show ¬ p.dot + 1 + 0 < 341 by omega)] at hok ⊢
    rw [if_neg c, if_neg c]
    exact ⟨⟨h.tiles, h.names, h.colours, h.men, h.control, h.mask, h.upright, h.bus, h.fine, by show p.line + 1 = _; omega, rfl, h.odd, hok⟩, rfl, rfl⟩
theorem st_draw {b p : Pic} {l d : Nat} (h : St b p l d) (L : List Sprite) (x : Int) : St b (pDraw p L x) l d :=
  ⟨h.tiles, h.names, h.colours, h.men, h.control, h.mask, h.upright, h.bus, h.fine, h.line, h.dot, h.odd, pDraw_w p L x h.ok⟩
theorem st_choose {b p : Pic} {l d : Nat} (h : St b p l d) (L : List Sprite) (s : Bool) : St b (pChooseF p L s).1 l d ∧ (pChooseF p L s).1.screen = p.screen := by
  have hok := pChoose_w p L s h.ok
  rw [pChooseF_eq] at hok ⊢
  exact ⟨⟨h.tiles, h.names, h.colours, h.men, h.control, h.mask, h.upright, h.bus, h.fine, h.line, h.dot, h.odd, hok⟩, rfl⟩

theorem clock_low {b p : Pic} {l d : Nat} (h : St b p l d) (hl : l < 240) (L : List Sprite) : pClock p L = (pNext (kChoose (kMove (kDraw p L)) L).1 [], (kChoose (kMove (kDraw p L)) L).2) := by
  have hL := h.line
  have hb : kBlank p = p := by unfold kBlank; rw [if_neg (by omega), if_neg (by omega)]
  rw [clock_eq]; unfold kClock; rw [hb, pNext_nil]
theorem clock_draw {b p : Pic} {l d : Nat} (h : St b p l d) (hl : l < 240) (L : List Sprite) (h1 : 1 ≤ d) (h2 : d ≤ 256) :
    (pClock p L).2 = L ∧ St b (pClock p L).1 l (d + 1) ∧ (pClock p L).1.flags = pDraw_J2 p L ((d - 1 : Nat) : Int) p.flags ∧ (pClock p L).1.screen = (pDraw p L ((d - 1 : Nat) : Int)).screen := by
  have hL := h.line; have hD := h.dot
  have e1 : kDraw p L = pDraw p L ((d - 1 : Nat) : Int) := by
    unfold kDraw; rw [if_pos (by omega), hD, i64_in2 (by omega) (by omega)]; congr 1; omega
  have q := st_draw h L ((d - 1 : Nat) : Int)
  obtain ⟨m1, m2, m3⟩ := st_move q
  have e2 : kChoose (kMove (pDraw p L ((d - 1 : Nat) : Int))) L = (kMove (pDraw p L ((d - 1 : Nat) : Int)), L) := by
    unfold kChoose; exact if_neg (by rw [m1.dot]; omega)
  obtain ⟨n1, n2, n3⟩ := st_next m1 hl (by omega)
  rw [clock_low h hl L, e1, e2]
  rw [if_pos (by omega), if_pos (by omega)] at n1
  exact ⟨rfl, n1, by rw [n2, m2]; rfl, by rw [n3, m3]⟩
theorem clock_still {b p : Pic} {l d : Nat} (h : St b p l d) (hl : l < 240) (hd : d < 341) (L : List Sprite) (h1 : d = 0 ∨ 257 < d) :
    (pClock p L).2 = L ∧ St b (pClock p L).1 (if d + 1 < 341 then l else l + 1) (if d + 1 < 341 then d + 1 else 0) ∧ (pClock p L).1.flags = p.flags ∧ (pClock p L).1.screen = p.screen := by
  have hL := h.line; have hD := h.dot
  have e1 : kDraw p L = p := by unfold kDraw; exact if_neg (by omega)
  obtain ⟨m1, m2, m3⟩ := st_move h
  have e2 : kChoose (kMove p) L = (kMove p, L) := by unfold kChoose; exact if_neg (by rw [m1.dot]; omega)
  obtain ⟨n1, n2, n3⟩ := st_next m1 hl hd
  rw [clock_low h hl L, e1, e2]
  exact ⟨rfl, n1, by rw [n2, m2], by rw [n3, m3]⟩
theorem clock_choose {b p : Pic} {l : Nat} (h : St b p l 257) (hl : l < 240) (L : List Sprite) :
    ∃ q, St b q l 257 ∧ q.flags = p.flags ∧ (pClock p L).2 = (pChooseF q L true).2 ∧ St b (pClock p L).1 l 258 ∧ (pClock p L).1.flags = (pChooseF q L true).1.flags ∧ (pClock p L).1.screen = p.screen := by
  have hL := h.line; have hD := h.dot
  have e1 : kDraw p L = p := by unfold kDraw; exact if_neg (by omega)
  obtain ⟨m1, m2, m3⟩ := st_move h
  have e2 : kChoose (kMove p) L = pChooseF (kMove p) L true := by
    unfold kChoose; rw [if_pos (by rw [m1.dot]; rfl), m1.line, show decide (((l : Nat) : Int) < 240) = true from decide_eq_true (by omega)]
  obtain ⟨c1, c2⟩ := st_choose m1 L true
  obtain ⟨n1, n2, n3⟩ := st_next c1 hl (by omega)
  refine ⟨kMove p, m1, m2, ?_⟩
  rw [clock_low h hl L, e1, e2]
  exact ⟨rfl, n1, n2, by rw [n3, c2, m3]⟩
end Go.Proofs.Ytgnhhnmpeklciaa
