/-
  The picture: the sprite at a dot, the sprites of a line, as functions. No condition.
-/
import Derived.Test.YtgnhhnmpeklciaaPE
import Derived.Test.YtgnhhnmpeklciaaVP
namespace Go.Proofs.Ytgnhhnmpeklciaa
open Go VX
set_option linter.unusedVariables false
set_option linter.unusedSimpArgs false
set_option maxRecDepth 100000

/-- A sprite's number at a dot; 0: none. -/
def manAt (s : Sprite) (x : Int) : Int := IntKind.i64.wrap (x - IntKind.i64.wrap s.x)
def manNo (s : Sprite) (x : Int) : Int :=
  if manAt s x < 0 then 0
  else if manAt s x ≥ 8 then 0
  else if (((bAnd .u8 s.look 64) : Int) != 0) = true then two s.low s.high (IntKind.i64.wrap (7 - manAt s x))
  else two s.low s.high (manAt s x)
def noMan : Sprite := ⟨0, 0, 0, 0, false⟩
def findMan (x : Int) : List Sprite → Int × Sprite
  | [] => (0, noMan)
  | s :: r => if manNo s x = 0 then findMan x r else (manNo s x, s)
def pSpriteF (p : Pic) (L : List Sprite) (x : Int) : Int × Sprite :=
  if (((bAnd .u8 p.mask 16) : Int) == 0) = true then (0, noMan)
  else if (decide ((x : Int) < 8)) = true then (if (((bAnd .u8 p.mask 4) : Int) == 0) = true then (0, noMan) else findMan x L)
  else findMan x L

theorem man_loop (p : Pic) (x : Int) (hx : 0 ≤ x) (hx2 : x < 256) (L : List Sprite) (hL : L.length ≤ 1048576) : ∀ (M pre : List Sprite), L = pre ++ M →
    (findMan x M = (0, noMan) ∧ ∃ i, LoopR (wSprite_L1nyn p L x) ((pre.length : Int), 0, noMan) (.inl (i, 0, noMan))) ∨
    (∃ i, LoopR (wSprite_L1nyn p L x) ((pre.length : Int), 0, noMan) (.inr (i, (findMan x M).1, (findMan x M).2)))
  | [], pre, h => by
    refine .inl ⟨rfl, (pre.length : Int), .last (.p7 (decide_eq_false ?_))⟩
    rw [h]; simp
  | s :: r, pre, h => by
    have hlen : L.length = pre.length + (r.length + 1) := by rw [h]; simp
    have hg : List.getD L (Int.toNat (pre.length : Int)) Sprite.nil = s := by rw [h, Int.toNat_natCast]; simp
    have hd : (decide (((pre.length : Int) : Int) < (((List.length L) : Nat) : Int))) = true := decide_eq_true (by omega)
    have h0 : 0 ≤ (pre.length : Int) := by omega
    have hw : IntKind.i64.wrap ((pre.length : Int) + 1) = (((pre ++ [s]).length : Nat) : Int) := by rw [IntKind.wrap_i64, List.length_append]; simp only [List.length_cons, List.length_nil]; omega
    have ih := man_loop p x hx hx2 L hL r (pre ++ [s]) (by rw [h]; simp)
    have go : ∀ (st : wSprite_L1nyn p L x ((pre.length : Int), 0, noMan) (.inl ((((pre ++ [s]).length : Nat) : Int), 0, noMan))), manNo s x = 0 →
        (findMan x (s :: r) = (0, noMan) ∧ ∃ i, LoopR (wSprite_L1nyn p L x) ((pre.length : Int), 0, noMan) (.inl (i, 0, noMan))) ∨
        (∃ i, LoopR (wSprite_L1nyn p L x) ((pre.length : Int), 0, noMan) (.inr (i, (findMan x (s :: r)).1, (findMan x (s :: r)).2))) := by
      intro st hm
      simp only [findMan, if_pos hm]
      rcases ih with ⟨e, i, t⟩ | ⟨i, t⟩
      · exact .inl ⟨e, i, .more st t⟩
      · exact .inr ⟨i, .more st t⟩
    by_cases c1 : manAt s x < 0
    · refine go ?_ (by unfold manNo; rw [if_pos c1])
      have := wSprite_L1nyn.p1 (p := p) (p_chosen := L) (x := x) (xd := ((pre.length : Int), 0, noMan)) hd h0 (by simp only [hg]; exact decide_eq_true c1)
      simp only [hw] at this; exact this
    by_cases c2 : manAt s x ≥ 8
    · refine go ?_ (by unfold manNo; rw [if_neg c1, if_pos c2])
      have := wSprite_L1nyn.p2 (p := p) (p_chosen := L) (x := x) (xd := ((pre.length : Int), 0, noMan)) hd h0 (by simp only [hg]; exact decide_eq_false c1) (by simp only [hg]; exact decide_eq_true c2)
      simp only [hw] at this; exact this
    cases c3 : (((bAnd .u8 s.look 64) : Int) != 0) with
    | true =>
      have e : manNo s x = two s.low s.high (IntKind.i64.wrap (7 - manAt s x)) := by unfold manNo; rw [if_neg c1, if_neg c2, if_pos c3]
      have w2 : 0 ≤ IntKind.i64.wrap (7 - manAt s x) := by rw [IntKind.wrap_i64]; omega
      by_cases c4 : manNo s x = 0
      · refine go ?_ c4
        have := wSprite_L1nyn.p4 (p := p) (p_chosen := L) (x := x) (xd := ((pre.length : Int), 0, noMan)) hd h0 (by simp only [hg]; exact decide_eq_false c1) (by simp only [hg]; exact decide_eq_false c2) (by simp only [hg]; exact c3) (by simp only [hg]; exact w2) (by simp only [hg]; show (two s.low s.high (IntKind.i64.wrap (7 - manAt s x)) != 0) = false; rw [← e, c4]; rfl)
        simp only [hw] at this; exact this
      · refine .inr ⟨(pre.length : Int), .last ?_⟩
        have := wSprite_L1nyn.p3 (p := p) (p_chosen := L) (x := x) (xd := ((pre.length : Int), 0, noMan)) hd h0 (by simp only [hg]; exact decide_eq_false c1) (by simp only [hg]; exact decide_eq_false c2) (by simp only [hg]; exact c3) (by simp only [hg]; exact w2) (by simp only [hg]; show (two s.low s.high (IntKind.i64.wrap (7 - manAt s x)) != 0) = true; rw [← e]; simpa using c4)
        simp only [hg] at this
        simp only [findMan, if_neg c4]
        rw [e]; exact this
    | false =>
      have e : manNo s x = two s.low s.high (manAt s x) := by unfold manNo; rw [if_neg c1, if_neg c2, if_neg (by rw [c3]; decide)]
      have w2 : 0 ≤ manAt s x := by omega
      by_cases c4 : manNo s x = 0
      · refine go ?_ c4
        have := wSprite_L1nyn.p6 (p := p) (p_chosen := L) (x := x) (xd := ((pre.length : Int), 0, noMan)) hd h0 (by simp only [hg]; exact decide_eq_false c1) (by simp only [hg]; exact decide_eq_false c2) (by simp only [hg]; exact c3) (by simp only [hg]; exact w2) (by simp only [hg]; show (two s.low s.high (manAt s x) != 0) = false; rw [← e, c4]; rfl)
        simp only [hw] at this; exact this
      · refine .inr ⟨(pre.length : Int), .last ?_⟩
        have := wSprite_L1nyn.p5 (p := p) (p_chosen := L) (x := x) (xd := ((pre.length : Int), 0, noMan)) hd h0 (by simp only [hg]; exact decide_eq_false c1) (by simp only [hg]; exact decide_eq_false c2) (by simp only [hg]; exact c3) (by simp only [hg]; exact w2) (by simp only [hg]; show (two s.low s.high (manAt s x) != 0) = true; rw [← e]; simpa using c4)
        simp only [hg] at this
        simp only [findMan, if_neg c4]
        rw [e]; exact this

/-- The sprites of a line. -/
def chooseL (p : Pic) : Nat → Nat → List Sprite → List Sprite × Pic
  | 0, _, L => (L, p)
  | n + 1, k, L =>
    if IntKind.i64.wrap (p.line - IntKind.i64.wrap (p.men k)) < 0 then chooseL p n (k + 4) L
    else if IntKind.i64.wrap (p.line - IntKind.i64.wrap (p.men k)) ≥ pHeight p L then chooseL p n (k + 4) L
    else if L.length = 8 then (L, { p with flags := (bOr .u8 p.flags 32) })
    else chooseL p n (k + 4) (L ++ [pFetch p L (k : Int) (IntKind.i64.wrap (p.line - IntKind.i64.wrap (p.men k)))])
def pChooseF (p : Pic) (L : List Sprite) (seen : Bool) : Pic × List Sprite :=
  if (!seen) = true then (p, [])
  else if (!(pShows p ([] : List Sprite))) = true then (p, [])
  else ((chooseL p 64 0 []).2, (chooseL p 64 0 []).1)

theorem choose_loop (p : Pic) (seen : Bool) (wp : Pic.ok p) : ∀ (n k : Nat) (L : List Sprite), k + 4 * n = 256 → L.length ≤ 8 →
    ∃ i, LoopR (wChoose_L1nn p seen) (L, (k : Int), p) (.inl ((chooseL p n k L).1, i, (chooseL p n k L).2)) ∨ LoopR (wChoose_L1nn p seen) (L, (k : Int), p) (.inr ((chooseL p n k L).1, i, (chooseL p n k L).2))
  | 0, k, L, hk, hL => ⟨(k : Int), .inl (.last (.p5 (decide_eq_false (by show ¬ ((k : Int) < 256); omega))))⟩
  | n + 1, k, L, hk, hL => by
    have hd : (decide (((k : Int) : Int) < 256)) = true := decide_eq_true (by omega)
    have h0 : 0 ≤ (k : Int) := by omega
    have hw : IntKind.i64.wrap ((k : Int) + 4) = ((k + 4 : Nat) : Int) := by rw [IntKind.wrap_i64]; omega
    have hk' : Int.toNat (k : Int) = k := Int.toNat_natCast k
    have more : ∀ (L' : List Sprite), wChoose_L1nn p seen (L, (k : Int), p) (.inl (L', ((k + 4 : Nat) : Int), p)) → L'.length ≤ 8 →
        ∃ i, LoopR (wChoose_L1nn p seen) (L, (k : Int), p) (.inl ((chooseL p n (k + 4) L').1, i, (chooseL p n (k + 4) L').2)) ∨ LoopR (wChoose_L1nn p seen) (L, (k : Int), p) (.inr ((chooseL p n (k + 4) L').1, i, (chooseL p n (k + 4) L').2)) := by
      intro L' st hl
      obtain ⟨i, t | t⟩ := choose_loop p seen wp n (k + 4) L' (by omega) hl
      · exact ⟨i, .inl (.more st t)⟩
      · exact ⟨i, .inr (.more st t)⟩
    generalize hrow : IntKind.i64.wrap (p.line - IntKind.i64.wrap (p.men k)) = row
    by_cases c1 : row < 0
    · have e : chooseL p (n + 1) k L = chooseL p n (k + 4) L := by simp only [chooseL, hrow, if_pos c1]
      rw [e]
      refine more L ?_ hL
      have := wChoose_L1nn.p1 (p := p) (seen := seen) (xd := (L, (k : Int), p)) hd h0 (by simp only [hk', hrow]; exact decide_eq_true c1)
      simp only [hw] at this; exact this
    by_cases c2 : row ≥ pHeight p L
    · have e : chooseL p (n + 1) k L = chooseL p n (k + 4) L := by simp only [chooseL, hrow, if_neg c1, if_pos c2]
      rw [e]
      refine more L ?_ hL
      have := wChoose_L1nn.p2 (p := p) (seen := seen) (xd := (L, (k : Int), p)) hd h0 (by simp only [hk', hrow]; exact decide_eq_false c1) (by simp only [hk', hrow]; exact decide_eq_true c2)
      simp only [hw] at this; exact this
    by_cases c3 : L.length = 8
    · have e : chooseL p (n + 1) k L = (L, { p with flags := (bOr .u8 p.flags 32) }) := by simp only [chooseL, hrow, if_neg c1, if_neg c2, if_pos c3]
      rw [e]
      exact ⟨(k : Int), .inr (.last (.p3 hd h0 (by simp only [hk', hrow]; exact decide_eq_false c1) (by simp only [hk', hrow]; exact decide_eq_false c2) (by simp only [c3]; rfl)))⟩
    · have e : chooseL p (n + 1) k L = chooseL p n (k + 4) (L ++ [pFetch p L (k : Int) row]) := by simp only [chooseL, hrow, if_neg c1, if_neg c2, if_neg c3]
      rw [e]
      refine more _ ?_ (by rw [List.length_append]; simp only [List.length_cons, List.length_nil]; omega)
      have := wChoose_L1nn.p4 (p := p) (seen := seen) (xd := (L, (k : Int), p)) hd h0 (by simp only [hk', hrow]; exact decide_eq_false c1) (by simp only [hk', hrow]; exact decide_eq_false c2) (by simp only [beq_eq_false_iff_ne]; omega) wp (by show (k : Int) < 253; omega) (by simp only [hk', hrow]; omega) (by simp only [hk', hrow]; omega) (by show L.length + 1 ≤ _; omega)
      simp only [hw, hk', hrow] at this; exact this
end Go.Proofs.Ytgnhhnmpeklciaa
