/-
  The picture: what a dot does, in the order of its parts, and what each part leaves. No condition.
-/
import Derived.Test.YtgnhhnmpeklciaaPM
namespace Go.Proofs.Ytgnhhnmpeklciaa
open Go VX
set_option linter.unusedVariables false
set_option linter.unusedSimpArgs false
set_option maxRecDepth 100000

/-- The beginning of a dot: blank, or no longer. -/
def kBlank (p : Pic) : Pic :=
  if p.line = 241 ∧ p.dot = 1 then { p with flags := bOr .u8 p.flags 128, frames := IntKind.i64.wrap (p.frames + 1) }
  else if p.line = 261 ∧ p.dot = 1 then { p with flags := 0 } else p
def kDraw (p : Pic) (L : List Sprite) : Pic := if p.line < 240 ∧ 1 ≤ p.dot ∧ p.dot ≤ 256 then pDraw p L (IntKind.i64.wrap (p.dot - 1)) else p
def kMove (p : Pic) : Pic := if ((bAnd .u8 p.mask 24 : Int) != 0) = true ∧ (p.line < 240 ∨ p.line = 261) then pMove p [] else p
def kChoose (p : Pic) (L : List Sprite) : Pic × List Sprite := if p.dot = 257 then pChooseF p L (decide (p.line < 240)) else (p, L)
def kClock (p : Pic) (L : List Sprite) : Pic × List Sprite :=
  (pNext (kChoose (kMove (kDraw (kBlank p) L)) L).1 (kChoose (kMove (kDraw (kBlank p) L)) L).2, (kChoose (kMove (kDraw (kBlank p) L)) L).2)

theorem pMove_eq (p : Pic) (L : List Sprite) : pMove p L = { p with scroll := (pMove p L).scroll } := by
  unfold pMove; repeat' split
  all_goals rfl
theorem pMove_nil (p : Pic) (L : List Sprite) : pMove p L = pMove p [] := rfl
theorem kMove_eq (p : Pic) : kMove p = { p with scroll := (kMove p).scroll } := by
  unfold kMove; split
  · exact pMove_eq _ _
  · rfl
theorem kDraw_eq (p : Pic) (L : List Sprite) : kDraw p L = { p with flags := (kDraw p L).flags, screen := (kDraw p L).screen } := by
  unfold kDraw; split
  · rfl
  · rfl
theorem chooseL_eq (p : Pic) : ∀ (n k : Nat) (L : List Sprite), (chooseL p n k L).2 = { p with flags := (chooseL p n k L).2.flags }
  | 0, _, _ => rfl
  | n + 1, k, L => by
    unfold chooseL
    split
    · exact chooseL_eq p n _ L
    · split
      · exact chooseL_eq p n _ L
      · split
        · rfl
        · exact chooseL_eq p n _ _
theorem pChooseF_eq (p : Pic) (L : List Sprite) (b : Bool) : (pChooseF p L b).1 = { p with flags := (pChooseF p L b).1.flags } := by
  unfold pChooseF; repeat' split
  · rfl
  · rfl
  · exact chooseL_eq p _ _ _
theorem kChoose_eq (p : Pic) (L : List Sprite) : (kChoose p L).1 = { p with flags := (kChoose p L).1.flags } := by
  unfold kChoose; split
  · exact pChooseF_eq _ _ _
  · rfl
theorem mask_shows (p : Pic) (L : List Sprite) : pShows p L = ((bAnd .u8 p.mask 24 : Int) != 0) := rfl
theorem pNext_nil (p : Pic) (L : List Sprite) : pNext p L = pNext p [] := rfl
theorem pMove_dot (p : Pic) (L : List Sprite) : (pMove p L).dot = p.dot := by rw [pMove_eq]
theorem pMove_line (p : Pic) (L : List Sprite) : (pMove p L).line = p.line := by rw [pMove_eq]

/-- A dot of the clock is its parts, one behind the other. -/
theorem clock_eq (p : Pic) (L : List Sprite) : pClock p L = kClock p L := by
  by_cases a1 : p.line = 241 ∧ p.dot = 1
  · have e : pClock p L = (pNext ({ p with flags := (bOr .u8 p.flags 128), frames := (IntKind.i64.wrap (p.frames + 1)) } : Pic) L, L) := by
      unfold pClock
      rw [if_pos (by rw [a1.1]; rfl), if_pos (by rw [a1.2]; rfl)]
      split <;> rfl
    rw [e]
    unfold kClock kBlank
    simp only [if_pos a1]
    have d1 : kDraw ({ p with flags := (bOr .u8 p.flags 128), frames := (IntKind.i64.wrap (p.frames + 1)) } : Pic) L = ({ p with flags := (bOr .u8 p.flags 128), frames := (IntKind.i64.wrap (p.frames + 1)) } : Pic) := by
      unfold kDraw; exact if_neg (by show ¬ (p.line < 240 ∧ _); omega)
    have d2 : kMove ({ p with flags := (bOr .u8 p.flags 128), frames := (IntKind.i64.wrap (p.frames + 1)) } : Pic) = ({ p with flags := (bOr .u8 p.flags 128), frames := (IntKind.i64.wrap (p.frames + 1)) } : Pic) := by
      unfold kMove; exact if_neg (by show ¬ (_ ∧ (p.line < 240 ∨ p.line = 261)); omega)
    have d3 : kChoose ({ p with flags := (bOr .u8 p.flags 128), frames := (IntKind.i64.wrap (p.frames + 1)) } : Pic) L = (({ p with flags := (bOr .u8 p.flags 128), frames := (IntKind.i64.wrap (p.frames + 1)) } : Pic), L) := by
      unfold kChoose; exact if_neg (by show ¬ (p.dot = 257); omega)
    rw [d1, d2, d3]
  · by_cases a2 : p.line = 261 ∧ p.dot = 1
    · have hb : kBlank p = ({ p with flags := 0 } : Pic) := by unfold kBlank; rw [if_neg a1, if_pos a2]
      have d1 : kDraw ({ p with flags := 0 } : Pic) L = ({ p with flags := 0 } : Pic) := by unfold kDraw; exact if_neg (by show ¬ (p.line < 240 ∧ _); omega)
      have d3 : ∀ q : Pic, q.dot = p.dot → kChoose q L = (q, L) := by intro q h; unfold kChoose; exact if_neg (by omega)
      unfold kClock
      rw [hb, d1, d3 _ (by rw [kMove_eq])]
      unfold pClock
      rw [if_neg (by rw [a2.1]; decide), if_pos (by rw [a2.1]; rfl), if_pos (by rw [a2.2]; rfl)]
      by_cases hs : ((bAnd .u8 p.mask 24 : Int) != 0) = true
      · have : kMove ({ p with flags := 0 } : Pic) = pMove ({ p with flags := 0 } : Pic) L := by unfold kMove; rw [if_pos ⟨hs, .inr a2.1⟩]; rfl
        rw [if_pos (show pShows ({ p with flags := 0 } : Pic) L = true from hs), if_neg (by rw [pMove_dot]; show ¬ (p.dot == 257) = true; rw [a2.2]; decide), this]
      · have : kMove ({ p with flags := 0 } : Pic) = ({ p with flags := 0 } : Pic) := by unfold kMove; exact if_neg (fun h => hs h.1)
        rw [if_neg (show ¬ pShows ({ p with flags := 0 } : Pic) L = true from hs), this]
    · have hb : kBlank p = p := by unfold kBlank; rw [if_neg a1, if_neg a2]
      unfold kClock
      rw [hb]
      by_cases a3 : p.line < 240 ∧ 1 ≤ p.dot ∧ p.dot ≤ 256
      · have d1 : kDraw p L = pDraw p L (IntKind.i64.wrap (p.dot - 1)) := if_pos a3
        have d3 : ∀ q : Pic, q.dot = p.dot → kChoose q L = (q, L) := by intro q h; unfold kChoose; exact if_neg (by omega)
        have dd : (pDraw p L (IntKind.i64.wrap (p.dot - 1))).dot = p.dot := rfl
        have dl : (pDraw p L (IntKind.i64.wrap (p.dot - 1))).line = p.line := rfl
        have dm : (pDraw p L (IntKind.i64.wrap (p.dot - 1))).mask = p.mask := rfl
        rw [d1, d3 _ (by rw [kMove_eq]; exact dd)]
        unfold pClock
        rw [if_neg (by simp; omega), if_neg (by simp; omega), if_pos (by simp; omega), if_pos (by simp; omega), if_pos (by simp; omega)]
        by_cases hs : ((bAnd .u8 p.mask 24 : Int) != 0) = true
        · have : kMove (pDraw p L (IntKind.i64.wrap (p.dot - 1))) = pMove (pDraw p L (IntKind.i64.wrap (p.dot - 1))) L := by unfold kMove; rw [if_pos ⟨hs, .inl a3.1⟩]; rfl
          rw [if_pos (show pShows (pDraw p L (IntKind.i64.wrap (p.dot - 1))) L = true from hs), if_neg (by rw [pMove_dot, dd]; simp; omega), this]
        · have : kMove (pDraw p L (IntKind.i64.wrap (p.dot - 1))) = pDraw p L (IntKind.i64.wrap (p.dot - 1)) := by unfold kMove; exact if_neg (fun h => hs h.1)
          rw [if_neg (show ¬ pShows (pDraw p L (IntKind.i64.wrap (p.dot - 1))) L = true from hs), if_neg (by rw [dd]; simp; omega), this]
      · have d1 : kDraw p L = p := if_neg a3
        rw [d1]
        by_cases hs : ((bAnd .u8 p.mask 24 : Int) != 0) = true
        · by_cases hl : p.line < 240 ∨ p.line = 261
          · have hm : kMove p = pMove p L := by unfold kMove; rw [if_pos ⟨hs, hl⟩]; rfl
            rw [hm]
            unfold pClock kChoose
            simp only [pMove_dot, pMove_line, mask_shows, hs]
            by_cases h257 : p.dot = 257
            · simp only [h257]
              rcases hl with h | h
              · have n1 : ¬ p.line = 241 := by omega
                have n2 : ¬ p.line = 261 := by omega
                simp [n1, n2, h]
              · simp [h]
            · simp only [if_neg h257]
              rcases hl with h | h
              · have n1 : ¬ p.line = 241 := by omega
                have n2 : ¬ p.line = 261 := by omega
                by_cases e1 : p.dot ≥ 1
                · have e2 : ¬ p.dot ≤ 256 := by omega
                  simp [n1, n2, h, e1, e2, h257]
                · simp [n1, n2, h, e1, h257]
              · have n3 : ¬ p.dot = 1 := by omega
                simp [h, n3, h257]
          · have hm : kMove p = p := by unfold kMove; exact if_neg (fun h => hl h.2)
            rw [hm]
            unfold pClock kChoose
            simp only [mask_shows, hs]
            have n1 : ¬ p.line < 240 := by omega
            have n2 : ¬ p.line = 261 := by omega
            by_cases h257 : p.dot = 257
            · simp [n1, n2, h257]
            · by_cases e : p.line = 241
              · have e2 : ¬ p.dot = 1 := by omega
                simp [e, e2, h257]
              · simp [n1, n2, e, h257]
        · have hm : kMove p = p := by unfold kMove; exact if_neg (fun h => hs h.1)
          rw [hm]
          have hs' : ((bAnd .u8 p.mask 24 : Int) != 0) = false := by simpa using hs
          unfold pClock kChoose
          simp only [mask_shows, hs']
          by_cases h257 : p.dot = 257
          · by_cases n1 : p.line < 240
            · have n2 : ¬ p.line = 241 := by omega
              have n3 : ¬ p.line = 261 := by omega
              simp [n1, n2, n3, h257]
            · by_cases n2 : p.line = 241
              · simp [n2, h257]
              · by_cases n3 : p.line = 261
                · simp [n3, h257]
                · simp [n1, n2, n3, h257]
          · by_cases n1 : p.line < 240
            · have n2 : ¬ p.line = 241 := by omega
              have n3 : ¬ p.line = 261 := by omega
              by_cases e1 : p.dot ≥ 1
              · have e2 : ¬ p.dot ≤ 256 := by omega
                simp [n1, n2, n3, h257, e1, e2]
              · simp [n1, n2, n3, h257, e1]
            · by_cases n2 : p.line = 241
              · have e2 : ¬ p.dot = 1 := by omega
                simp [n2, h257, e2]
              · by_cases n3 : p.line = 261
                · have e2 : ¬ p.dot = 1 := by omega
                  simp [n3, h257, e2]
                · simp [n1, n2, n3, h257]

theorem chooseL_len (p : Pic) : ∀ (n k : Nat) (L : List Sprite), L.length ≤ 8 → (chooseL p n k L).1.length ≤ 8
  | 0, _, _, h => h
  | n + 1, k, L, h => by
    unfold chooseL
    split
    · exact chooseL_len p n _ L h
    · split
      · exact chooseL_len p n _ L h
      · split
        · exact h
        · rename_i h8; exact chooseL_len p n _ _ (by rw [List.length_append, List.length_singleton]; omega)
theorem kChoose_len (p : Pic) (L : List Sprite) (h : L.length ≤ 8) : (kChoose p L).2.length ≤ 8 := by
  unfold kChoose; split
  · unfold pChooseF; repeat' split
    · exact Nat.zero_le _
    · exact Nat.zero_le _
    · exact chooseL_len p 64 0 [] (Nat.zero_le _)
  · exact h
/-- Where it goes on. -/
theorem pNext_eq (p : Pic) (L : List Sprite) (h0 : 0 ≤ p.dot) (h1 : p.dot < 1000) (l0 : 0 ≤ p.line) (l1 : p.line < 262) : pNext p L =
    if p.dot + 1 + (if p.line = 261 ∧ p.dot = 339 ∧ p.odd = true ∧ ((bAnd .u8 p.mask 24 : Int) != 0) = true then 1 else 0) < 341 then { p with dot := p.dot + 1 }
    else if p.line = 261 then { p with line := 0, dot := 0, odd := !p.odd } else { p with line := p.line + 1, dot := 0 } := by
  have w1 : IntKind.i64.wrap (p.dot + 1) = p.dot + 1 := i64_in2 (by omega) (by omega)
  have w2 : IntKind.i64.wrap (p.dot + 1 + 1) = p.dot + 1 + 1 := i64_in2 (by omega) (by omega)
  have w3 : IntKind.i64.wrap (p.line + 1) = p.line + 1 := i64_in2 (by omega) (by omega)
  unfold pNext
  simp only [w1, w2, w3, mask_shows, decide_eq_true_eq, beq_iff_eq]
  by_cases c1 : p.line = 261
  · by_cases c2 : p.dot = 339
    · by_cases c3 : p.odd = true
      · by_cases c4 : ((bAnd .u8 p.mask 24 : Int) != 0) = true
        · simp only [c1, c2, c3, c4]; simp
        · simp only [c1, c2, c3, c4]; simp
      · simp only [c1, c2, c3]; simp
    · have c2' : ¬ (p.dot + 1 = 340) := by omega
      simp only [c1, c2, c2', false_and, and_false, if_false, if_true, Int.add_zero]
      rfl
  · have c1' : ¬ (p.line + 1 = 262) := by omega
    simp only [c1, c1', false_and, if_false, Int.add_zero]
/-- A picture behind a dot, before it goes on. -/
def kc (p : Pic) (L : List Sprite) : Pic := (kChoose (kMove (kDraw (kBlank p) L)) L).1
theorem kDraw_ex (p : Pic) (L : List Sprite) : ∃ f g, kDraw p L = { p with flags := f, screen := g } := ⟨_, _, kDraw_eq p L⟩
theorem kMove_ex (p : Pic) : ∃ s, kMove p = { p with scroll := s } := ⟨_, kMove_eq p⟩
theorem kChoose_ex (p : Pic) (L : List Sprite) : ∃ f, (kChoose p L).1 = { p with flags := f } := ⟨_, kChoose_eq p L⟩
theorem kBlank_ex (p : Pic) : ∃ f, kBlank p = { p with flags := f, frames := (kBlank p).frames } := by
  unfold kBlank
  split
  · exact ⟨_, rfl⟩
  · split
    · exact ⟨0, rfl⟩
    · exact ⟨p.flags, rfl⟩
theorem kc_form (p : Pic) (L : List Sprite) : ∃ s f g, kc p L = { p with scroll := s, flags := f, screen := g, frames := (kBlank p).frames } := by
  obtain ⟨f0, e0⟩ := kBlank_ex p
  obtain ⟨f, g, e1⟩ := kDraw_ex (kBlank p) L
  obtain ⟨s, e2⟩ := kMove_ex (kDraw (kBlank p) L)
  obtain ⟨f', e3⟩ := kChoose_ex (kMove (kDraw (kBlank p) L)) L
  refine ⟨s, f', g, ?_⟩
  unfold kc
  rw [e3, e2, e1]
  generalize (kBlank p).frames = fr at e0 ⊢
  rw [e0]
theorem clock_kc (p : Pic) (L : List Sprite) : (pClock p L).1 = pNext (kc p L) [] := by rw [clock_eq]; rfl
theorem clock_len (p : Pic) (L : List Sprite) (h : L.length ≤ 8) : (pClock p L).2.length ≤ 8 := by rw [clock_eq]; exact kChoose_len _ _ h
end Go.Proofs.Ytgnhhnmpeklciaa
