/-
  The picture: the sprite at a dot, the sprites of a line: the Go functions come to these. No condition.
-/
import Derived.Test.YtgnhhnmpeklciaaPF
namespace Go.Proofs.Ytgnhhnmpeklciaa
open Go VX
set_option linter.unusedVariables false
set_option linter.unusedSimpArgs false
set_option maxRecDepth 100000

theorem pSpriteF_ok (p : Pic) (p_chosen : List Sprite) (x : Int) (hx : 0 ≤ x) (hx2 : x < 256) (hL : (List.length p_chosen) ≤ 8) : FnSpec Try.prog 71 1002 [.pointer (some ⟨1000, 0, none⟩), .int .i64 x] [(1000, (Pic.bl p (.slice (some ⟨1001, 0, (some 0)⟩) (List.length p_chosen) 5) false)), (1001, ⟨[rowsL Sprite.cells Sprite.nil 5 p_chosen], 92, false⟩)] (.tuple ⟨[.int .u8 ((pSpriteF p p_chosen x).1), Sprite.enc ((pSpriteF p p_chosen x).2)]⟩) [(1000, (Pic.bl p (.slice (some ⟨1001, 0, (some 0)⟩) (List.length p_chosen) 5) false)), (1001, ⟨[rowsL Sprite.cells Sprite.nil 5 p_chosen], 92, false⟩)] := by
  have loop := man_loop p x hx hx2 p_chosen (by omega) p_chosen [] rfl
  have e : ∀ q : Int × Sprite, pSpriteF p p_chosen x = q → q = pSpriteF p p_chosen x := fun q h => h.symm
  rcases bt ((((bAnd .u8 p.mask 16) : Int) == 0)) with c1 | c1
  · rw [show pSpriteF p p_chosen x = (0, noMan) from by unfold pSpriteF; rw [if_pos c1]]
    exact wSprite_p1 p p_chosen x hx hx2 c1
  · rcases bt (decide ((x : Int) < 8)) with c2 | c2
    · rcases bt ((((bAnd .u8 p.mask 4) : Int) == 0)) with c3 | c3
      · rw [show pSpriteF p p_chosen x = (0, noMan) from by unfold pSpriteF; rw [if_neg (nt c1), if_pos c2, if_pos c3]]
        exact wSprite_p2 p p_chosen x hx hx2 c1 c2 c3
      · rw [show pSpriteF p p_chosen x = findMan x p_chosen from by unfold pSpriteF; rw [if_neg (nt c1), if_pos c2, if_neg (nt c3)]]
        rcases loop with ⟨h, i, t⟩ | ⟨i, t⟩
        · rw [h]; exact wSprite_p3 p p_chosen x hx hx2 c1 c2 c3 _ t
        · exact wSprite_p4 p p_chosen x hx hx2 c1 c2 c3 _ t
    · rw [show pSpriteF p p_chosen x = findMan x p_chosen from by unfold pSpriteF; rw [if_neg (nt c1), if_neg (nt c2)]]
      rcases loop with ⟨h, i, t⟩ | ⟨i, t⟩
      · rw [h]; exact wSprite_p5 p p_chosen x hx hx2 c1 c2 _ t
      · exact wSprite_p6 p p_chosen x hx hx2 c1 c2 _ t

theorem pChooseF_ok (p : Pic) (p_chosen : List Sprite) (seen : Bool) (wp : Pic.ok p) : FnSpec Try.prog 52 1002 [.pointer (some ⟨1000, 0, none⟩), .bool seen] [(1000, (Pic.bl p (.slice (some ⟨1001, 0, (some 0)⟩) (List.length p_chosen) 5) false)), (1001, ⟨[rowsL Sprite.cells Sprite.nil 5 p_chosen], 92, false⟩)] (.tuple ⟨[]⟩) [(1000, (Pic.bl ((pChooseF p p_chosen seen).1) (.slice (some ⟨1002, 0, (some 0)⟩) (List.length ((pChooseF p p_chosen seen).2)) 5) false)), (1002, ⟨[rowsL Sprite.cells Sprite.nil 5 ((pChooseF p p_chosen seen).2)], 92, false⟩)] := by
  rcases bt (!seen) with c1 | c1
  · rw [show pChooseF p p_chosen seen = (p, []) from by unfold pChooseF; rw [if_pos c1]]
    exact wChoose_p1 p p_chosen seen c1
  · rcases bt (!(pShows p ([] : List Sprite))) with c2 | c2
    · rw [show pChooseF p p_chosen seen = (p, []) from by unfold pChooseF; rw [if_neg (nt c1), if_pos c2]]
      exact wChoose_p2 p p_chosen seen c1 c2
    · rw [show pChooseF p p_chosen seen = ((chooseL p 64 0 []).2, (chooseL p 64 0 []).1) from by unfold pChooseF; rw [if_neg (nt c1), if_neg (nt c2)]]
      obtain ⟨i, t | t⟩ := choose_loop p seen wp 64 0 [] rfl (by decide)
      · generalize chooseL p 64 0 [] = q at t
        exact wChoose_p3 p p_chosen seen c1 c2 _ t
      · generalize chooseL p 64 0 [] = q at t
        exact wChoose_p4 p p_chosen seen c1 c2 _ t

theorem fetch_ok (p : Pic) (L : List Sprite) (a row : Int) (w : Pic.ok p) : Sprite.ok (pFetch p L a row) := by
  unfold pFetch
  repeat' split
  all_goals exact ⟨by first | exact w.tiles _ | exact rng_wrap_u8 _, by first | exact w.tiles _ | exact rng_wrap_u8 _, by first | exact w.men _ | exact rng_wrap_u8 _, by first | exact w.men _ | exact rng_wrap_u8 _⟩
theorem choose_len (p : Pic) : ∀ (n k : Nat) (L : List Sprite), L.length ≤ 8 → (chooseL p n k L).1.length ≤ 8
  | 0, _, L, h => h
  | n + 1, k, L, h => by
    unfold chooseL
    split
    · exact choose_len p n _ L h
    · split
      · exact choose_len p n _ L h
      · split
        · exact h
        · rename_i h8
          refine choose_len p n _ _ ?_
          rw [List.length_append]; simp only [List.length_cons, List.length_nil]; omega
theorem pChoose_len (p : Pic) (L : List Sprite) (seen : Bool) : (pChooseF p L seen).2.length ≤ 8 := by
  unfold pChooseF
  split
  · exact Nat.zero_le _
  · split
    · exact Nat.zero_le _
    · exact choose_len p 64 0 [] (Nat.zero_le _)
end Go.Proofs.Ytgnhhnmpeklciaa
