/-
  PictureNil, of any register, byte, place and line. No condition.
-/
import Derived.Test.YtgnhhnmpeklciaaRD
import Derived.Test.YtgnhhnmpeklciaaPV
namespace Go.Proofs.Ytgnhhnmpeklciaa
open Go VX
set_option linter.unusedVariables false
set_option linter.unusedSimpArgs false
set_option maxRecDepth 100000

theorem nil_loop {reg b a y m : Int} {X : List Sprite} : ∀ (c u : Nat) (p : Pic) (L : List Sprite), u + c = 400 → Cd m p L 0 u →
    ∃ p' L', LoopR (lawNil_L1nn reg b a y) (X, L, (u : Int), p) (X, L', 400, p') ∧ Cd m p' L' 0 400
  | 0, u, p, L, hc, h => by
    have : u = 400 := by omega
    subst this
    exact ⟨p, L, .last (.p2 (decide_eq_false (by show ¬ (((400 : Nat) : Int) < 400); omega))), h⟩
  | c + 1, u, p, L, hc, h => by
    have hl : 89341 ≤ lenF m 0 := by unfold lenF; split <;> omega
    have q := cd_step h (by omega) (by omega)
    rw [if_pos (by omega), if_pos (by omega)] at q
    obtain ⟨p', L', t, q'⟩ := nil_loop (reg := reg) (b := b) (a := a) (y := y) (X := X) c (u + 1) _ _ (by omega) q
    refine ⟨p', L', .more (s' := (X, (pClock p L).2, ((u + 1 : Nat) : Int), (pClock p L).1)) ?_ t, q'⟩
    have st := lawNil_L1nn.p1 (reg := reg) (b := b) (a := a) (y := y) (xd := (X, L, (u : Int), p)) (decide_eq_true (by show (u : Int) < 400; omega)) h.ok (by show 0 ≤ p.line; rw [h.line]; omega) h.len
    rw [show IntKind.i64.wrap (((X, L, (u : Int), p) : (List Sprite) × (List Sprite) × Int × Pic).2.2.1 + 1) = ((u + 1 : Nat) : Int) from by show IntKind.i64.wrap ((u : Int) + 1) = _; rw [i64_in2 (by omega) (by omega)]; omega] at st
    exact st
theorem rowL_zero (m o : Nat) : ∀ j, (rowL (fun _ => 0) o m).getD j 0 = 0 := by
  induction m generalizing o with
  | zero => intro j; rfl
  | succ m ih =>
    intro j
    cases j with
    | zero => rfl
    | succ j => exact ih (o + 1) j
theorem scr_zero : ∀ n j, (scrL (fun _ => 0) n).getD j 0 = 0
  | 0, j => rfl
  | n + 1, j => by
    show (scrL (fun _ => 0) n ++ rowL (fun _ => 0) (n * 256 + 0) 256).getD j 0 = 0
    rw [getD_app]
    split
    · exact scr_zero n j
    · exact rowL_zero _ _ _
theorem poke_keeps (p : Pic) (L : List Sprite) (a b : Int) : ∃ t n c, pPoke p L a b = { p with tiles := t, names := n, colours := c } := by
  unfold pPoke
  repeat' split
  all_goals exact ⟨_, _, _, rfl⟩
theorem put_mask (p : Pic) (b : Int) : pPut p [] 1 b = { p with mask := b, bus := b } := by
  unfold pPut
  rw [if_neg (show ¬ ((Int.tmod 1 8 : Int) == 0) = true by decide), if_pos (show ((Int.tmod 1 8 : Int) == 1) = true by decide)]

theorem nil_true (reg b a y : Int) (wr : rng 256 reg) (wb : rng 256 b) (wa : rng 65536 a) : FnSpec Try.prog 11 1000 [.int .u8 reg, .int .u8 b, .int .u16 a, .int .i64 y] [] (.bool true) [] := by
  have ok1 : Pic.ok (pPoke picZero ([] : List Sprite) a b) := pPoke_w _ _ _ _ zero_ok wa wb
  have ok2 := pPut_w _ ([] : List Sprite) 1 30 ok1 (by decide) (by decide)
  obtain ⟨t, n, c, e⟩ := poke_keeps picZero [] a b
  have start : Cd 30 (pPut (pPoke picZero ([] : List Sprite) a b) [] 1 30) [] 0 0 := by
    rw [e, put_mask] at ok2 ⊢
    exact ⟨rfl, rfl, rfl, rfl, rfl, ok2, Nat.zero_le _⟩
  obtain ⟨p', L', l, q⟩ := nil_loop (reg := reg) (b := b) (a := a) (y := y) (X := []) 400 0 _ _ (by omega) start
  have c1 : (((zGet reg) : Int) != 0) = false := rfl
  have c2 : (((zPeek a) : Int) != 0) = false := rfl
  have c3 : (((pPeek picZero ([] : List Sprite) a) : Int) == 0) = true := by
    have : pPeek picZero ([] : List Sprite) a = 0 := by
      unfold pPeek; repeat' split
      all_goals rfl
    rw [this]; rfl
  have c4 : (((List.getD (pScreenF picZero ([] : List Sprite)) 0 0) : Int) == 0) = true := by
    have : List.getD (pScreenF picZero ([] : List Sprite)) 0 0 = 0 := scr_zero 240 0
    rw [this]; rfl
  have c5 : (((pDot p' L').1 : Int) == 1) = true := by show (p'.line == 1) = true; rw [q.line]; rfl
  have c6 : (((pDot p' L').2 : Int) == 59) = true := by show (p'.dot == 59) = true; rw [q.dot]; rfl
  by_cases h0 : y < 0
  · exact lawNil_p2 reg b a y c1 c2 ok1 ([], L', 400, p') l c3 c4 c5 c6 (decide_eq_true h0) (decide_eq_false (by omega))
  · by_cases h1 : y ≥ 240
    · have r := lawNil_p3 reg b a y c1 c2 ok1 ([], L', 400, p') l c3 c4 c5 c6 (decide_eq_false h0) (decide_eq_true h1) (decide_eq_true (by omega))
      rw [decide_eq_false (show ¬ (y : Int) < 240 by omega)] at r
      exact r
    · have r := lawNil_p5 reg b a y c1 c2 ok1 ([], L', 400, p') l c3 c4 c5 c6 (decide_eq_false h0) (decide_eq_false h1) (decide_eq_true (by omega))
      rw [decide_eq_true (show (y : Int) < 240 by omega)] at r
      exact r
end Go.Proofs.Ytgnhhnmpeklciaa
