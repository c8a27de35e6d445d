/-
  Texts laid together: PE, PF, PG, PH, PI, PJ, PK, PL, PM, PN, KA, PY, RA, KB, KC, KP, KQ. No condition.
-/
import Derived.Test.YtgnhhnmpeklciaaMKc
namespace Go.Proofs.Ytgnhhnmpeklciaa
open Go VX
open Go.IntKind (i64 u8 u16)
set_option linter.unusedVariables false
set_option linter.unusedSimpArgs false
set_option maxRecDepth 100000
inductive wSprite_L1nyn (p : Pic) (p_chosen : List Sprite) (x : Int) (xd : Int × Int × Sprite) : (Int × Int × Sprite) ⊕ ((Int × Int × Sprite) ⊕ (Int × Int × Sprite)) → Prop
  | p1 (d1 : (decide (xd.1 < (((List.length p_chosen) : Nat) : Int))) = true) (w1d : 0 ≤ xd.1) (d2 : (decide ((i64.wrap (x - (i64.wrap ((List.getD p_chosen (Int.toNat xd.1) Sprite.nil).x)))) < 0)) = true) : wSprite_L1nyn p p_chosen x xd (.inl ((i64.wrap (xd.1 + 1)), xd.2.1, xd.2.2))
  | p2 (d1 : (decide (xd.1 < (((List.length p_chosen) : Nat) : Int))) = true) (w1d : 0 ≤ xd.1) (d2 : (decide ((i64.wrap (x - (i64.wrap ((List.getD p_chosen (Int.toNat xd.1) Sprite.nil).x)))) < 0)) = false) (d3 : (decide ((i64.wrap (x - (i64.wrap ((List.getD p_chosen (Int.toNat xd.1) Sprite.nil).x)))) ≥ 8)) = true) : wSprite_L1nyn p p_chosen x xd (.inl ((i64.wrap (xd.1 + 1)), xd.2.1, xd.2.2))
  | p3 (d1 : (decide (xd.1 < (((List.length p_chosen) : Nat) : Int))) = true) (w1d : 0 ≤ xd.1) (d2 : (decide ((i64.wrap (x - (i64.wrap ((List.getD p_chosen (Int.toNat xd.1) Sprite.nil).x)))) < 0)) = false) (d3 : (decide ((i64.wrap (x - (i64.wrap ((List.getD p_chosen (Int.toNat xd.1) Sprite.nil).x)))) ≥ 8)) = false) (d4 : ((bAnd .u8 ((List.getD p_chosen (Int.toNat xd.1) Sprite.nil).look) 64) != 0) = true) (w2d : 0 ≤ (i64.wrap (7 - (i64.wrap (x - (i64.wrap ((List.getD p_chosen (Int.toNat xd.1) Sprite.nil).x))))))) (d5 : ((two ((List.getD p_chosen (Int.toNat xd.1) Sprite.nil).low) ((List.getD p_chosen (Int.toNat xd.1) Sprite.nil).high) (i64.wrap (7 - (i64.wrap (x - (i64.wrap ((List.getD p_chosen (Int.toNat xd.1) Sprite.nil).x))))))) != 0) = true) : wSprite_L1nyn p p_chosen x xd (.inr (.inr (xd.1, (two ((List.getD p_chosen (Int.toNat xd.1) Sprite.nil).low) ((List.getD p_chosen (Int.toNat xd.1) Sprite.nil).high) (i64.wrap (7 - (i64.wrap (x - (i64.wrap ((List.getD p_chosen (Int.toNat xd.1) Sprite.nil).x))))))), (List.getD p_chosen (Int.toNat xd.1) Sprite.nil))))
  | p4 (d1 : (decide (xd.1 < (((List.length p_chosen) : Nat) : Int))) = true) (w1d : 0 ≤ xd.1) (d2 : (decide ((i64.wrap (x - (i64.wrap ((List.getD p_chosen (Int.toNat xd.1) Sprite.nil).x)))) < 0)) = false) (d3 : (decide ((i64.wrap (x - (i64.wrap ((List.getD p_chosen (Int.toNat xd.1) Sprite.nil).x)))) ≥ 8)) = false) (d4 : ((bAnd .u8 ((List.getD p_chosen (Int.toNat xd.1) Sprite.nil).look) 64) != 0) = true) (w2d : 0 ≤ (i64.wrap (7 - (i64.wrap (x - (i64.wrap ((List.getD p_chosen (Int.toNat xd.1) Sprite.nil).x))))))) (d5 : ((two ((List.getD p_chosen (Int.toNat xd.1) Sprite.nil).low) ((List.getD p_chosen (Int.toNat xd.1) Sprite.nil).high) (i64.wrap (7 - (i64.wrap (x - (i64.wrap ((List.getD p_chosen (Int.toNat xd.1) Sprite.nil).x))))))) != 0) = false) : wSprite_L1nyn p p_chosen x xd (.inl ((i64.wrap (xd.1 + 1)), xd.2.1, xd.2.2))
  | p5 (d1 : (decide (xd.1 < (((List.length p_chosen) : Nat) : Int))) = true) (w1d : 0 ≤ xd.1) (d2 : (decide ((i64.wrap (x - (i64.wrap ((List.getD p_chosen (Int.toNat xd.1) Sprite.nil).x)))) < 0)) = false) (d3 : (decide ((i64.wrap (x - (i64.wrap ((List.getD p_chosen (Int.toNat xd.1) Sprite.nil).x)))) ≥ 8)) = false) (d4 : ((bAnd .u8 ((List.getD p_chosen (Int.toNat xd.1) Sprite.nil).look) 64) != 0) = false) (w2d : 0 ≤ (i64.wrap (x - (i64.wrap ((List.getD p_chosen (Int.toNat xd.1) Sprite.nil).x))))) (d5 : ((two ((List.getD p_chosen (Int.toNat xd.1) Sprite.nil).low) ((List.getD p_chosen (Int.toNat xd.1) Sprite.nil).high) (i64.wrap (x - (i64.wrap ((List.getD p_chosen (Int.toNat xd.1) Sprite.nil).x))))) != 0) = true) : wSprite_L1nyn p p_chosen x xd (.inr (.inr (xd.1, (two ((List.getD p_chosen (Int.toNat xd.1) Sprite.nil).low) ((List.getD p_chosen (Int.toNat xd.1) Sprite.nil).high) (i64.wrap (x - (i64.wrap ((List.getD p_chosen (Int.toNat xd.1) Sprite.nil).x))))), (List.getD p_chosen (Int.toNat xd.1) Sprite.nil))))
  | p6 (d1 : (decide (xd.1 < (((List.length p_chosen) : Nat) : Int))) = true) (w1d : 0 ≤ xd.1) (d2 : (decide ((i64.wrap (x - (i64.wrap ((List.getD p_chosen (Int.toNat xd.1) Sprite.nil).x)))) < 0)) = false) (d3 : (decide ((i64.wrap (x - (i64.wrap ((List.getD p_chosen (Int.toNat xd.1) Sprite.nil).x)))) ≥ 8)) = false) (d4 : ((bAnd .u8 ((List.getD p_chosen (Int.toNat xd.1) Sprite.nil).look) 64) != 0) = false) (w2d : 0 ≤ (i64.wrap (x - (i64.wrap ((List.getD p_chosen (Int.toNat xd.1) Sprite.nil).x))))) (d5 : ((two ((List.getD p_chosen (Int.toNat xd.1) Sprite.nil).low) ((List.getD p_chosen (Int.toNat xd.1) Sprite.nil).high) (i64.wrap (x - (i64.wrap ((List.getD p_chosen (Int.toNat xd.1) Sprite.nil).x))))) != 0) = false) : wSprite_L1nyn p p_chosen x xd (.inl ((i64.wrap (xd.1 + 1)), xd.2.1, xd.2.2))
  | p7 (d1 : (decide (xd.1 < (((List.length p_chosen) : Nat) : Int))) = false) : wSprite_L1nyn p p_chosen x xd (.inr (.inl (xd.1, xd.2.1, xd.2.2)))
def wSprite_L1nyn_T (p : Pic) (p_chosen : List Sprite) (x : Int) (xd : Int × Int × Sprite) : Tm := [(1, .int .i64 x), (4, .int .u8 xd.2.1), (5, .pointer (some ⟨1002, 0, none⟩)), (32, .slice (some ⟨1001, 0, (some 0)⟩) (List.length p_chosen) 5), (33, .int .i64 (((List.length p_chosen) : Nat) : Int)), (34, .int .i64 xd.1)]
def wSprite_L1nyn_H (p : Pic) (p_chosen : List Sprite) (x : Int) (xd : Int × Int × Sprite) : Heap := [(1001, ⟨[rowsL Sprite.cells Sprite.nil 5 p_chosen], 92, false⟩), (1002, (Sprite.blk xd.2.2))]
def wSprite_L1nyn_T1 (p : Pic) (p_chosen : List Sprite) (x : Int) : ((Int × Int × Sprite) ⊕ (Int × Int × Sprite)) → Tm
  | .inl q_ => wSprite_L1nyn_T p p_chosen x q_
  | .inr q_ => wSprite_L1nyn_T p p_chosen x q_
def wSprite_L1nyn_H1 (p : Pic) (p_chosen : List Sprite) (x : Int) : ((Int × Int × Sprite) ⊕ (Int × Int × Sprite)) → Heap
  | .inl q_ => wSprite_L1nyn_H p p_chosen x q_
  | .inr q_ => wSprite_L1nyn_H p p_chosen x q_
def wSprite_L1nyn_ex : ((Int × Int × Sprite) ⊕ (Int × Int × Sprite)) → Ex
  | .inl _ => .exit 0
  | .inr _ => .ret
theorem wSprite_L1nyn_p1 (p : Pic) (p_chosen : List Sprite) (x : Int) (xd : Int × Int × Sprite) (d1 : (decide (xd.1 < (((List.length p_chosen) : Nat) : Int))) = true) (w1d : 0 ≤ xd.1) (d2 : (decide ((i64.wrap (x - (i64.wrap ((List.getD p_chosen (Int.toNat xd.1) Sprite.nil).x)))) < 0)) = true) : Runs Try.prog 67 (bodyOf Try.f71 [1, 1, 0, 1, 0, 0]) (wSprite_L1nyn_T p p_chosen x xd) (wSprite_L1nyn_H p p_chosen x xd) 1003 .normal (wSprite_L1nyn_T p p_chosen x ((i64.wrap (xd.1 + 1)), xd.2.1, xd.2.2)) (wSprite_L1nyn_H p p_chosen x ((i64.wrap (xd.1 + 1)), xd.2.1, xd.2.2)) 1003 := by
  have o1 : 0 ≤ xd.1 ∧ xd.1 < (((List.length p_chosen) : Nat) : Int) := by first | decide | omega | (simp only [decide_eq_true_eq, decide_eq_false_iff_not, rng, IntKind.wrap_i64, IntKind.wrap_u8, IntKind.wrap_u16] at *; omega)
  have o2 : Int.toNat xd.1 < (List.length p_chosen) := by first | decide | omega | (simp only [decide_eq_true_eq, decide_eq_false_iff_not, rng, IntKind.wrap_i64, IntKind.wrap_u8, IntKind.wrap_u16] at *; omega)
  exact runs_of_x hG hM 400 [.yes, .sym, .row (Int.toNat xd.1) 0, .yes, .yes, .yes, .yes] (J d1 (J o1 (J (Eq.refl ((Int.toNat xd.1 * 5) : Nat)) (J o2 (J d2 (J d2 (J d2 (J T1 trivial)))))))) (by kernel_rfl)
theorem wSprite_L1nyn_p2 (p : Pic) (p_chosen : List Sprite) (x : Int) (xd : Int × Int × Sprite) (d1 : (decide (xd.1 < (((List.length p_chosen) : Nat) : Int))) = true) (w1d : 0 ≤ xd.1) (d2 : (decide ((i64.wrap (x - (i64.wrap ((List.getD p_chosen (Int.toNat xd.1) Sprite.nil).x)))) < 0)) = false) (d3 : (decide ((i64.wrap (x - (i64.wrap ((List.getD p_chosen (Int.toNat xd.1) Sprite.nil).x)))) ≥ 8)) = true) : Runs Try.prog 67 (bodyOf Try.f71 [1, 1, 0, 1, 0, 0]) (wSprite_L1nyn_T p p_chosen x xd) (wSprite_L1nyn_H p p_chosen x xd) 1003 .normal (wSprite_L1nyn_T p p_chosen x ((i64.wrap (xd.1 + 1)), xd.2.1, xd.2.2)) (wSprite_L1nyn_H p p_chosen x ((i64.wrap (xd.1 + 1)), xd.2.1, xd.2.2)) 1003 := by
  have o1 : 0 ≤ xd.1 ∧ xd.1 < (((List.length p_chosen) : Nat) : Int) := by first | decide | omega | (simp only [decide_eq_true_eq, decide_eq_false_iff_not, rng, IntKind.wrap_i64, IntKind.wrap_u8, IntKind.wrap_u16] at *; omega)
  have o2 : Int.toNat xd.1 < (List.length p_chosen) := by first | decide | omega | (simp only [decide_eq_true_eq, decide_eq_false_iff_not, rng, IntKind.wrap_i64, IntKind.wrap_u8, IntKind.wrap_u16] at *; omega)
  exact runs_of_x hG hM 400 [.yes, .sym, .row (Int.toNat xd.1) 0, .no, .no, .no, .yes] (J d1 (J o1 (J (Eq.refl ((Int.toNat xd.1 * 5) : Nat)) (J o2 (J d2 (J d2 (J d2 (J d3 trivial)))))))) (by kernel_rfl)
theorem wSprite_L1nyn_p3 (p : Pic) (p_chosen : List Sprite) (x : Int) (xd : Int × Int × Sprite) (d1 : (decide (xd.1 < (((List.length p_chosen) : Nat) : Int))) = true) (w1d : 0 ≤ xd.1) (d2 : (decide ((i64.wrap (x - (i64.wrap ((List.getD p_chosen (Int.toNat xd.1) Sprite.nil).x)))) < 0)) = false) (d3 : (decide ((i64.wrap (x - (i64.wrap ((List.getD p_chosen (Int.toNat xd.1) Sprite.nil).x)))) ≥ 8)) = false) (d4 : ((bAnd .u8 ((List.getD p_chosen (Int.toNat xd.1) Sprite.nil).look) 64) != 0) = true) (w2d : 0 ≤ (i64.wrap (7 - (i64.wrap (x - (i64.wrap ((List.getD p_chosen (Int.toNat xd.1) Sprite.nil).x))))))) (d5 : ((two ((List.getD p_chosen (Int.toNat xd.1) Sprite.nil).low) ((List.getD p_chosen (Int.toNat xd.1) Sprite.nil).high) (i64.wrap (7 - (i64.wrap (x - (i64.wrap ((List.getD p_chosen (Int.toNat xd.1) Sprite.nil).x))))))) != 0) = true) : Runs Try.prog 67 (bodyOf Try.f71 [1, 1, 0, 1, 0, 0]) (wSprite_L1nyn_T p p_chosen x xd) (wSprite_L1nyn_H p p_chosen x xd) 1003 .ret (wSprite_L1nyn_T1 p p_chosen x (.inr (xd.1, (two ((List.getD p_chosen (Int.toNat xd.1) Sprite.nil).low) ((List.getD p_chosen (Int.toNat xd.1) Sprite.nil).high) (i64.wrap (7 - (i64.wrap (x - (i64.wrap ((List.getD p_chosen (Int.toNat xd.1) Sprite.nil).x))))))), (List.getD p_chosen (Int.toNat xd.1) Sprite.nil)))) (wSprite_L1nyn_H1 p p_chosen x (.inr (xd.1, (two ((List.getD p_chosen (Int.toNat xd.1) Sprite.nil).low) ((List.getD p_chosen (Int.toNat xd.1) Sprite.nil).high) (i64.wrap (7 - (i64.wrap (x - (i64.wrap ((List.getD p_chosen (Int.toNat xd.1) Sprite.nil).x))))))), (List.getD p_chosen (Int.toNat xd.1) Sprite.nil)))) 1003 := by
  have o1 : 0 ≤ xd.1 ∧ xd.1 < (((List.length p_chosen) : Nat) : Int) := by first | decide | omega | (simp only [decide_eq_true_eq, decide_eq_false_iff_not, rng, IntKind.wrap_i64, IntKind.wrap_u8, IntKind.wrap_u16] at *; omega)
  have o2 : Int.toNat xd.1 < (List.length p_chosen) := by first | decide | omega | (simp only [decide_eq_true_eq, decide_eq_false_iff_not, rng, IntKind.wrap_i64, IntKind.wrap_u8, IntKind.wrap_u16] at *; omega)
  exact runs_of_x hG hM 400 [.yes, .sym, .row (Int.toNat xd.1) 0, .no, .no, .no, .no, .yes, .call [] [] 1000 (.int .u8 (two ((List.getD p_chosen (Int.toNat xd.1) Sprite.nil).low) ((List.getD p_chosen (Int.toNat xd.1) Sprite.nil).high) (i64.wrap (7 - (i64.wrap (x - (i64.wrap ((List.getD p_chosen (Int.toNat xd.1) Sprite.nil).x)))))))) [], .yes] (J d1 (J o1 (J (Eq.refl ((Int.toNat xd.1 * 5) : Nat)) (J o2 (J d2 (J d2 (J d2 (J d3 (J d4 (J (two_ok ((List.getD p_chosen (Int.toNat xd.1) Sprite.nil).low) ((List.getD p_chosen (Int.toNat xd.1) Sprite.nil).high) (i64.wrap (7 - (i64.wrap (x - (i64.wrap ((List.getD p_chosen (Int.toNat xd.1) Sprite.nil).x)))))) w2d) (J d5 trivial))))))))))) (by kernel_rfl)
theorem wSprite_L1nyn_p4 (p : Pic) (p_chosen : List Sprite) (x : Int) (xd : Int × Int × Sprite) (d1 : (decide (xd.1 < (((List.length p_chosen) : Nat) : Int))) = true) (w1d : 0 ≤ xd.1) (d2 : (decide ((i64.wrap (x - (i64.wrap ((List.getD p_chosen (Int.toNat xd.1) Sprite.nil).x)))) < 0)) = false) (d3 : (decide ((i64.wrap (x - (i64.wrap ((List.getD p_chosen (Int.toNat xd.1) Sprite.nil).x)))) ≥ 8)) = false) (d4 : ((bAnd .u8 ((List.getD p_chosen (Int.toNat xd.1) Sprite.nil).look) 64) != 0) = true) (w2d : 0 ≤ (i64.wrap (7 - (i64.wrap (x - (i64.wrap ((List.getD p_chosen (Int.toNat xd.1) Sprite.nil).x))))))) (d5 : ((two ((List.getD p_chosen (Int.toNat xd.1) Sprite.nil).low) ((List.getD p_chosen (Int.toNat xd.1) Sprite.nil).high) (i64.wrap (7 - (i64.wrap (x - (i64.wrap ((List.getD p_chosen (Int.toNat xd.1) Sprite.nil).x))))))) != 0) = false) : Runs Try.prog 67 (bodyOf Try.f71 [1, 1, 0, 1, 0, 0]) (wSprite_L1nyn_T p p_chosen x xd) (wSprite_L1nyn_H p p_chosen x xd) 1003 .normal (wSprite_L1nyn_T p p_chosen x ((i64.wrap (xd.1 + 1)), xd.2.1, xd.2.2)) (wSprite_L1nyn_H p p_chosen x ((i64.wrap (xd.1 + 1)), xd.2.1, xd.2.2)) 1003 := by
  have o1 : 0 ≤ xd.1 ∧ xd.1 < (((List.length p_chosen) : Nat) : Int) := by first | decide | omega | (simp only [decide_eq_true_eq, decide_eq_false_iff_not, rng, IntKind.wrap_i64, IntKind.wrap_u8, IntKind.wrap_u16] at *; omega)
  have o2 : Int.toNat xd.1 < (List.length p_chosen) := by first | decide | omega | (simp only [decide_eq_true_eq, decide_eq_false_iff_not, rng, IntKind.wrap_i64, IntKind.wrap_u8, IntKind.wrap_u16] at *; omega)
  exact runs_of_x hG hM 400 [.yes, .sym, .row (Int.toNat xd.1) 0, .no, .no, .no, .no, .yes, .call [] [] 1000 (.int .u8 (two ((List.getD p_chosen (Int.toNat xd.1) Sprite.nil).low) ((List.getD p_chosen (Int.toNat xd.1) Sprite.nil).high) (i64.wrap (7 - (i64.wrap (x - (i64.wrap ((List.getD p_chosen (Int.toNat xd.1) Sprite.nil).x)))))))) [], .no] (J d1 (J o1 (J (Eq.refl ((Int.toNat xd.1 * 5) : Nat)) (J o2 (J d2 (J d2 (J d2 (J d3 (J d4 (J (two_ok ((List.getD p_chosen (Int.toNat xd.1) Sprite.nil).low) ((List.getD p_chosen (Int.toNat xd.1) Sprite.nil).high) (i64.wrap (7 - (i64.wrap (x - (i64.wrap ((List.getD p_chosen (Int.toNat xd.1) Sprite.nil).x)))))) w2d) (J d5 trivial))))))))))) (by kernel_rfl)
theorem wSprite_L1nyn_p5 (p : Pic) (p_chosen : List Sprite) (x : Int) (xd : Int × Int × Sprite) (d1 : (decide (xd.1 < (((List.length p_chosen) : Nat) : Int))) = true) (w1d : 0 ≤ xd.1) (d2 : (decide ((i64.wrap (x - (i64.wrap ((List.getD p_chosen (Int.toNat xd.1) Sprite.nil).x)))) < 0)) = false) (d3 : (decide ((i64.wrap (x - (i64.wrap ((List.getD p_chosen (Int.toNat xd.1) Sprite.nil).x)))) ≥ 8)) = false) (d4 : ((bAnd .u8 ((List.getD p_chosen (Int.toNat xd.1) Sprite.nil).look) 64) != 0) = false) (w2d : 0 ≤ (i64.wrap (x - (i64.wrap ((List.getD p_chosen (Int.toNat xd.1) Sprite.nil).x))))) (d5 : ((two ((List.getD p_chosen (Int.toNat xd.1) Sprite.nil).low) ((List.getD p_chosen (Int.toNat xd.1) Sprite.nil).high) (i64.wrap (x - (i64.wrap ((List.getD p_chosen (Int.toNat xd.1) Sprite.nil).x))))) != 0) = true) : Runs Try.prog 67 (bodyOf Try.f71 [1, 1, 0, 1, 0, 0]) (wSprite_L1nyn_T p p_chosen x xd) (wSprite_L1nyn_H p p_chosen x xd) 1003 .ret (wSprite_L1nyn_T1 p p_chosen x (.inr (xd.1, (two ((List.getD p_chosen (Int.toNat xd.1) Sprite.nil).low) ((List.getD p_chosen (Int.toNat xd.1) Sprite.nil).high) (i64.wrap (x - (i64.wrap ((List.getD p_chosen (Int.toNat xd.1) Sprite.nil).x))))), (List.getD p_chosen (Int.toNat xd.1) Sprite.nil)))) (wSprite_L1nyn_H1 p p_chosen x (.inr (xd.1, (two ((List.getD p_chosen (Int.toNat xd.1) Sprite.nil).low) ((List.getD p_chosen (Int.toNat xd.1) Sprite.nil).high) (i64.wrap (x - (i64.wrap ((List.getD p_chosen (Int.toNat xd.1) Sprite.nil).x))))), (List.getD p_chosen (Int.toNat xd.1) Sprite.nil)))) 1003 := by
  have o1 : 0 ≤ xd.1 ∧ xd.1 < (((List.length p_chosen) : Nat) : Int) := by first | decide | omega | (simp only [decide_eq_true_eq, decide_eq_false_iff_not, rng, IntKind.wrap_i64, IntKind.wrap_u8, IntKind.wrap_u16] at *; omega)
  have o2 : Int.toNat xd.1 < (List.length p_chosen) := by first | decide | omega | (simp only [decide_eq_true_eq, decide_eq_false_iff_not, rng, IntKind.wrap_i64, IntKind.wrap_u8, IntKind.wrap_u16] at *; omega)
  exact runs_of_x hG hM 400 [.yes, .sym, .row (Int.toNat xd.1) 0, .no, .no, .no, .no, .no, .call [] [] 1000 (.int .u8 (two ((List.getD p_chosen (Int.toNat xd.1) Sprite.nil).low) ((List.getD p_chosen (Int.toNat xd.1) Sprite.nil).high) (i64.wrap (x - (i64.wrap ((List.getD p_chosen (Int.toNat xd.1) Sprite.nil).x)))))) [], .yes] (J d1 (J o1 (J (Eq.refl ((Int.toNat xd.1 * 5) : Nat)) (J o2 (J d2 (J d2 (J d2 (J d3 (J d4 (J (two_ok ((List.getD p_chosen (Int.toNat xd.1) Sprite.nil).low) ((List.getD p_chosen (Int.toNat xd.1) Sprite.nil).high) (i64.wrap (x - (i64.wrap ((List.getD p_chosen (Int.toNat xd.1) Sprite.nil).x)))) w2d) (J d5 trivial))))))))))) (by kernel_rfl)
theorem wSprite_L1nyn_p6 (p : Pic) (p_chosen : List Sprite) (x : Int) (xd : Int × Int × Sprite) (d1 : (decide (xd.1 < (((List.length p_chosen) : Nat) : Int))) = true) (w1d : 0 ≤ xd.1) (d2 : (decide ((i64.wrap (x - (i64.wrap ((List.getD p_chosen (Int.toNat xd.1) Sprite.nil).x)))) < 0)) = false) (d3 : (decide ((i64.wrap (x - (i64.wrap ((List.getD p_chosen (Int.toNat xd.1) Sprite.nil).x)))) ≥ 8)) = false) (d4 : ((bAnd .u8 ((List.getD p_chosen (Int.toNat xd.1) Sprite.nil).look) 64) != 0) = false) (w2d : 0 ≤ (i64.wrap (x - (i64.wrap ((List.getD p_chosen (Int.toNat xd.1) Sprite.nil).x))))) (d5 : ((two ((List.getD p_chosen (Int.toNat xd.1) Sprite.nil).low) ((List.getD p_chosen (Int.toNat xd.1) Sprite.nil).high) (i64.wrap (x - (i64.wrap ((List.getD p_chosen (Int.toNat xd.1) Sprite.nil).x))))) != 0) = false) : Runs Try.prog 67 (bodyOf Try.f71 [1, 1, 0, 1, 0, 0]) (wSprite_L1nyn_T p p_chosen x xd) (wSprite_L1nyn_H p p_chosen x xd) 1003 .normal (wSprite_L1nyn_T p p_chosen x ((i64.wrap (xd.1 + 1)), xd.2.1, xd.2.2)) (wSprite_L1nyn_H p p_chosen x ((i64.wrap (xd.1 + 1)), xd.2.1, xd.2.2)) 1003 := by
  have o1 : 0 ≤ xd.1 ∧ xd.1 < (((List.length p_chosen) : Nat) : Int) := by first | decide | omega | (simp only [decide_eq_true_eq, decide_eq_false_iff_not, rng, IntKind.wrap_i64, IntKind.wrap_u8, IntKind.wrap_u16] at *; omega)
  have o2 : Int.toNat xd.1 < (List.length p_chosen) := by first | decide | omega | (simp only [decide_eq_true_eq, decide_eq_false_iff_not, rng, IntKind.wrap_i64, IntKind.wrap_u8, IntKind.wrap_u16] at *; omega)
  exact runs_of_x hG hM 400 [.yes, .sym, .row (Int.toNat xd.1) 0, .no, .no, .no, .no, .no, .call [] [] 1000 (.int .u8 (two ((List.getD p_chosen (Int.toNat xd.1) Sprite.nil).low) ((List.getD p_chosen (Int.toNat xd.1) Sprite.nil).high) (i64.wrap (x - (i64.wrap ((List.getD p_chosen (Int.toNat xd.1) Sprite.nil).x)))))) [], .no] (J d1 (J o1 (J (Eq.refl ((Int.toNat xd.1 * 5) : Nat)) (J o2 (J d2 (J d2 (J d2 (J d3 (J d4 (J (two_ok ((List.getD p_chosen (Int.toNat xd.1) Sprite.nil).low) ((List.getD p_chosen (Int.toNat xd.1) Sprite.nil).high) (i64.wrap (x - (i64.wrap ((List.getD p_chosen (Int.toNat xd.1) Sprite.nil).x)))) w2d) (J d5 trivial))))))))))) (by kernel_rfl)
theorem wSprite_L1nyn_p7 (p : Pic) (p_chosen : List Sprite) (x : Int) (xd : Int × Int × Sprite) (d1 : (decide (xd.1 < (((List.length p_chosen) : Nat) : Int))) = false) : Runs Try.prog 67 (bodyOf Try.f71 [1, 1, 0, 1, 0, 0]) (wSprite_L1nyn_T p p_chosen x xd) (wSprite_L1nyn_H p p_chosen x xd) 1003 (.exit 0) (wSprite_L1nyn_T1 p p_chosen x (.inl (xd.1, xd.2.1, xd.2.2))) (wSprite_L1nyn_H1 p p_chosen x (.inl (xd.1, xd.2.1, xd.2.2))) 1003 := by
  exact runs_of_x hG hM 400 [.no] (J d1 trivial) (by kernel_rfl)
theorem wSprite_L1nyn_runs (p : Pic) (p_chosen : List Sprite) (x : Int) (x_ : Int × Int × Sprite) (y_ : (Int × Int × Sprite) ⊕ (Int × Int × Sprite)) (h_ : LoopR (wSprite_L1nyn p p_chosen x) x_ y_) : Runs Try.prog 67 (.block 0 (.loop (bodyOf Try.f71 [1, 1, 0, 1, 0, 0]))) (wSprite_L1nyn_T p p_chosen x x_) (wSprite_L1nyn_H p p_chosen x x_) 1003 (outOf 0 (wSprite_L1nyn_ex y_)) (wSprite_L1nyn_T1 p p_chosen x y_) (wSprite_L1nyn_H1 p p_chosen x y_) 1003 := by
  refine block_loop (wSprite_L1nyn p p_chosen x) (wSprite_L1nyn_T p p_chosen x) (wSprite_L1nyn_H p p_chosen x) wSprite_L1nyn_ex (wSprite_L1nyn_T1 p p_chosen x) (wSprite_L1nyn_H1 p p_chosen x) ?_ ?_ ?_ x_ y_ h_
  · intro r hr; cases r <;> cases hr
  · intro xd y_ hx
    cases hx with
    | p1 d1 w1d d2 => exact wSprite_L1nyn_p1 p p_chosen x xd d1 w1d d2
    | p2 d1 w1d d2 d3 => exact wSprite_L1nyn_p2 p p_chosen x xd d1 w1d d2 d3
    | p4 d1 w1d d2 d3 d4 w2d d5 => exact wSprite_L1nyn_p4 p p_chosen x xd d1 w1d d2 d3 d4 w2d d5
    | p6 d1 w1d d2 d3 d4 w2d d5 => exact wSprite_L1nyn_p6 p p_chosen x xd d1 w1d d2 d3 d4 w2d d5
  · intro xd y_ hx
    cases hx with
    | p3 d1 w1d d2 d3 d4 w2d d5 => exact wSprite_L1nyn_p3 p p_chosen x xd d1 w1d d2 d3 d4 w2d d5
    | p5 d1 w1d d2 d3 d4 w2d d5 => exact wSprite_L1nyn_p5 p p_chosen x xd d1 w1d d2 d3 d4 w2d d5
    | p7 d1 => exact wSprite_L1nyn_p7 p p_chosen x xd d1
theorem wSprite_p1 (p : Pic) (p_chosen : List Sprite) (x : Int) (hx : 0 ≤ x) (hx2 : x < 256) (c1 : ((bAnd .u8 p.mask 16) == 0) = true) : FnSpec Try.prog 71 1002 [.pointer (some ⟨1000, 0, none⟩), .int .i64 x] [(1000, (Pic.bl p (.slice (some ⟨1001, 0, (some 0)⟩) (List.length p_chosen) 5) false)), (1001, ⟨[rowsL Sprite.cells Sprite.nil 5 p_chosen], 92, false⟩)] (.tuple ⟨[.int .u8 ((0, ({ low := 0, high := 0, look := 0, x := 0, first := false } : Sprite)).1), Sprite.enc ((0, ({ low := 0, high := 0, look := 0, x := 0, first := false } : Sprite)).2)]⟩) [(1000, (Pic.bl p (.slice (some ⟨1001, 0, (some 0)⟩) (List.length p_chosen) 5) false)), (1001, ⟨[rowsL Sprite.cells Sprite.nil 5 p_chosen], 92, false⟩)] := by
  exact fn_of_x hG hM Try.func71 (by kernel_rfl) (by kernel_rfl) 400 [.yes, .yes, .yes, .yes, .yes, .yes] (J c1 (J c1 (J c1 (J c1 (J c1 (J T1 trivial)))))) (by kernel_rfl)
theorem wSprite_p2 (p : Pic) (p_chosen : List Sprite) (x : Int) (hx : 0 ≤ x) (hx2 : x < 256) (c1 : ((bAnd .u8 p.mask 16) == 0) = false) (c2 : (decide (x < 8)) = true) (c3 : ((bAnd .u8 p.mask 4) == 0) = true) : FnSpec Try.prog 71 1002 [.pointer (some ⟨1000, 0, none⟩), .int .i64 x] [(1000, (Pic.bl p (.slice (some ⟨1001, 0, (some 0)⟩) (List.length p_chosen) 5) false)), (1001, ⟨[rowsL Sprite.cells Sprite.nil 5 p_chosen], 92, false⟩)] (.tuple ⟨[.int .u8 ((0, ({ low := 0, high := 0, look := 0, x := 0, first := false } : Sprite)).1), Sprite.enc ((0, ({ low := 0, high := 0, look := 0, x := 0, first := false } : Sprite)).2)]⟩) [(1000, (Pic.bl p (.slice (some ⟨1001, 0, (some 0)⟩) (List.length p_chosen) 5) false)), (1001, ⟨[rowsL Sprite.cells Sprite.nil 5 p_chosen], 92, false⟩)] := by
  exact fn_of_x hG hM Try.func71 (by kernel_rfl) (by kernel_rfl) 400 [.no, .no, .no, .yes, .yes, .yes, .yes, .yes, .yes, .no, .yes, .no, .yes] (J c1 (J c1 (J c1 (J c2 (J c2 (J c2 (J c2 (J c2 (J c2 (J c1 (J c2 (J c1 (J c3 trivial))))))))))))) (by kernel_rfl)
theorem wSprite_p3 (p : Pic) (p_chosen : List Sprite) (x : Int) (hx : 0 ≤ x) (hx2 : x < 256) (c1 : ((bAnd .u8 p.mask 16) == 0) = false) (c2 : (decide (x < 8)) = true) (c3 : ((bAnd .u8 p.mask 4) == 0) = false) (r1 : Int × Int × Sprite) (l1 : LoopR (wSprite_L1nyn p p_chosen x) (0, 0, ({ low := 0, high := 0, look := 0, x := 0, first := false } : Sprite)) (.inl r1)) : FnSpec Try.prog 71 1002 [.pointer (some ⟨1000, 0, none⟩), .int .i64 x] [(1000, (Pic.bl p (.slice (some ⟨1001, 0, (some 0)⟩) (List.length p_chosen) 5) false)), (1001, ⟨[rowsL Sprite.cells Sprite.nil 5 p_chosen], 92, false⟩)] (.tuple ⟨[.int .u8 ((0, ({ low := 0, high := 0, look := 0, x := 0, first := false } : Sprite)).1), Sprite.enc ((0, ({ low := 0, high := 0, look := 0, x := 0, first := false } : Sprite)).2)]⟩) [(1000, (Pic.bl p (.slice (some ⟨1001, 0, (some 0)⟩) (List.length p_chosen) 5) false)), (1001, ⟨[rowsL Sprite.cells Sprite.nil 5 p_chosen], 92, false⟩)] := by
  exact fn_of_x hG hM Try.func71 (by kernel_rfl) (by kernel_rfl) 400 [.no, .no, .no, .yes, .yes, .yes, .yes, .yes, .yes, .no, .yes, .no, .no, .segk 1 0 [1, 4, 5, 32, 33, 34] [1001, 1002] .normal (wSprite_L1nyn_T1 p p_chosen x (.inl r1)) (wSprite_L1nyn_H1 p p_chosen x (.inl r1)) 1003] (J c1 (J c1 (J c1 (J c2 (J c2 (J c2 (J c2 (J c2 (J c2 (J c1 (J c2 (J c1 (J c3 (J (wSprite_L1nyn_runs p p_chosen x (0, 0, ({ low := 0, high := 0, look := 0, x := 0, first := false } : Sprite)) (.inl r1) l1) trivial)))))))))))))) (by kernel_rfl)
theorem wSprite_p4 (p : Pic) (p_chosen : List Sprite) (x : Int) (hx : 0 ≤ x) (hx2 : x < 256) (c1 : ((bAnd .u8 p.mask 16) == 0) = false) (c2 : (decide (x < 8)) = true) (c3 : ((bAnd .u8 p.mask 4) == 0) = false) (r1 : Int × Int × Sprite) (l1 : LoopR (wSprite_L1nyn p p_chosen x) (0, 0, ({ low := 0, high := 0, look := 0, x := 0, first := false } : Sprite)) (.inr r1)) : FnSpec Try.prog 71 1002 [.pointer (some ⟨1000, 0, none⟩), .int .i64 x] [(1000, (Pic.bl p (.slice (some ⟨1001, 0, (some 0)⟩) (List.length p_chosen) 5) false)), (1001, ⟨[rowsL Sprite.cells Sprite.nil 5 p_chosen], 92, false⟩)] (.tuple ⟨[.int .u8 ((r1.2.1, r1.2.2).1), Sprite.enc ((r1.2.1, r1.2.2).2)]⟩) [(1000, (Pic.bl p (.slice (some ⟨1001, 0, (some 0)⟩) (List.length p_chosen) 5) false)), (1001, ⟨[rowsL Sprite.cells Sprite.nil 5 p_chosen], 92, false⟩)] := by
  exact fn_of_x hG hM Try.func71 (by kernel_rfl) (by kernel_rfl) 400 [.no, .no, .no, .yes, .yes, .yes, .yes, .yes, .yes, .no, .yes, .no, .no, .segk 1 0 [1, 4, 5, 32, 33, 34] [1001, 1002] .ret (wSprite_L1nyn_T1 p p_chosen x (.inr r1)) (wSprite_L1nyn_H1 p p_chosen x (.inr r1)) 1003] (J c1 (J c1 (J c1 (J c2 (J c2 (J c2 (J c2 (J c2 (J c2 (J c1 (J c2 (J c1 (J c3 (J (wSprite_L1nyn_runs p p_chosen x (0, 0, ({ low := 0, high := 0, look := 0, x := 0, first := false } : Sprite)) (.inr r1) l1) trivial)))))))))))))) (by kernel_rfl)
theorem wSprite_p5 (p : Pic) (p_chosen : List Sprite) (x : Int) (hx : 0 ≤ x) (hx2 : x < 256) (c1 : ((bAnd .u8 p.mask 16) == 0) = false) (c2 : (decide (x < 8)) = false) (r1 : Int × Int × Sprite) (l1 : LoopR (wSprite_L1nyn p p_chosen x) (0, 0, ({ low := 0, high := 0, look := 0, x := 0, first := false } : Sprite)) (.inl r1)) : FnSpec Try.prog 71 1002 [.pointer (some ⟨1000, 0, none⟩), .int .i64 x] [(1000, (Pic.bl p (.slice (some ⟨1001, 0, (some 0)⟩) (List.length p_chosen) 5) false)), (1001, ⟨[rowsL Sprite.cells Sprite.nil 5 p_chosen], 92, false⟩)] (.tuple ⟨[.int .u8 ((0, ({ low := 0, high := 0, look := 0, x := 0, first := false } : Sprite)).1), Sprite.enc ((0, ({ low := 0, high := 0, look := 0, x := 0, first := false } : Sprite)).2)]⟩) [(1000, (Pic.bl p (.slice (some ⟨1001, 0, (some 0)⟩) (List.length p_chosen) 5) false)), (1001, ⟨[rowsL Sprite.cells Sprite.nil 5 p_chosen], 92, false⟩)] := by
  exact fn_of_x hG hM Try.func71 (by kernel_rfl) (by kernel_rfl) 400 [.no, .no, .no, .no, .no, .no, .no, .no, .no, .no, .no, .no, .no, .segk 1 0 [1, 4, 5, 32, 33, 34] [1001, 1002] .normal (wSprite_L1nyn_T1 p p_chosen x (.inl r1)) (wSprite_L1nyn_H1 p p_chosen x (.inl r1)) 1003] (J c1 (J c1 (J c1 (J c2 (J c2 (J c2 (J c2 (J c2 (J c2 (J c1 (J c2 (J c1 (J T0 (J (wSprite_L1nyn_runs p p_chosen x (0, 0, ({ low := 0, high := 0, look := 0, x := 0, first := false } : Sprite)) (.inl r1) l1) trivial)))))))))))))) (by kernel_rfl)
theorem wSprite_p6 (p : Pic) (p_chosen : List Sprite) (x : Int) (hx : 0 ≤ x) (hx2 : x < 256) (c1 : ((bAnd .u8 p.mask 16) == 0) = false) (c2 : (decide (x < 8)) = false) (r1 : Int × Int × Sprite) (l1 : LoopR (wSprite_L1nyn p p_chosen x) (0, 0, ({ low := 0, high := 0, look := 0, x := 0, first := false } : Sprite)) (.inr r1)) : FnSpec Try.prog 71 1002 [.pointer (some ⟨1000, 0, none⟩), .int .i64 x] [(1000, (Pic.bl p (.slice (some ⟨1001, 0, (some 0)⟩) (List.length p_chosen) 5) false)), (1001, ⟨[rowsL Sprite.cells Sprite.nil 5 p_chosen], 92, false⟩)] (.tuple ⟨[.int .u8 ((r1.2.1, r1.2.2).1), Sprite.enc ((r1.2.1, r1.2.2).2)]⟩) [(1000, (Pic.bl p (.slice (some ⟨1001, 0, (some 0)⟩) (List.length p_chosen) 5) false)), (1001, ⟨[rowsL Sprite.cells Sprite.nil 5 p_chosen], 92, false⟩)] := by
  exact fn_of_x hG hM Try.func71 (by kernel_rfl) (by kernel_rfl) 400 [.no, .no, .no, .no, .no, .no, .no, .no, .no, .no, .no, .no, .no, .segk 1 0 [1, 4, 5, 32, 33, 34] [1001, 1002] .ret (wSprite_L1nyn_T1 p p_chosen x (.inr r1)) (wSprite_L1nyn_H1 p p_chosen x (.inr r1)) 1003] (J c1 (J c1 (J c1 (J c2 (J c2 (J c2 (J c2 (J c2 (J c2 (J c1 (J c2 (J c1 (J T0 (J (wSprite_L1nyn_runs p p_chosen x (0, 0, ({ low := 0, high := 0, look := 0, x := 0, first := false } : Sprite)) (.inr r1) l1) trivial)))))))))))))) (by kernel_rfl)
inductive wChoose_L1nn (p : Pic) (seen : Bool) (xd : (List Sprite) × Int × Pic) : ((List Sprite) × Int × Pic) ⊕ (((List Sprite) × Int × Pic) ⊕ ((List Sprite) × Int × Pic)) → Prop
  | p1 (d1 : (decide (xd.2.1 < 256)) = true) (w1d : 0 ≤ xd.2.1) (d2 : (decide ((i64.wrap (xd.2.2.line - (i64.wrap (xd.2.2.men (Int.toNat xd.2.1))))) < 0)) = true) : wChoose_L1nn p seen xd (.inl (xd.1, (i64.wrap (xd.2.1 + 4)), xd.2.2))
  | p2 (d1 : (decide (xd.2.1 < 256)) = true) (w1d : 0 ≤ xd.2.1) (d2 : (decide ((i64.wrap (xd.2.2.line - (i64.wrap (xd.2.2.men (Int.toNat xd.2.1))))) < 0)) = false) (d3 : (decide ((i64.wrap (xd.2.2.line - (i64.wrap (xd.2.2.men (Int.toNat xd.2.1))))) ≥ (pHeight xd.2.2 xd.1))) = true) : wChoose_L1nn p seen xd (.inl (xd.1, (i64.wrap (xd.2.1 + 4)), xd.2.2))
  | p3 (d1 : (decide (xd.2.1 < 256)) = true) (w1d : 0 ≤ xd.2.1) (d2 : (decide ((i64.wrap (xd.2.2.line - (i64.wrap (xd.2.2.men (Int.toNat xd.2.1))))) < 0)) = false) (d3 : (decide ((i64.wrap (xd.2.2.line - (i64.wrap (xd.2.2.men (Int.toNat xd.2.1))))) ≥ (pHeight xd.2.2 xd.1))) = false) (d4 : (((((List.length xd.1) : Nat) : Int) : Int) == 8) = true) : wChoose_L1nn p seen xd (.inr (.inr (xd.1, xd.2.1, ({ xd.2.2 with flags := (bOr .u8 xd.2.2.flags 32) } : Pic))))
  | p4 (d1 : (decide (xd.2.1 < 256)) = true) (w1d : 0 ≤ xd.2.1) (d2 : (decide ((i64.wrap (xd.2.2.line - (i64.wrap (xd.2.2.men (Int.toNat xd.2.1))))) < 0)) = false) (d3 : (decide ((i64.wrap (xd.2.2.line - (i64.wrap (xd.2.2.men (Int.toNat xd.2.1))))) ≥ (pHeight xd.2.2 xd.1))) = false) (d4 : (((((List.length xd.1) : Nat) : Int) : Int) == 8) = false) (w2d : Pic.ok xd.2.2) (w3d : xd.2.1 < 253) (w4d : 0 ≤ (i64.wrap (xd.2.2.line - (i64.wrap (xd.2.2.men (Int.toNat xd.2.1)))))) (w5d : (i64.wrap (xd.2.2.line - (i64.wrap (xd.2.2.men (Int.toNat xd.2.1))))) < pHeight xd.2.2 xd.1) (w6d : (List.length xd.1) + 1 ≤ 1048576) : wChoose_L1nn p seen xd (.inl ((xd.1 ++ [(pFetch xd.2.2 xd.1 xd.2.1 (i64.wrap (xd.2.2.line - (i64.wrap (xd.2.2.men (Int.toNat xd.2.1))))))]), (i64.wrap (xd.2.1 + 4)), xd.2.2))
  | p5 (d1 : (decide (xd.2.1 < 256)) = false) : wChoose_L1nn p seen xd (.inr (.inl (xd.1, xd.2.1, xd.2.2)))
def wChoose_L1nn_T (p : Pic) (seen : Bool) (xd : (List Sprite) × Int × Pic) : Tm := [(0, .pointer (some ⟨1000, 0, none⟩)), (4, .int .i64 xd.2.1)]
def wChoose_L1nn_H (p : Pic) (seen : Bool) (xd : (List Sprite) × Int × Pic) : Heap := [(1000, (Pic.bl xd.2.2 (.slice (some ⟨1002, 0, (some 0)⟩) (List.length xd.1) 5) false)), (1002, ⟨[rowsL Sprite.cells Sprite.nil 5 xd.1], 92, false⟩)]
def wChoose_L1nn_T1 (p : Pic) (seen : Bool) : (((List Sprite) × Int × Pic) ⊕ ((List Sprite) × Int × Pic)) → Tm
  | .inl q_ => wChoose_L1nn_T p seen q_
  | .inr q_ => wChoose_L1nn_T p seen q_
def wChoose_L1nn_H1 (p : Pic) (seen : Bool) : (((List Sprite) × Int × Pic) ⊕ ((List Sprite) × Int × Pic)) → Heap
  | .inl q_ => wChoose_L1nn_H p seen q_
  | .inr q_ => wChoose_L1nn_H p seen q_
def wChoose_L1nn_ex : (((List Sprite) × Int × Pic) ⊕ ((List Sprite) × Int × Pic)) → Ex
  | .inl _ => .exit 0
  | .inr _ => .ret
theorem wChoose_L1nn_p1 (p : Pic) (seen : Bool) (xd : (List Sprite) × Int × Pic) (d1 : (decide (xd.2.1 < 256)) = true) (w1d : 0 ≤ xd.2.1) (d2 : (decide ((i64.wrap (xd.2.2.line - (i64.wrap (xd.2.2.men (Int.toNat xd.2.1))))) < 0)) = true) : RunsM Try.prog 66 (bodyOf Try.f52 [1, 1, 1, 0, 0]) 1002 (wChoose_L1nn_T p seen xd) (wChoose_L1nn_H p seen xd) 1003 .normal (wChoose_L1nn_T p seen (xd.1, (i64.wrap (xd.2.1 + 4)), xd.2.2)) (wChoose_L1nn_H p seen (xd.1, (i64.wrap (xd.2.1 + 4)), xd.2.2)) 1003 := by
  have o1 : 0 ≤ xd.2.1 ∧ xd.2.1 < ((256 : Nat) : Int) := by first | decide | omega | (simp only [decide_eq_true_eq, decide_eq_false_iff_not, rng, IntKind.wrap_i64, IntKind.wrap_u8, IntKind.wrap_u16] at *; omega)
  have o2 : (Int.toNat xd.2.1) < 256 := by first | decide | omega | (simp only [decide_eq_true_eq, decide_eq_false_iff_not, rng, IntKind.wrap_i64, IntKind.wrap_u8, IntKind.wrap_u16] at *; omega)
  exact runsM_of_x hG hM 400 1002 [.yes, .sym, .yes, .yes, .yes, .yes, .yes, .yes] [(1000, 1000), (1002, 1002)] (J d1 (J o1 (J o2 (J d2 (J d2 (J d2 (J d2 (J d2 (J T1 trivial))))))))) (by kernel_rfl)
theorem wChoose_L1nn_p2 (p : Pic) (seen : Bool) (xd : (List Sprite) × Int × Pic) (d1 : (decide (xd.2.1 < 256)) = true) (w1d : 0 ≤ xd.2.1) (d2 : (decide ((i64.wrap (xd.2.2.line - (i64.wrap (xd.2.2.men (Int.toNat xd.2.1))))) < 0)) = false) (d3 : (decide ((i64.wrap (xd.2.2.line - (i64.wrap (xd.2.2.men (Int.toNat xd.2.1))))) ≥ (pHeight xd.2.2 xd.1))) = true) : RunsM Try.prog 66 (bodyOf Try.f52 [1, 1, 1, 0, 0]) 1002 (wChoose_L1nn_T p seen xd) (wChoose_L1nn_H p seen xd) 1003 .normal (wChoose_L1nn_T p seen (xd.1, (i64.wrap (xd.2.1 + 4)), xd.2.2)) (wChoose_L1nn_H p seen (xd.1, (i64.wrap (xd.2.1 + 4)), xd.2.2)) 1003 := by
  have o1 : 0 ≤ xd.2.1 ∧ xd.2.1 < ((256 : Nat) : Int) := by first | decide | omega | (simp only [decide_eq_true_eq, decide_eq_false_iff_not, rng, IntKind.wrap_i64, IntKind.wrap_u8, IntKind.wrap_u16] at *; omega)
  have o2 : (Int.toNat xd.2.1) < 256 := by first | decide | omega | (simp only [decide_eq_true_eq, decide_eq_false_iff_not, rng, IntKind.wrap_i64, IntKind.wrap_u8, IntKind.wrap_u16] at *; omega)
  exact runsM_of_x hG hM 400 1002 [.yes, .sym, .no, .no, .no, .callr [(1000, 1000), (1002, 1001)] [1000, 1002] [] 1002 (.int .i64 (pHeight xd.2.2 xd.1)) [], .no, .no, .yes] [(1000, 1000), (1002, 1002)] (J d1 (J o1 (J o2 (J d2 (J d2 (J d2 (J (pHeight_ok xd.2.2 xd.1) (J d2 (J d2 (J d3 trivial)))))))))) (by kernel_rfl)
theorem wChoose_L1nn_p3 (p : Pic) (seen : Bool) (xd : (List Sprite) × Int × Pic) (d1 : (decide (xd.2.1 < 256)) = true) (w1d : 0 ≤ xd.2.1) (d2 : (decide ((i64.wrap (xd.2.2.line - (i64.wrap (xd.2.2.men (Int.toNat xd.2.1))))) < 0)) = false) (d3 : (decide ((i64.wrap (xd.2.2.line - (i64.wrap (xd.2.2.men (Int.toNat xd.2.1))))) ≥ (pHeight xd.2.2 xd.1))) = false) (d4 : (((((List.length xd.1) : Nat) : Int) : Int) == 8) = true) : RunsM Try.prog 66 (bodyOf Try.f52 [1, 1, 1, 0, 0]) 1002 (wChoose_L1nn_T p seen xd) (wChoose_L1nn_H p seen xd) 1003 .ret (wChoose_L1nn_T1 p seen (.inr (xd.1, xd.2.1, ({ xd.2.2 with flags := (bOr .u8 xd.2.2.flags 32) } : Pic)))) (wChoose_L1nn_H1 p seen (.inr (xd.1, xd.2.1, ({ xd.2.2 with flags := (bOr .u8 xd.2.2.flags 32) } : Pic)))) 1003 := by
  have o1 : 0 ≤ xd.2.1 ∧ xd.2.1 < ((256 : Nat) : Int) := by first | decide | omega | (simp only [decide_eq_true_eq, decide_eq_false_iff_not, rng, IntKind.wrap_i64, IntKind.wrap_u8, IntKind.wrap_u16] at *; omega)
  have o2 : (Int.toNat xd.2.1) < 256 := by first | decide | omega | (simp only [decide_eq_true_eq, decide_eq_false_iff_not, rng, IntKind.wrap_i64, IntKind.wrap_u8, IntKind.wrap_u16] at *; omega)
  exact runsM_of_x hG hM 400 1002 [.yes, .sym, .no, .no, .no, .callr [(1000, 1000), (1002, 1001)] [1000, 1002] [] 1002 (.int .i64 (pHeight xd.2.2 xd.1)) [], .no, .no, .no, .yes] [(1000, 1000), (1002, 1002)] (J d1 (J o1 (J o2 (J d2 (J d2 (J d2 (J (pHeight_ok xd.2.2 xd.1) (J d2 (J d2 (J d3 (J d4 trivial))))))))))) (by kernel_rfl)
theorem wChoose_L1nn_p4 (p : Pic) (seen : Bool) (xd : (List Sprite) × Int × Pic) (d1 : (decide (xd.2.1 < 256)) = true) (w1d : 0 ≤ xd.2.1) (d2 : (decide ((i64.wrap (xd.2.2.line - (i64.wrap (xd.2.2.men (Int.toNat xd.2.1))))) < 0)) = false) (d3 : (decide ((i64.wrap (xd.2.2.line - (i64.wrap (xd.2.2.men (Int.toNat xd.2.1))))) ≥ (pHeight xd.2.2 xd.1))) = false) (d4 : (((((List.length xd.1) : Nat) : Int) : Int) == 8) = false) (w2d : Pic.ok xd.2.2) (w3d : xd.2.1 < 253) (w4d : 0 ≤ (i64.wrap (xd.2.2.line - (i64.wrap (xd.2.2.men (Int.toNat xd.2.1)))))) (w5d : (i64.wrap (xd.2.2.line - (i64.wrap (xd.2.2.men (Int.toNat xd.2.1))))) < pHeight xd.2.2 xd.1) (w6d : (List.length xd.1) + 1 ≤ 1048576) : RunsM Try.prog 66 (bodyOf Try.f52 [1, 1, 1, 0, 0]) 1002 (wChoose_L1nn_T p seen xd) (wChoose_L1nn_H p seen xd) 1003 .normal (wChoose_L1nn_T p seen ((xd.1 ++ [(pFetch xd.2.2 xd.1 xd.2.1 (i64.wrap (xd.2.2.line - (i64.wrap (xd.2.2.men (Int.toNat xd.2.1))))))]), (i64.wrap (xd.2.1 + 4)), xd.2.2)) (wChoose_L1nn_H p seen ((xd.1 ++ [(pFetch xd.2.2 xd.1 xd.2.1 (i64.wrap (xd.2.2.line - (i64.wrap (xd.2.2.men (Int.toNat xd.2.1))))))]), (i64.wrap (xd.2.1 + 4)), xd.2.2)) 1003 := by
  have o1 : 0 ≤ xd.2.1 ∧ xd.2.1 < ((256 : Nat) : Int) := by first | decide | omega | (simp only [decide_eq_true_eq, decide_eq_false_iff_not, rng, IntKind.wrap_i64, IntKind.wrap_u8, IntKind.wrap_u16] at *; omega)
  have o2 : (Int.toNat xd.2.1) < 256 := by first | decide | omega | (simp only [decide_eq_true_eq, decide_eq_false_iff_not, rng, IntKind.wrap_i64, IntKind.wrap_u8, IntKind.wrap_u16] at *; omega)
  exact runsM_of_x hG hM 400 1002 [.yes, .sym, .no, .no, .no, .callr [(1000, 1000), (1002, 1001)] [1000, 1002] [] 1002 (.int .i64 (pHeight xd.2.2 xd.1)) [], .no, .no, .no, .no, .callr [(1000, 1000), (1002, 1001)] [1000, 1002] [] 1002 (Sprite.enc (pFetch xd.2.2 xd.1 xd.2.1 (i64.wrap (xd.2.2.line - (i64.wrap (xd.2.2.men (Int.toNat xd.2.1))))))) [], .eq 63 (.slice (some ⟨1004, 0, (some 0)⟩) (List.length (xd.1 ++ [(pFetch xd.2.2 xd.1 xd.2.1 (i64.wrap (xd.2.2.line - (i64.wrap (xd.2.2.men (Int.toNat xd.2.1))))))])) 5), .list [rowsL Sprite.cells Sprite.nil 5 (xd.1 ++ [(pFetch xd.2.2 xd.1 xd.2.1 (i64.wrap (xd.2.2.line - (i64.wrap (xd.2.2.men (Int.toNat xd.2.1))))))])]] [(1000, 1000), (1004, 1002)] (J d1 (J o1 (J o2 (J d2 (J d2 (J d2 (J (pHeight_ok xd.2.2 xd.1) (J d2 (J d2 (J d3 (J d4 (J (pFetch_ok xd.2.2 xd.1 xd.2.1 (i64.wrap (xd.2.2.line - (i64.wrap (xd.2.2.men (Int.toNat xd.2.1))))) w2d w1d w3d w4d w5d) (J (sl_snoc 1004 5 xd.1 (pFetch xd.2.2 xd.1 xd.2.1 (i64.wrap (xd.2.2.line - (i64.wrap (xd.2.2.men (Int.toNat xd.2.1))))))) (J (Sprite_snoc xd.1 (pFetch xd.2.2 xd.1 xd.2.1 (i64.wrap (xd.2.2.line - (i64.wrap (xd.2.2.men (Int.toNat xd.2.1))))))) (J w6d (J (rows_size Sprite.cells Sprite.nil 5 92 false xd.1) trivial)))))))))))))))) (by kernel_rfl)
theorem wChoose_L1nn_p5 (p : Pic) (seen : Bool) (xd : (List Sprite) × Int × Pic) (d1 : (decide (xd.2.1 < 256)) = false) : RunsM Try.prog 66 (bodyOf Try.f52 [1, 1, 1, 0, 0]) 1002 (wChoose_L1nn_T p seen xd) (wChoose_L1nn_H p seen xd) 1003 (.exit 0) (wChoose_L1nn_T1 p seen (.inl (xd.1, xd.2.1, xd.2.2))) (wChoose_L1nn_H1 p seen (.inl (xd.1, xd.2.1, xd.2.2))) 1003 := by
  exact runsM_of_x hG hM 400 1002 [.no] [(1000, 1000), (1002, 1002)] (J d1 trivial) (by kernel_rfl)
theorem wChoose_L1nn_runs (p : Pic) (seen : Bool) (x_ : (List Sprite) × Int × Pic) (y_ : ((List Sprite) × Int × Pic) ⊕ ((List Sprite) × Int × Pic)) (h_ : LoopR (wChoose_L1nn p seen) x_ y_) : RunsM Try.prog 66 (.block 0 (.loop (bodyOf Try.f52 [1, 1, 1, 0, 0]))) 1002 (wChoose_L1nn_T p seen x_) (wChoose_L1nn_H p seen x_) 1003 (outOf 0 (wChoose_L1nn_ex y_)) (wChoose_L1nn_T1 p seen y_) (wChoose_L1nn_H1 p seen y_) 1003 := by
  refine block_loopM hG (wChoose_L1nn p seen) (wChoose_L1nn_T p seen) (wChoose_L1nn_H p seen) wChoose_L1nn_ex (wChoose_L1nn_T1 p seen) (wChoose_L1nn_H1 p seen) ?_ ?_ ?_ x_ y_ h_
  · intro s r _ hr; cases r <;> cases hr
  · intro xd y_ hx
    cases hx with
    | p1 d1 w1d d2 => exact wChoose_L1nn_p1 p seen xd d1 w1d d2
    | p2 d1 w1d d2 d3 => exact wChoose_L1nn_p2 p seen xd d1 w1d d2 d3
    | p4 d1 w1d d2 d3 d4 w2d w3d w4d w5d w6d => exact wChoose_L1nn_p4 p seen xd d1 w1d d2 d3 d4 w2d w3d w4d w5d w6d
  · intro xd y_ hx
    cases hx with
    | p3 d1 w1d d2 d3 d4 => exact wChoose_L1nn_p3 p seen xd d1 w1d d2 d3 d4
    | p5 d1 => exact wChoose_L1nn_p5 p seen xd d1
theorem wChoose_p1 (p : Pic) (p_chosen : List Sprite) (seen : Bool) (c1 : (!seen) = true) : FnSpec Try.prog 52 1002 [.pointer (some ⟨1000, 0, none⟩), .bool seen] [(1000, (Pic.bl p (.slice (some ⟨1001, 0, (some 0)⟩) (List.length p_chosen) 5) false)), (1001, ⟨[rowsL Sprite.cells Sprite.nil 5 p_chosen], 92, false⟩)] (.tuple ⟨[]⟩) [(1000, (Pic.bl ((p, ([] : List Sprite)).1) (.slice (some ⟨1002, 0, (some 0)⟩) (List.length ((p, ([] : List Sprite)).2)) 5) false)), (1002, ⟨[rowsL Sprite.cells Sprite.nil 5 ((p, ([] : List Sprite)).2)], 92, false⟩)] := by
  exact fn_ren (v := .tuple ⟨[]⟩) (H1 := [(1000, (Pic.bl p (.slice none 0 0) false))]) (fn_of_x hG hM Try.func52 (by kernel_rfl) (by kernel_rfl) 400 [.yes, .yes, .yes, .yes, .yes] (J c1 (J c1 (J c1 (J c1 (J T1 trivial))))) (by kernel_rfl)) [(1000, 1000)] 1003 (by kernel_rfl)
theorem wChoose_p2 (p : Pic) (p_chosen : List Sprite) (seen : Bool) (c1 : (!seen) = false) (c2 : (!(pShows p ([] : List Sprite))) = true) : FnSpec Try.prog 52 1002 [.pointer (some ⟨1000, 0, none⟩), .bool seen] [(1000, (Pic.bl p (.slice (some ⟨1001, 0, (some 0)⟩) (List.length p_chosen) 5) false)), (1001, ⟨[rowsL Sprite.cells Sprite.nil 5 p_chosen], 92, false⟩)] (.tuple ⟨[]⟩) [(1000, (Pic.bl ((p, ([] : List Sprite)).1) (.slice (some ⟨1002, 0, (some 0)⟩) (List.length ((p, ([] : List Sprite)).2)) 5) false)), (1002, ⟨[rowsL Sprite.cells Sprite.nil 5 ((p, ([] : List Sprite)).2)], 92, false⟩)] := by
  exact fn_ren (v := .tuple ⟨[]⟩) (H1 := [(1000, (Pic.bl p (.slice none 0 0) false))]) (fn_of_x hG hM Try.func52 (by kernel_rfl) (by kernel_rfl) 400 [.no, .no, .callr [(1000, 1000)] [1000] [] 1001 (.bool (pShows p ([] : List Sprite))) [], .no, .no, .yes] (J c1 (J c1 (J (fn_nil hG (pShows_ok p ([] : List Sprite)) [(1000, 1000)] 1001 [.pointer (some ⟨1000, 0, none⟩)] [(1000, (Pic.bl p (.slice none 0 0) true))] (by kernel_rfl)) (J c1 (J c1 (J c2 trivial)))))) (by kernel_rfl)) [(1000, 1000)] 1003 (by kernel_rfl)
theorem wChoose_p3 (p : Pic) (p_chosen : List Sprite) (seen : Bool) (c1 : (!seen) = false) (c2 : (!(pShows p ([] : List Sprite))) = false) (r1 : (List Sprite) × Int × Pic) (l1 : LoopR (wChoose_L1nn p seen) ([], 0, p) (.inl r1)) : FnSpec Try.prog 52 1002 [.pointer (some ⟨1000, 0, none⟩), .bool seen] [(1000, (Pic.bl p (.slice (some ⟨1001, 0, (some 0)⟩) (List.length p_chosen) 5) false)), (1001, ⟨[rowsL Sprite.cells Sprite.nil 5 p_chosen], 92, false⟩)] (.tuple ⟨[]⟩) [(1000, (Pic.bl ((r1.2.2, r1.1).1) (.slice (some ⟨1002, 0, (some 0)⟩) (List.length ((r1.2.2, r1.1).2)) 5) false)), (1002, ⟨[rowsL Sprite.cells Sprite.nil 5 ((r1.2.2, r1.1).2)], 92, false⟩)] := by
  exact fn_ren (v := .tuple ⟨[]⟩) (H1 := [(1000, (Pic.bl r1.2.2 (.slice (some ⟨1002, 0, (some 0)⟩) (List.length r1.1) 5) false)), (1002, ⟨[rowsL Sprite.cells Sprite.nil 5 r1.1], 92, false⟩)]) (fn_of_x hG hM Try.func52 (by kernel_rfl) (by kernel_rfl) 400 [.no, .no, .callr [(1000, 1000)] [1000] [] 1001 (.bool (pShows p ([] : List Sprite))) [], .no, .no, .no, .segk 1 0 [0, 4] [1000] .normal (wChoose_L1nn_T1 p seen (.inl r1)) (wChoose_L1nn_H1 p seen (.inl r1)) 1003] (J c1 (J c1 (J (fn_nil hG (pShows_ok p ([] : List Sprite)) [(1000, 1000)] 1001 [.pointer (some ⟨1000, 0, none⟩)] [(1000, (Pic.bl p (.slice none 0 0) true))] (by kernel_rfl)) (J c1 (J c1 (J c2 (J (runs_of_pre hG (wChoose_L1nn_runs p seen ([], 0, p) (.inl r1) l1) [(1000, 1000)] (T := [(0, .pointer (some ⟨1000, 0, none⟩)), (4, .int .i64 0)]) (H := [(1000, (Pic.bl p (.slice none 0 0) false))]) (by kernel_rfl)) trivial))))))) (by kernel_rfl)) [(1000, 1000), (1002, 1002)] 1003 (by kernel_rfl)
theorem wChoose_p4 (p : Pic) (p_chosen : List Sprite) (seen : Bool) (c1 : (!seen) = false) (c2 : (!(pShows p ([] : List Sprite))) = false) (r1 : (List Sprite) × Int × Pic) (l1 : LoopR (wChoose_L1nn p seen) ([], 0, p) (.inr r1)) : FnSpec Try.prog 52 1002 [.pointer (some ⟨1000, 0, none⟩), .bool seen] [(1000, (Pic.bl p (.slice (some ⟨1001, 0, (some 0)⟩) (List.length p_chosen) 5) false)), (1001, ⟨[rowsL Sprite.cells Sprite.nil 5 p_chosen], 92, false⟩)] (.tuple ⟨[]⟩) [(1000, (Pic.bl ((r1.2.2, r1.1).1) (.slice (some ⟨1002, 0, (some 0)⟩) (List.length ((r1.2.2, r1.1).2)) 5) false)), (1002, ⟨[rowsL Sprite.cells Sprite.nil 5 ((r1.2.2, r1.1).2)], 92, false⟩)] := by
  exact fn_ren (v := .tuple ⟨[]⟩) (H1 := [(1000, (Pic.bl r1.2.2 (.slice (some ⟨1002, 0, (some 0)⟩) (List.length r1.1) 5) false)), (1002, ⟨[rowsL Sprite.cells Sprite.nil 5 r1.1], 92, false⟩)]) (fn_of_x hG hM Try.func52 (by kernel_rfl) (by kernel_rfl) 400 [.no, .no, .callr [(1000, 1000)] [1000] [] 1001 (.bool (pShows p ([] : List Sprite))) [], .no, .no, .no, .segk 1 0 [0, 4] [1000] .ret (wChoose_L1nn_T1 p seen (.inr r1)) (wChoose_L1nn_H1 p seen (.inr r1)) 1003] (J c1 (J c1 (J (fn_nil hG (pShows_ok p ([] : List Sprite)) [(1000, 1000)] 1001 [.pointer (some ⟨1000, 0, none⟩)] [(1000, (Pic.bl p (.slice none 0 0) true))] (by kernel_rfl)) (J c1 (J c1 (J c2 (J (runs_of_pre hG (wChoose_L1nn_runs p seen ([], 0, p) (.inr r1) l1) [(1000, 1000)] (T := [(0, .pointer (some ⟨1000, 0, none⟩)), (4, .int .i64 0)]) (H := [(1000, (Pic.bl p (.slice none 0 0) false))]) (by kernel_rfl)) trivial))))))) (by kernel_rfl)) [(1000, 1000), (1002, 1002)] 1003 (by kernel_rfl)
end Go.Proofs.Ytgnhhnmpeklciaa
namespace Go.Proofs.Ytgnhhnmpeklciaa
open Go VX
open Go.IntKind (i64 u8 u16)
set_option linter.unusedVariables false
set_option linter.unusedSimpArgs false
set_option maxRecDepth 100000
def manAt (s : Sprite) (x : Int) : Int := i64.wrap (x - i64.wrap s.x)
def manNo (s : Sprite) (x : Int) : Int :=
  if manAt s x < 0 then 0
  else if manAt s x ≥ 8 then 0
  else if (((bAnd .u8 s.look 64) : Int) != 0) = true then two s.low s.high (i64.wrap (7 - manAt s x))
  else two s.low s.high (manAt s x)
def noMan : Sprite := ⟨0, 0, 0, 0, false⟩
def findMan (x : Int) : List Sprite → Int × Sprite
  | [] => (0, noMan)
  | s :: r => if manNo s x = 0 then findMan x r else (manNo s x, s)
def pSpriteF (p : Pic) (L : List Sprite) (x : Int) : Int × Sprite :=
  if (((bAnd .u8 p.mask 16) : Int) == 0) = true then (0, noMan)
  else if (decide ((x : Int) < 8)) = true then (if (((bAnd .u8 p.mask 4) : Int) == 0) = true then (0, noMan) else findMan x L)
  else findMan x L
theorem man_loop (p : Pic) (x : Int) (hx : 0 ≤ x) (hx2 : x < 256) (L : List Sprite) (hL : L.length ≤ 1048576) : ∀ (M pre : List Sprite), L = pre ++ M →
    (findMan x M = (0, noMan) ∧ ∃ i, LoopR (wSprite_L1nyn p L x) ((pre.length : Int), 0, noMan) (.inl (i, 0, noMan))) ∨
    (∃ i, LoopR (wSprite_L1nyn p L x) ((pre.length : Int), 0, noMan) (.inr (i, (findMan x M).1, (findMan x M).2)))
  | [], pre, h => by
    refine .inl ⟨rfl, (pre.length : Int), .last (.p7 (decide_eq_false ?_))⟩
    rw [h]; simp
  | s :: r, pre, h => by
    have hlen : L.length = pre.length + (r.length + 1) := by rw [h]; simp
    have hg : List.getD L (Int.toNat (pre.length : Int)) Sprite.nil = s := by rw [h, Int.toNat_natCast]; simp
    have hd : (decide (((pre.length : Int) : Int) < (((List.length L) : Nat) : Int))) = true := decide_eq_true (by omega)
    have h0 : 0 ≤ (pre.length : Int) := by omega
    have hw : i64.wrap ((pre.length : Int) + 1) = (((pre ++ [s]).length : Nat) : Int) := by rw [IntKind.wrap_i64, List.length_append]; simp only [List.length_cons, List.length_nil]; omega
    have ih := man_loop p x hx hx2 L hL r (pre ++ [s]) (by rw [h]; simp)
    have go : ∀ (st : wSprite_L1nyn p L x ((pre.length : Int), 0, noMan) (.inl ((((pre ++ [s]).length : Nat) : Int), 0, noMan))), manNo s x = 0 →
        (findMan x (s :: r) = (0, noMan) ∧ ∃ i, LoopR (wSprite_L1nyn p L x) ((pre.length : Int), 0, noMan) (.inl (i, 0, noMan))) ∨
        (∃ i, LoopR (wSprite_L1nyn p L x) ((pre.length : Int), 0, noMan) (.inr (i, (findMan x (s :: r)).1, (findMan x (s :: r)).2))) := by
      intro st hm
      simp only [findMan, if_pos hm]
      rcases ih with ⟨e, i, t⟩ | ⟨i, t⟩
      · exact .inl ⟨e, i, .more st t⟩
      · exact .inr ⟨i, .more st t⟩
    by_cases c1 : manAt s x < 0
    · refine go ?_ (by unfold manNo; rw [if_pos c1])
      have := wSprite_L1nyn.p1 (p := p) (p_chosen := L) (x := x) (xd := ((pre.length : Int), 0, noMan)) hd h0 (by simp only [hg]; exact decide_eq_true c1)
      simp only [hw] at this; exact this
    by_cases c2 : manAt s x ≥ 8
    · refine go ?_ (by unfold manNo; rw [if_neg c1, if_pos c2])
      have := wSprite_L1nyn.p2 (p := p) (p_chosen := L) (x := x) (xd := ((pre.length : Int), 0, noMan)) hd h0 (by simp only [hg]; exact decide_eq_false c1) (by simp only [hg]; exact decide_eq_true c2)
      simp only [hw] at this; exact this
    cases c3 : (((bAnd .u8 s.look 64) : Int) != 0) with
    | true =>
      have e : manNo s x = two s.low s.high (i64.wrap (7 - manAt s x)) := by unfold manNo; rw [if_neg c1, if_neg c2, if_pos c3]
      have w2 : 0 ≤ i64.wrap (7 - manAt s x) := by rw [IntKind.wrap_i64]; omega
      by_cases c4 : manNo s x = 0
      · refine go ?_ c4
        have := wSprite_L1nyn.p4 (p := p) (p_chosen := L) (x := x) (xd := ((pre.length : Int), 0, noMan)) hd h0 (by simp only [hg]; exact decide_eq_false c1) (by simp only [hg]; exact decide_eq_false c2) (by simp only [hg]; exact c3) (by simp only [hg]; exact w2) (by simp only [hg]; show (two s.low s.high (i64.wrap (7 - manAt s x)) != 0) = false; rw [← e, c4]; rfl)
        simp only [hw] at this; exact this
      · refine .inr ⟨(pre.length : Int), .last ?_⟩
        have := wSprite_L1nyn.p3 (p := p) (p_chosen := L) (x := x) (xd := ((pre.length : Int), 0, noMan)) hd h0 (by simp only [hg]; exact decide_eq_false c1) (by simp only [hg]; exact decide_eq_false c2) (by simp only [hg]; exact c3) (by simp only [hg]; exact w2) (by simp only [hg]; show (two s.low s.high (i64.wrap (7 - manAt s x)) != 0) = true; rw [← e]; simpa using c4)
        simp only [hg] at this
        simp only [findMan, if_neg c4]
        rw [e]; exact this
    | false =>
      have e : manNo s x = two s.low s.high (manAt s x) := by unfold manNo; rw [if_neg c1, if_neg c2, if_neg (by rw [c3]; decide)]
      have w2 : 0 ≤ manAt s x := by omega
      by_cases c4 : manNo s x = 0
      · refine go ?_ c4
        have := wSprite_L1nyn.p6 (p := p) (p_chosen := L) (x := x) (xd := ((pre.length : Int), 0, noMan)) hd h0 (by simp only [hg]; exact decide_eq_false c1) (by simp only [hg]; exact decide_eq_false c2) (by simp only [hg]; exact c3) (by simp only [hg]; exact w2) (by simp only [hg]; show (two s.low s.high (manAt s x) != 0) = false; rw [← e, c4]; rfl)
        simp only [hw] at this; exact this
      · refine .inr ⟨(pre.length : Int), .last ?_⟩
        have := wSprite_L1nyn.p5 (p := p) (p_chosen := L) (x := x) (xd := ((pre.length : Int), 0, noMan)) hd h0 (by simp only [hg]; exact decide_eq_false c1) (by simp only [hg]; exact decide_eq_false c2) (by simp only [hg]; exact c3) (by simp only [hg]; exact w2) (by simp only [hg]; show (two s.low s.high (manAt s x) != 0) = true; rw [← e]; simpa using c4)
        simp only [hg] at this
        simp only [findMan, if_neg c4]
        rw [e]; exact this
def chooseL (p : Pic) : Nat → Nat → List Sprite → List Sprite × Pic
  | 0, _, L => (L, p)
  | n + 1, k, L =>
    if i64.wrap (p.line - i64.wrap (p.men k)) < 0 then chooseL p n (k + 4) L
    else if i64.wrap (p.line - i64.wrap (p.men k)) ≥ pHeight p L then chooseL p n (k + 4) L
    else if L.length = 8 then (L, { p with flags := (bOr .u8 p.flags 32) })
    else chooseL p n (k + 4) (L ++ [pFetch p L (k : Int) (i64.wrap (p.line - i64.wrap (p.men k)))])
def pChooseF (p : Pic) (L : List Sprite) (seen : Bool) : Pic × List Sprite :=
  if (!seen) = true then (p, [])
  else if (!(pShows p ([] : List Sprite))) = true then (p, [])
  else ((chooseL p 64 0 []).2, (chooseL p 64 0 []).1)
theorem choose_loop (p : Pic) (seen : Bool) (wp : Pic.ok p) : ∀ (n k : Nat) (L : List Sprite), k + 4 * n = 256 → L.length ≤ 8 →
    ∃ i, LoopR (wChoose_L1nn p seen) (L, (k : Int), p) (.inl ((chooseL p n k L).1, i, (chooseL p n k L).2)) ∨ LoopR (wChoose_L1nn p seen) (L, (k : Int), p) (.inr ((chooseL p n k L).1, i, (chooseL p n k L).2))
  | 0, k, L, hk, hL => ⟨(k : Int), .inl (.last (.p5 (decide_eq_false (by show ¬ ((k : Int) < 256); omega))))⟩
  | n + 1, k, L, hk, hL => by
    have hd : (decide (((k : Int) : Int) < 256)) = true := decide_eq_true (by omega)
    have h0 : 0 ≤ (k : Int) := by omega
    have hw : i64.wrap ((k : Int) + 4) = ((k + 4 : Nat) : Int) := by rw [IntKind.wrap_i64]; omega
    have hk' : Int.toNat (k : Int) = k := Int.toNat_natCast k
    have more : ∀ (L' : List Sprite), wChoose_L1nn p seen (L, (k : Int), p) (.inl (L', ((k + 4 : Nat) : Int), p)) → L'.length ≤ 8 →
        ∃ i, LoopR (wChoose_L1nn p seen) (L, (k : Int), p) (.inl ((chooseL p n (k + 4) L').1, i, (chooseL p n (k + 4) L').2)) ∨ LoopR (wChoose_L1nn p seen) (L, (k : Int), p) (.inr ((chooseL p n (k + 4) L').1, i, (chooseL p n (k + 4) L').2)) := by
      intro L' st hl
      obtain ⟨i, t | t⟩ := choose_loop p seen wp n (k + 4) L' (by omega) hl
      · exact ⟨i, .inl (.more st t)⟩
      · exact ⟨i, .inr (.more st t)⟩
    generalize hrow : i64.wrap (p.line - i64.wrap (p.men k)) = row
    by_cases c1 : row < 0
    · have e : chooseL p (n + 1) k L = chooseL p n (k + 4) L := by simp only [chooseL, hrow, if_pos c1]
      rw [e]
      refine more L ?_ hL
      have := wChoose_L1nn.p1 (p := p) (seen := seen) (xd := (L, (k : Int), p)) hd h0 (by simp only [hk', hrow]; exact decide_eq_true c1)
      simp only [hw] at this; exact this
    by_cases c2 : row ≥ pHeight p L
    · have e : chooseL p (n + 1) k L = chooseL p n (k + 4) L := by simp only [chooseL, hrow, if_neg c1, if_pos c2]
      rw [e]
      refine more L ?_ hL
      have := wChoose_L1nn.p2 (p := p) (seen := seen) (xd := (L, (k : Int), p)) hd h0 (by simp only [hk', hrow]; exact decide_eq_false c1) (by simp only [hk', hrow]; exact decide_eq_true c2)
      simp only [hw] at this; exact this
    by_cases c3 : L.length = 8
    · have e : chooseL p (n + 1) k L = (L, { p with flags := (bOr .u8 p.flags 32) }) := by simp only [chooseL, hrow, if_neg c1, if_neg c2, if_pos c3]
      rw [e]
      exact ⟨(k : Int), .inr (.last (.p3 hd h0 (by simp only [hk', hrow]; exact decide_eq_false c1) (by simp only [hk', hrow]; exact decide_eq_false c2) (by simp only [c3]; rfl)))⟩
    · have e : chooseL p (n + 1) k L = chooseL p n (k + 4) (L ++ [pFetch p L (k : Int) row]) := by simp only [chooseL, hrow, if_neg c1, if_neg c2, if_neg c3]
      rw [e]
      refine more _ ?_ (by rw [List.length_append]; simp only [List.length_cons, List.length_nil]; omega)
      have := wChoose_L1nn.p4 (p := p) (seen := seen) (xd := (L, (k : Int), p)) hd h0 (by simp only [hk', hrow]; exact decide_eq_false c1) (by simp only [hk', hrow]; exact decide_eq_false c2) (by simp only [beq_eq_false_iff_ne]; omega) wp (by show (k : Int) < 253; omega) (by simp only [hk', hrow]; omega) (by simp only [hk', hrow]; omega) (by show L.length + 1 ≤ _; omega)
      simp only [hw, hk', hrow] at this; exact this
end Go.Proofs.Ytgnhhnmpeklciaa
namespace Go.Proofs.Ytgnhhnmpeklciaa
open Go VX
set_option linter.unusedVariables false
set_option linter.unusedSimpArgs false
set_option maxRecDepth 100000
theorem pSpriteF_ok (p : Pic) (p_chosen : List Sprite) (x : Int) (hx : 0 ≤ x) (hx2 : x < 256) (hL : (List.length p_chosen) ≤ 8) : FnSpec Try.prog 71 1002 [.pointer (some ⟨1000, 0, none⟩), .int .i64 x] [(1000, (Pic.bl p (.slice (some ⟨1001, 0, (some 0)⟩) (List.length p_chosen) 5) false)), (1001, ⟨[rowsL Sprite.cells Sprite.nil 5 p_chosen], 92, false⟩)] (.tuple ⟨[.int .u8 ((pSpriteF p p_chosen x).1), Sprite.enc ((pSpriteF p p_chosen x).2)]⟩) [(1000, (Pic.bl p (.slice (some ⟨1001, 0, (some 0)⟩) (List.length p_chosen) 5) false)), (1001, ⟨[rowsL Sprite.cells Sprite.nil 5 p_chosen], 92, false⟩)] := by
  have loop := man_loop p x hx hx2 p_chosen (by omega) p_chosen [] rfl
  have e : ∀ q : Int × Sprite, pSpriteF p p_chosen x = q → q = pSpriteF p p_chosen x := fun q h => h.symm
  rcases bt ((((bAnd .u8 p.mask 16) : Int) == 0)) with c1 | c1
  · rw [show pSpriteF p p_chosen x = (0, noMan) from by unfold pSpriteF; rw [if_pos c1]]
    exact wSprite_p1 p p_chosen x hx hx2 c1
  · rcases bt (decide ((x : Int) < 8)) with c2 | c2
    · rcases bt ((((bAnd .u8 p.mask 4) : Int) == 0)) with c3 | c3
      · rw [show pSpriteF p p_chosen x = (0, noMan) from by unfold pSpriteF; rw [if_neg (nt c1), if_pos c2, if_pos c3]]
        exact wSprite_p2 p p_chosen x hx hx2 c1 c2 c3
      · rw [show pSpriteF p p_chosen x = findMan x p_chosen from by unfold pSpriteF; rw [if_neg (nt c1), if_pos c2, if_neg (nt c3)]]
        rcases loop with ⟨h, i, t⟩ | ⟨i, t⟩
        · rw [h]; exact wSprite_p3 p p_chosen x hx hx2 c1 c2 c3 _ t
        · exact wSprite_p4 p p_chosen x hx hx2 c1 c2 c3 _ t
    · rw [show pSpriteF p p_chosen x = findMan x p_chosen from by unfold pSpriteF; rw [if_neg (nt c1), if_neg (nt c2)]]
      rcases loop with ⟨h, i, t⟩ | ⟨i, t⟩
      · rw [h]; exact wSprite_p5 p p_chosen x hx hx2 c1 c2 _ t
      · exact wSprite_p6 p p_chosen x hx hx2 c1 c2 _ t
theorem pChooseF_ok (p : Pic) (p_chosen : List Sprite) (seen : Bool) (wp : Pic.ok p) : FnSpec Try.prog 52 1002 [.pointer (some ⟨1000, 0, none⟩), .bool seen] [(1000, (Pic.bl p (.slice (some ⟨1001, 0, (some 0)⟩) (List.length p_chosen) 5) false)), (1001, ⟨[rowsL Sprite.cells Sprite.nil 5 p_chosen], 92, false⟩)] (.tuple ⟨[]⟩) [(1000, (Pic.bl ((pChooseF p p_chosen seen).1) (.slice (some ⟨1002, 0, (some 0)⟩) (List.length ((pChooseF p p_chosen seen).2)) 5) false)), (1002, ⟨[rowsL Sprite.cells Sprite.nil 5 ((pChooseF p p_chosen seen).2)], 92, false⟩)] := by
  rcases bt (!seen) with c1 | c1
  · rw [show pChooseF p p_chosen seen = (p, []) from by unfold pChooseF; rw [if_pos c1]]
    exact wChoose_p1 p p_chosen seen c1
  · rcases bt (!(pShows p ([] : List Sprite))) with c2 | c2
    · rw [show pChooseF p p_chosen seen = (p, []) from by unfold pChooseF; rw [if_neg (nt c1), if_pos c2]]
      exact wChoose_p2 p p_chosen seen c1 c2
    · rw [show pChooseF p p_chosen seen = ((chooseL p 64 0 []).2, (chooseL p 64 0 []).1) from by unfold pChooseF; rw [if_neg (nt c1), if_neg (nt c2)]]
      obtain ⟨i, t | t⟩ := choose_loop p seen wp 64 0 [] rfl (by decide)
      · generalize chooseL p 64 0 [] = q at t
        exact wChoose_p3 p p_chosen seen c1 c2 _ t
      · generalize chooseL p 64 0 [] = q at t
        exact wChoose_p4 p p_chosen seen c1 c2 _ t
theorem fetch_ok (p : Pic) (L : List Sprite) (a row : Int) (w : Pic.ok p) : Sprite.ok (pFetch p L a row) := by
  unfold pFetch
  repeat' split
  all_goals exact ⟨by first | exact w.tiles _ | exact rng_wrap_u8 _, by first | exact w.tiles _ | exact rng_wrap_u8 _, by first | exact w.men _ | exact rng_wrap_u8 _, by first | exact w.men _ | exact rng_wrap_u8 _⟩
theorem choose_len (p : Pic) : ∀ (n k : Nat) (L : List Sprite), L.length ≤ 8 → (chooseL p n k L).1.length ≤ 8
  | 0, _, L, h => h
  | n + 1, k, L, h => by
    unfold chooseL
    split
    · exact choose_len p n _ L h
    · split
      · exact choose_len p n _ L h
      · split
        · exact h
        · rename_i h8
          refine choose_len p n _ _ ?_
          rw [List.length_append]; simp only [List.length_cons, List.length_nil]; omega
theorem pChoose_len (p : Pic) (L : List Sprite) (seen : Bool) : (pChooseF p L seen).2.length ≤ 8 := by
  unfold pChooseF
  split
  · exact Nat.zero_le _
  · split
    · exact Nat.zero_le _
    · exact choose_len p 64 0 [] (Nat.zero_le _)
end Go.Proofs.Ytgnhhnmpeklciaa
namespace Go.Proofs.Ytgnhhnmpeklciaa
open Go VX
open Go.IntKind (i64 u8 u16)
set_option linter.unusedVariables false
set_option linter.unusedSimpArgs false
set_option maxRecDepth 100000
set_option maxHeartbeats 4000000
def pDraw_J1 (p : Pic) (p_chosen : List Sprite) (x : Int) : Bool :=
  if (((pTile p p_chosen x).1 : Int) != 0) = true then
    if (((pSpriteF p p_chosen x).1 : Int) != 0) = true then
      if ((pSpriteF p p_chosen x).2).first = true then
        (decide (x < 255))
      else
        false
    else
      false
  else
    false
def pDraw_J1_T (p : Pic) (p_chosen : List Sprite) (x : Int) : Tm := [(0, .pointer (some ⟨1000, 0, none⟩)), (1, .int .i64 x), (4, .int .u8 ((pTile p p_chosen x).1)), (5, .int .u8 ((pTile p p_chosen x).2)), (6, .int .u8 ((pSpriteF p p_chosen x).1)), (7, .pointer (some ⟨1002, 0, none⟩))]
def pDraw_J1_H (p : Pic) (p_chosen : List Sprite) (x : Int) : Heap := [(1002, ⟨[.one (.int .u8 (((pSpriteF p p_chosen x).2).low)), .one (.int .u8 (((pSpriteF p p_chosen x).2).high)), .one (.int .u8 (((pSpriteF p p_chosen x).2).look)), .one (.int .u8 (((pSpriteF p p_chosen x).2).x)), .one (.bool (((pSpriteF p p_chosen x).2).first))], 92, false⟩)]
def pDraw_J1_T1 (p : Pic) (p_chosen : List Sprite) (x : Int) (r_ : Bool) : Tm := [(0, .pointer (some ⟨1000, 0, none⟩)), (1, .int .i64 x), (4, .int .u8 ((pTile p p_chosen x).1)), (5, .int .u8 ((pTile p p_chosen x).2)), (6, .int .u8 ((pSpriteF p p_chosen x).1)), (7, .pointer (some ⟨1002, 0, none⟩)), (35, .bool r_)]
def pDraw_J1_H1 (p : Pic) (p_chosen : List Sprite) (x : Int) (r_ : Bool) : Heap := [(1002, ⟨[.one (.int .u8 (((pSpriteF p p_chosen x).2).low)), .one (.int .u8 (((pSpriteF p p_chosen x).2).high)), .one (.int .u8 (((pSpriteF p p_chosen x).2).look)), .one (.int .u8 (((pSpriteF p p_chosen x).2).x)), .one (.bool (((pSpriteF p p_chosen x).2).first))], 92, false⟩)]
theorem pDraw_J1_p1 (p : Pic) (p_chosen : List Sprite) (x : Int) (d1 : (((pTile p p_chosen x).1 : Int) != 0) = true) (d2 : (((pSpriteF p p_chosen x).1 : Int) != 0) = true) (d3 : ((pSpriteF p p_chosen x).2).first = true) : Runs Try.prog 95 (bodyOf Try.f49 [1, 1, 0, 0]) (pDraw_J1_T p p_chosen x) (pDraw_J1_H p p_chosen x) 1003 .normal (pDraw_J1_T1 p p_chosen x (decide (x < 255))) (pDraw_J1_H1 p p_chosen x (decide (x < 255))) 1003 := by
  exact runs_of_x hG hM 400 [.yes, .yes, .yes, .yes, .yes, .yes, .yes, .yes, .yes] (J d1 (J d1 (J d1 (J d2 (J d2 (J d2 (J d3 (J d3 (J d3 trivial))))))))) (by kernel_rfl)
theorem pDraw_J1_p2 (p : Pic) (p_chosen : List Sprite) (x : Int) (d1 : (((pTile p p_chosen x).1 : Int) != 0) = true) (d2 : (((pSpriteF p p_chosen x).1 : Int) != 0) = true) (d3 : ((pSpriteF p p_chosen x).2).first = false) : Runs Try.prog 95 (bodyOf Try.f49 [1, 1, 0, 0]) (pDraw_J1_T p p_chosen x) (pDraw_J1_H p p_chosen x) 1003 .normal (pDraw_J1_T1 p p_chosen x false) (pDraw_J1_H1 p p_chosen x false) 1003 := by
  exact runs_of_x hG hM 400 [.yes, .yes, .yes, .yes, .yes, .yes, .no, .no, .no] (J d1 (J d1 (J d1 (J d2 (J d2 (J d2 (J d3 (J d3 (J d3 trivial))))))))) (by kernel_rfl)
theorem pDraw_J1_p3 (p : Pic) (p_chosen : List Sprite) (x : Int) (d1 : (((pTile p p_chosen x).1 : Int) != 0) = true) (d2 : (((pSpriteF p p_chosen x).1 : Int) != 0) = false) : Runs Try.prog 95 (bodyOf Try.f49 [1, 1, 0, 0]) (pDraw_J1_T p p_chosen x) (pDraw_J1_H p p_chosen x) 1003 .normal (pDraw_J1_T1 p p_chosen x false) (pDraw_J1_H1 p p_chosen x false) 1003 := by
  exact runs_of_x hG hM 400 [.yes, .yes, .yes, .no, .no, .no, .no, .no, .no] (J d1 (J d1 (J d1 (J d2 (J d2 (J d2 (J T0 (J T0 (J T0 trivial))))))))) (by kernel_rfl)
theorem pDraw_J1_p4 (p : Pic) (p_chosen : List Sprite) (x : Int) (d1 : (((pTile p p_chosen x).1 : Int) != 0) = false) : Runs Try.prog 95 (bodyOf Try.f49 [1, 1, 0, 0]) (pDraw_J1_T p p_chosen x) (pDraw_J1_H p p_chosen x) 1003 .normal (pDraw_J1_T1 p p_chosen x false) (pDraw_J1_H1 p p_chosen x false) 1003 := by
  exact runs_of_x hG hM 400 [.no, .no, .no, .no, .no, .no, .no, .no, .no] (J d1 (J d1 (J d1 (J T0 (J T0 (J T0 (J T0 (J T0 (J T0 trivial))))))))) (by kernel_rfl)
theorem pDraw_J1_runs (p : Pic) (p_chosen : List Sprite) (x : Int) : Runs Try.prog 95 (bodyOf Try.f49 [1, 1, 0, 0]) (pDraw_J1_T p p_chosen x) (pDraw_J1_H p p_chosen x) 1003 .normal (pDraw_J1_T1 p p_chosen x (pDraw_J1 p p_chosen x)) (pDraw_J1_H1 p p_chosen x (pDraw_J1 p p_chosen x)) 1003 := by
  rcases bt (((pTile p p_chosen x).1 : Int) != 0) with d1 | d1
  ·
    rcases bt (((pSpriteF p p_chosen x).1 : Int) != 0) with d2 | d2
    ·
      rcases bt (((pSpriteF p p_chosen x).2).first) with d3 | d3
      ·
        rw [show pDraw_J1 p p_chosen x = (decide (x < 255)) from by unfold pDraw_J1; rw [if_pos d1, if_pos d2, if_pos d3]]
        exact pDraw_J1_p1 p p_chosen x d1 d2 d3
      ·
        rw [show pDraw_J1 p p_chosen x = false from by unfold pDraw_J1; rw [if_pos d1, if_pos d2, if_neg (nt d3)]]
        exact pDraw_J1_p2 p p_chosen x d1 d2 d3
    ·
      rw [show pDraw_J1 p p_chosen x = false from by unfold pDraw_J1; rw [if_pos d1, if_neg (nt d2)]]
      exact pDraw_J1_p3 p p_chosen x d1 d2
  ·
    rw [show pDraw_J1 p p_chosen x = false from by unfold pDraw_J1; rw [if_neg (nt d1)]]
    exact pDraw_J1_p4 p p_chosen x d1
def pDraw_J2 (p : Pic) (p_chosen : List Sprite) (x : Int) (xd : Int) : Int :=
  if (pDraw_J1 p p_chosen x) = true then
    (bOr .u8 xd 64)
  else
    xd
def pDraw_J2_T (p : Pic) (p_chosen : List Sprite) (x : Int) (xd : Int) : Tm := [(0, .pointer (some ⟨1000, 0, none⟩)), (1, .int .i64 x), (4, .int .u8 ((pTile p p_chosen x).1)), (5, .int .u8 ((pTile p p_chosen x).2)), (6, .int .u8 ((pSpriteF p p_chosen x).1)), (7, .pointer (some ⟨1002, 0, none⟩)), (35, .bool (pDraw_J1 p p_chosen x))]
def pDraw_J2_H (p : Pic) (p_chosen : List Sprite) (x : Int) (xd : Int) : Heap := [(1000, ⟨[.ints .u8 8192 p.tiles, .ints .u8 2048 p.names, .ints .u8 32 p.colours, .ints .u8 256 p.men, .one (.int .u8 p.man), .one (.int .u16 p.scroll.V), .one (.int .u16 p.scroll.T), .one (.int .u8 p.scroll.X), .one (.bool p.scroll.W), .one (.int .u8 p.control), .one (.int .u8 p.mask), .one (.int .u8 xd), .one (.int .u8 p.waits), .one (.int .u8 p.bus), .one (.bool p.upright), .one (.int .i64 p.line), .one (.int .i64 p.dot), .one (.bool p.odd), .one (.int .i64 p.frames), .one (.slice (some ⟨1001, 0, (some 0)⟩) (List.length p_chosen) 5), .ints .u8 61440 p.screen], 79, false⟩)]
def pDraw_J2_T1 (p : Pic) (p_chosen : List Sprite) (x : Int) (xd : Int) (r_ : Int) : Tm := [(0, .pointer (some ⟨1000, 0, none⟩)), (1, .int .i64 x), (4, .int .u8 ((pTile p p_chosen x).1)), (5, .int .u8 ((pTile p p_chosen x).2)), (6, .int .u8 ((pSpriteF p p_chosen x).1)), (7, .pointer (some ⟨1002, 0, none⟩))]
def pDraw_J2_H1 (p : Pic) (p_chosen : List Sprite) (x : Int) (xd : Int) (r_ : Int) : Heap := [(1000, ⟨[.ints .u8 8192 p.tiles, .ints .u8 2048 p.names, .ints .u8 32 p.colours, .ints .u8 256 p.men, .one (.int .u8 p.man), .one (.int .u16 p.scroll.V), .one (.int .u16 p.scroll.T), .one (.int .u8 p.scroll.X), .one (.bool p.scroll.W), .one (.int .u8 p.control), .one (.int .u8 p.mask), .one (.int .u8 r_), .one (.int .u8 p.waits), .one (.int .u8 p.bus), .one (.bool p.upright), .one (.int .i64 p.line), .one (.int .i64 p.dot), .one (.bool p.odd), .one (.int .i64 p.frames), .one (.slice (some ⟨1001, 0, (some 0)⟩) (List.length p_chosen) 5), .ints .u8 61440 p.screen], 79, false⟩)]
theorem pDraw_J2_p1 (p : Pic) (p_chosen : List Sprite) (x : Int) (xd : Int) (d1 : (pDraw_J1 p p_chosen x) = true) : Runs Try.prog 95 (bodyOf Try.f49 [1, 1, 0, 1]) (pDraw_J2_T p p_chosen x xd) (pDraw_J2_H p p_chosen x xd) 1003 .normal (pDraw_J2_T1 p p_chosen x xd (bOr .u8 xd 64)) (pDraw_J2_H1 p p_chosen x xd (bOr .u8 xd 64)) 1003 := by
  exact runs_of_x hG hM 400 [.yes] (J d1 trivial) (by kernel_rfl)
theorem pDraw_J2_p2 (p : Pic) (p_chosen : List Sprite) (x : Int) (xd : Int) (d1 : (pDraw_J1 p p_chosen x) = false) : Runs Try.prog 95 (bodyOf Try.f49 [1, 1, 0, 1]) (pDraw_J2_T p p_chosen x xd) (pDraw_J2_H p p_chosen x xd) 1003 .normal (pDraw_J2_T1 p p_chosen x xd xd) (pDraw_J2_H1 p p_chosen x xd xd) 1003 := by
  exact runs_of_x hG hM 400 [.no] (J d1 trivial) (by kernel_rfl)
theorem pDraw_J2_runs (p : Pic) (p_chosen : List Sprite) (x : Int) (xd : Int) : Runs Try.prog 95 (bodyOf Try.f49 [1, 1, 0, 1]) (pDraw_J2_T p p_chosen x xd) (pDraw_J2_H p p_chosen x xd) 1003 .normal (pDraw_J2_T1 p p_chosen x xd (pDraw_J2 p p_chosen x xd)) (pDraw_J2_H1 p p_chosen x xd (pDraw_J2 p p_chosen x xd)) 1003 := by
  rcases bt (pDraw_J1 p p_chosen x) with d1 | d1
  ·
    rw [show pDraw_J2 p p_chosen x xd = (bOr .u8 xd 64) from by unfold pDraw_J2; rw [if_pos d1]]
    exact pDraw_J2_p1 p p_chosen x xd d1
  ·
    rw [show pDraw_J2 p p_chosen x xd = xd from by unfold pDraw_J2; rw [if_neg (nt d1)]]
    exact pDraw_J2_p2 p p_chosen x xd d1
theorem pDraw_J2_w (p : Pic) (p_chosen : List Sprite) (x : Int) (xd : Int) (v1d : rng 256 xd) : rng 256 (pDraw_J2 p p_chosen x xd) := by
  rcases bt (pDraw_J1 p p_chosen x) with d1 | d1
  ·
    rw [show pDraw_J2 p p_chosen x xd = (bOr .u8 xd 64) from by unfold pDraw_J2; rw [if_pos d1]]
    exact (rng_bOr_u8 xd 64)
  ·
    rw [show pDraw_J2 p p_chosen x xd = xd from by unfold pDraw_J2; rw [if_neg (nt d1)]]
    exact v1d
def pDraw_J3 (p : Pic) (p_chosen : List Sprite) (x : Int) : Bool :=
  if (((pSpriteF p p_chosen x).1 : Int) != 0) = true then
    if (((pTile p p_chosen x).1 : Int) == 0) = true then
      true
    else
      ((bAnd .u8 (((pSpriteF p p_chosen x).2).look) 32) == 0)
  else
    false
def pDraw_J3_T (p : Pic) (p_chosen : List Sprite) (x : Int) : Tm := [(0, .pointer (some ⟨1000, 0, none⟩)), (1, .int .i64 x), (4, .int .u8 ((pTile p p_chosen x).1)), (5, .int .u8 ((pTile p p_chosen x).2)), (6, .int .u8 ((pSpriteF p p_chosen x).1)), (7, .pointer (some ⟨1002, 0, none⟩)), (8, .int .u16 0)]
def pDraw_J3_H (p : Pic) (p_chosen : List Sprite) (x : Int) : Heap := [(1002, ⟨[.one (.int .u8 (((pSpriteF p p_chosen x).2).low)), .one (.int .u8 (((pSpriteF p p_chosen x).2).high)), .one (.int .u8 (((pSpriteF p p_chosen x).2).look)), .one (.int .u8 (((pSpriteF p p_chosen x).2).x)), .one (.bool (((pSpriteF p p_chosen x).2).first))], 92, false⟩)]
def pDraw_J3_T1 (p : Pic) (p_chosen : List Sprite) (x : Int) (r_ : Bool) : Tm := [(0, .pointer (some ⟨1000, 0, none⟩)), (1, .int .i64 x), (4, .int .u8 ((pTile p p_chosen x).1)), (5, .int .u8 ((pTile p p_chosen x).2)), (6, .int .u8 ((pSpriteF p p_chosen x).1)), (7, .pointer (some ⟨1002, 0, none⟩)), (8, .int .u16 0), (43, .bool r_)]
def pDraw_J3_H1 (p : Pic) (p_chosen : List Sprite) (x : Int) (r_ : Bool) : Heap := [(1002, ⟨[.one (.int .u8 (((pSpriteF p p_chosen x).2).low)), .one (.int .u8 (((pSpriteF p p_chosen x).2).high)), .one (.int .u8 (((pSpriteF p p_chosen x).2).look)), .one (.int .u8 (((pSpriteF p p_chosen x).2).x)), .one (.bool (((pSpriteF p p_chosen x).2).first))], 92, false⟩)]
theorem pDraw_J3_p1 (p : Pic) (p_chosen : List Sprite) (x : Int) (d1 : (((pSpriteF p p_chosen x).1 : Int) != 0) = true) (d2 : (((pTile p p_chosen x).1 : Int) == 0) = true) : Runs Try.prog 95 (bodyOf Try.f49 [1, 1, 1, 1, 0, 0, 0]) (pDraw_J3_T p p_chosen x) (pDraw_J3_H p p_chosen x) 1003 .normal (pDraw_J3_T1 p p_chosen x true) (pDraw_J3_H1 p p_chosen x true) 1003 := by
  exact runs_of_x hG hM 400 [.yes, .yes, .yes, .yes, .yes, .yes, .yes, .yes, .yes, .yes] (J d1 (J d1 (J d1 (J d2 (J d2 (J d2 (J d2 (J d1 (J d2 (J d1 trivial)))))))))) (by kernel_rfl)
theorem pDraw_J3_p2 (p : Pic) (p_chosen : List Sprite) (x : Int) (d1 : (((pSpriteF p p_chosen x).1 : Int) != 0) = true) (d2 : (((pTile p p_chosen x).1 : Int) == 0) = false) : Runs Try.prog 95 (bodyOf Try.f49 [1, 1, 1, 1, 0, 0, 0]) (pDraw_J3_T p p_chosen x) (pDraw_J3_H p p_chosen x) 1003 .normal (pDraw_J3_T1 p p_chosen x ((bAnd .u8 (((pSpriteF p p_chosen x).2).look) 32) == 0)) (pDraw_J3_H1 p p_chosen x ((bAnd .u8 (((pSpriteF p p_chosen x).2).look) 32) == 0)) 1003 := by
  exact runs_of_x hG hM 400 [.yes, .yes, .yes, .no, .no, .no, .no, .yes, .no, .yes] (J d1 (J d1 (J d1 (J d2 (J d2 (J d2 (J d2 (J d1 (J d2 (J d1 trivial)))))))))) (by kernel_rfl)
theorem pDraw_J3_p3 (p : Pic) (p_chosen : List Sprite) (x : Int) (d1 : (((pSpriteF p p_chosen x).1 : Int) != 0) = false) : Runs Try.prog 95 (bodyOf Try.f49 [1, 1, 1, 1, 0, 0, 0]) (pDraw_J3_T p p_chosen x) (pDraw_J3_H p p_chosen x) 1003 .normal (pDraw_J3_T1 p p_chosen x false) (pDraw_J3_H1 p p_chosen x false) 1003 := by
  exact runs_of_x hG hM 400 [.no, .no, .no, .no, .no] (J d1 (J d1 (J d1 (J d1 (J d1 trivial))))) (by kernel_rfl)
theorem pDraw_J3_runs (p : Pic) (p_chosen : List Sprite) (x : Int) : Runs Try.prog 95 (bodyOf Try.f49 [1, 1, 1, 1, 0, 0, 0]) (pDraw_J3_T p p_chosen x) (pDraw_J3_H p p_chosen x) 1003 .normal (pDraw_J3_T1 p p_chosen x (pDraw_J3 p p_chosen x)) (pDraw_J3_H1 p p_chosen x (pDraw_J3 p p_chosen x)) 1003 := by
  rcases bt (((pSpriteF p p_chosen x).1 : Int) != 0) with d1 | d1
  ·
    rcases bt (((pTile p p_chosen x).1 : Int) == 0) with d2 | d2
    ·
      rw [show pDraw_J3 p p_chosen x = true from by unfold pDraw_J3; rw [if_pos d1, if_pos d2]]
      exact pDraw_J3_p1 p p_chosen x d1 d2
    ·
      rw [show pDraw_J3 p p_chosen x = ((bAnd .u8 (((pSpriteF p p_chosen x).2).look) 32) == 0) from by unfold pDraw_J3; rw [if_pos d1, if_neg (nt d2)]]
      exact pDraw_J3_p2 p p_chosen x d1 d2
  ·
    rw [show pDraw_J3 p p_chosen x = false from by unfold pDraw_J3; rw [if_neg (nt d1)]]
    exact pDraw_J3_p3 p p_chosen x d1
def pDraw_J5n (p : Pic) (p_chosen : List Sprite) (x : Int) : Int :=
  if (((pTile p p_chosen x).1 : Int) != 0) = true then
    (u16.wrap (bOr .u8 (bShl .u8 ((pTile p p_chosen x).2) 2) ((pTile p p_chosen x).1)))
  else
    0
def pDraw_J5n_T (p : Pic) (p_chosen : List Sprite) (x : Int) : Tm := [(0, .pointer (some ⟨1000, 0, none⟩)), (1, .int .i64 x), (4, .int .u8 ((pTile p p_chosen x).1)), (5, .int .u8 ((pTile p p_chosen x).2)), (8, .int .u16 0), (64, .bool (((pTile p p_chosen x).1 : Int) != 0))]
def pDraw_J5n_H (p : Pic) (p_chosen : List Sprite) (x : Int) : Heap := []
def pDraw_J5n_T1 (p : Pic) (p_chosen : List Sprite) (x : Int) (r_ : Int) : Tm := [(0, .pointer (some ⟨1000, 0, none⟩)), (1, .int .i64 x), (8, .int .u16 r_)]
def pDraw_J5n_H1 (p : Pic) (p_chosen : List Sprite) (x : Int) (r_ : Int) : Heap := []
theorem pDraw_J5n_p1 (p : Pic) (p_chosen : List Sprite) (x : Int) (e1 : (((pTile p p_chosen x).1 : Int) != 0) = true) : Runs Try.prog 95 (bodyOf Try.f49 [1, 1, 1, 1, 0, 0, 1, 1, 1]) (pDraw_J5n_T p p_chosen x) (pDraw_J5n_H p p_chosen x) 1003 .normal (pDraw_J5n_T1 p p_chosen x (u16.wrap (bOr .u8 (bShl .u8 ((pTile p p_chosen x).2) 2) ((pTile p p_chosen x).1)))) (pDraw_J5n_H1 p p_chosen x (u16.wrap (bOr .u8 (bShl .u8 ((pTile p p_chosen x).2) 2) ((pTile p p_chosen x).1)))) 1003 := by
  exact runs_of_x hG hM 400 [.yes] (J e1 (J (by decide : (0 : Int) ≤ 2) trivial)) (by kernel_rfl)
theorem pDraw_J5n_p2 (p : Pic) (p_chosen : List Sprite) (x : Int) (e1 : (((pTile p p_chosen x).1 : Int) != 0) = false) : Runs Try.prog 95 (bodyOf Try.f49 [1, 1, 1, 1, 0, 0, 1, 1, 1]) (pDraw_J5n_T p p_chosen x) (pDraw_J5n_H p p_chosen x) 1003 .normal (pDraw_J5n_T1 p p_chosen x 0) (pDraw_J5n_H1 p p_chosen x 0) 1003 := by
  exact runs_of_x hG hM 400 [.no] (J e1 trivial) (by kernel_rfl)
theorem pDraw_J5n_runs (p : Pic) (p_chosen : List Sprite) (x : Int) : Runs Try.prog 95 (bodyOf Try.f49 [1, 1, 1, 1, 0, 0, 1, 1, 1]) (pDraw_J5n_T p p_chosen x) (pDraw_J5n_H p p_chosen x) 1003 .normal (pDraw_J5n_T1 p p_chosen x (pDraw_J5n p p_chosen x)) (pDraw_J5n_H1 p p_chosen x (pDraw_J5n p p_chosen x)) 1003 := by
  rcases bt (((pTile p p_chosen x).1 : Int) != 0) with e1 | e1
  ·
    rw [show pDraw_J5n p p_chosen x = (u16.wrap (bOr .u8 (bShl .u8 ((pTile p p_chosen x).2) 2) ((pTile p p_chosen x).1))) from by unfold pDraw_J5n; rw [if_pos e1]]
    exact pDraw_J5n_p1 p p_chosen x e1
  ·
    rw [show pDraw_J5n p p_chosen x = 0 from by unfold pDraw_J5n; rw [if_neg (nt e1)]]
    exact pDraw_J5n_p2 p p_chosen x e1
theorem pDraw_J5n_w (p : Pic) (p_chosen : List Sprite) (x : Int) : rng 65536 (pDraw_J5n p p_chosen x) := by
  rcases bt (((pTile p p_chosen x).1 : Int) != 0) with e1 | e1
  ·
    rw [show pDraw_J5n p p_chosen x = (u16.wrap (bOr .u8 (bShl .u8 ((pTile p p_chosen x).2) 2) ((pTile p p_chosen x).1))) from by unfold pDraw_J5n; rw [if_pos e1]]
    exact (rng_wrap_u16 (bOr .u8 (bShl .u8 ((pTile p p_chosen x).2) 2) ((pTile p p_chosen x).1)))
  ·
    rw [show pDraw_J5n p p_chosen x = 0 from by unfold pDraw_J5n; rw [if_neg (nt e1)]]
    exact (by decide : rng 65536 0)
def pDraw_J4 (p : Pic) (p_chosen : List Sprite) (x : Int) : Int :=
  if (pDraw_J3 p p_chosen x) = true then
    (u16.wrap (bOr .u8 (bOr .u8 16 (bShl .u8 (bAnd .u8 (((pSpriteF p p_chosen x).2).look) 3) 2)) ((pSpriteF p p_chosen x).1)))
  else
    (pDraw_J5n p p_chosen x)
def pDraw_J4_T (p : Pic) (p_chosen : List Sprite) (x : Int) : Tm := [(0, .pointer (some ⟨1000, 0, none⟩)), (1, .int .i64 x), (4, .int .u8 ((pTile p p_chosen x).1)), (5, .int .u8 ((pTile p p_chosen x).2)), (6, .int .u8 ((pSpriteF p p_chosen x).1)), (7, .pointer (some ⟨1002, 0, none⟩)), (8, .int .u16 0), (43, .bool (pDraw_J3 p p_chosen x))]
def pDraw_J4_H (p : Pic) (p_chosen : List Sprite) (x : Int) : Heap := [(1002, ⟨[.one (.int .u8 (((pSpriteF p p_chosen x).2).low)), .one (.int .u8 (((pSpriteF p p_chosen x).2).high)), .one (.int .u8 (((pSpriteF p p_chosen x).2).look)), .one (.int .u8 (((pSpriteF p p_chosen x).2).x)), .one (.bool (((pSpriteF p p_chosen x).2).first))], 92, false⟩)]
def pDraw_J4_T1 (p : Pic) (p_chosen : List Sprite) (x : Int) (r_ : Int) : Tm := [(0, .pointer (some ⟨1000, 0, none⟩)), (1, .int .i64 x), (8, .int .u16 r_)]
def pDraw_J4_H1 (p : Pic) (p_chosen : List Sprite) (x : Int) (r_ : Int) : Heap := [(1002, ⟨[.one (.int .u8 (((pSpriteF p p_chosen x).2).low)), .one (.int .u8 (((pSpriteF p p_chosen x).2).high)), .one (.int .u8 (((pSpriteF p p_chosen x).2).look)), .one (.int .u8 (((pSpriteF p p_chosen x).2).x)), .one (.bool (((pSpriteF p p_chosen x).2).first))], 92, false⟩)]
theorem pDraw_J4_p1 (p : Pic) (p_chosen : List Sprite) (x : Int) (d1 : (pDraw_J3 p p_chosen x) = true) : Runs Try.prog 95 (bodyOf Try.f49 [1, 1, 1, 1, 0, 0, 1]) (pDraw_J4_T p p_chosen x) (pDraw_J4_H p p_chosen x) 1003 .normal (pDraw_J4_T1 p p_chosen x (u16.wrap (bOr .u8 (bOr .u8 16 (bShl .u8 (bAnd .u8 (((pSpriteF p p_chosen x).2).look) 3) 2)) ((pSpriteF p p_chosen x).1)))) (pDraw_J4_H1 p p_chosen x (u16.wrap (bOr .u8 (bOr .u8 16 (bShl .u8 (bAnd .u8 (((pSpriteF p p_chosen x).2).look) 3) 2)) ((pSpriteF p p_chosen x).1)))) 1003 := by
  exact runs_of_x hG hM 400 [.yes] (J d1 (J (by decide : (0 : Int) ≤ 2) trivial)) (by kernel_rfl)
theorem pDraw_J4_p2 (p : Pic) (p_chosen : List Sprite) (x : Int) (d1 : (pDraw_J3 p p_chosen x) = false) : Runs Try.prog 95 (bodyOf Try.f49 [1, 1, 1, 1, 0, 0, 1]) (pDraw_J4_T p p_chosen x) (pDraw_J4_H p p_chosen x) 1003 .normal (pDraw_J4_T1 p p_chosen x (pDraw_J5n p p_chosen x)) (pDraw_J4_H1 p p_chosen x (pDraw_J5n p p_chosen x)) 1003 := by
  exact runs_of_x hG hM 400 [.no, .segk 2 0 [0, 1, 4, 5, 8, 64] [] .normal (pDraw_J5n_T1 p p_chosen x (pDraw_J5n p p_chosen x)) (pDraw_J5n_H1 p p_chosen x (pDraw_J5n p p_chosen x)) 1003] (J d1 (J (pDraw_J5n_runs p p_chosen x) trivial)) (by kernel_rfl)
theorem pDraw_J4_runs (p : Pic) (p_chosen : List Sprite) (x : Int) : Runs Try.prog 95 (bodyOf Try.f49 [1, 1, 1, 1, 0, 0, 1]) (pDraw_J4_T p p_chosen x) (pDraw_J4_H p p_chosen x) 1003 .normal (pDraw_J4_T1 p p_chosen x (pDraw_J4 p p_chosen x)) (pDraw_J4_H1 p p_chosen x (pDraw_J4 p p_chosen x)) 1003 := by
  rcases bt (pDraw_J3 p p_chosen x) with d1 | d1
  ·
    rw [show pDraw_J4 p p_chosen x = (u16.wrap (bOr .u8 (bOr .u8 16 (bShl .u8 (bAnd .u8 (((pSpriteF p p_chosen x).2).look) 3) 2)) ((pSpriteF p p_chosen x).1))) from by unfold pDraw_J4; rw [if_pos d1]]
    exact pDraw_J4_p1 p p_chosen x d1
  ·
    rw [show pDraw_J4 p p_chosen x = (pDraw_J5n p p_chosen x) from by unfold pDraw_J4; rw [if_neg (nt d1)]]
    exact pDraw_J4_p2 p p_chosen x d1
theorem pDraw_J4_w (p : Pic) (p_chosen : List Sprite) (x : Int) : rng 65536 (pDraw_J4 p p_chosen x) := by
  rcases bt (pDraw_J3 p p_chosen x) with d1 | d1
  ·
    rw [show pDraw_J4 p p_chosen x = (u16.wrap (bOr .u8 (bOr .u8 16 (bShl .u8 (bAnd .u8 (((pSpriteF p p_chosen x).2).look) 3) 2)) ((pSpriteF p p_chosen x).1))) from by unfold pDraw_J4; rw [if_pos d1]]
    exact (rng_wrap_u16 (bOr .u8 (bOr .u8 16 (bShl .u8 (bAnd .u8 (((pSpriteF p p_chosen x).2).look) 3) 2)) ((pSpriteF p p_chosen x).1)))
  ·
    rw [show pDraw_J4 p p_chosen x = (pDraw_J5n p p_chosen x) from by unfold pDraw_J4; rw [if_neg (nt d1)]]
    exact (pDraw_J5n_w p p_chosen x)
def pDraw_J6 (x : Int) (xd : Int × Bool) : Int :=
  if xd.2 = true then
    (bAnd .u8 xd.1 48)
  else
    xd.1
def pDraw_J6_T (x : Int) (xd : Int × Bool) : Tm := [(0, .pointer (some ⟨1000, 0, none⟩)), (1, .int .i64 x), (9, .int .u8 xd.1), (81, .bool xd.2)]
def pDraw_J6_H (x : Int) (xd : Int × Bool) : Heap := []
def pDraw_J6_T1 (x : Int) (xd : Int × Bool) (r_ : Int) : Tm := [(0, .pointer (some ⟨1000, 0, none⟩)), (1, .int .i64 x), (9, .int .u8 r_)]
def pDraw_J6_H1 (x : Int) (xd : Int × Bool) (r_ : Int) : Heap := []
theorem pDraw_J6_p1 (x : Int) (xd : Int × Bool) (d1 : xd.2 = true) : Runs Try.prog 95 (bodyOf Try.f49 [1, 1, 1, 1, 1, 1, 0, 1]) (pDraw_J6_T x xd) (pDraw_J6_H x xd) 1003 .normal (pDraw_J6_T1 x xd (bAnd .u8 xd.1 48)) (pDraw_J6_H1 x xd (bAnd .u8 xd.1 48)) 1003 := by
  exact runs_of_x hG hM 400 [.yes] (J d1 trivial) (by kernel_rfl)
theorem pDraw_J6_p2 (x : Int) (xd : Int × Bool) (d1 : xd.2 = false) : Runs Try.prog 95 (bodyOf Try.f49 [1, 1, 1, 1, 1, 1, 0, 1]) (pDraw_J6_T x xd) (pDraw_J6_H x xd) 1003 .normal (pDraw_J6_T1 x xd xd.1) (pDraw_J6_H1 x xd xd.1) 1003 := by
  exact runs_of_x hG hM 400 [.no] (J d1 trivial) (by kernel_rfl)
theorem pDraw_J6_runs (x : Int) (xd : Int × Bool) : Runs Try.prog 95 (bodyOf Try.f49 [1, 1, 1, 1, 1, 1, 0, 1]) (pDraw_J6_T x xd) (pDraw_J6_H x xd) 1003 .normal (pDraw_J6_T1 x xd (pDraw_J6 x xd)) (pDraw_J6_H1 x xd (pDraw_J6 x xd)) 1003 := by
  rcases bt xd.2 with d1 | d1
  ·
    rw [show pDraw_J6 x xd = (bAnd .u8 xd.1 48) from by unfold pDraw_J6; rw [if_pos d1]]
    exact pDraw_J6_p1 x xd d1
  ·
    rw [show pDraw_J6 x xd = xd.1 from by unfold pDraw_J6; rw [if_neg (nt d1)]]
    exact pDraw_J6_p2 x xd d1
theorem pDraw_J6_w (x : Int) (xd : Int × Bool) (v1d : rng 256 xd.1) : rng 256 (pDraw_J6 x xd) := by
  rcases bt xd.2 with d1 | d1
  ·
    rw [show pDraw_J6 x xd = (bAnd .u8 xd.1 48) from by unfold pDraw_J6; rw [if_pos d1]]
    exact (rng_bAnd_u8 xd.1 48)
  ·
    rw [show pDraw_J6 x xd = xd.1 from by unfold pDraw_J6; rw [if_neg (nt d1)]]
    exact v1d
def pDraw (p : Pic) (p_chosen : List Sprite) (x : Int) : Pic :=
  ({ ({ p with flags := (pDraw_J2 p p_chosen x p.flags) } : Pic) with screen := (upd (({ p with flags := (pDraw_J2 p p_chosen x p.flags) } : Pic).screen) ((Int.toNat (({ p with flags := (pDraw_J2 p p_chosen x p.flags) } : Pic).line) * 256) + (Int.toNat x)) (pDraw_J6 x ((pPeek ({ p with flags := (pDraw_J2 p p_chosen x p.flags) } : Pic) p_chosen (bOr .u16 16128 (pDraw_J4 p p_chosen x))), ((bAnd .u8 (({ p with flags := (pDraw_J2 p p_chosen x p.flags) } : Pic).mask) 1) != 0)))) } : Pic)
theorem pDraw_ok (p : Pic) (p_chosen : List Sprite) (x : Int) (w_p : Pic.ok p) (hx : 0 ≤ x) (hx2 : x < 256) (hl : 0 ≤ p.line) (hl2 : p.line < 240) (hL : (List.length p_chosen) ≤ 8) : FnSpec Try.prog 49 1002 [.pointer (some ⟨1000, 0, none⟩), .int .i64 x] [(1000, (Pic.bl p (.slice (some ⟨1001, 0, (some 0)⟩) (List.length p_chosen) 5) false)), (1001, ⟨[rowsL Sprite.cells Sprite.nil 5 p_chosen], 92, false⟩)] (.tuple ⟨[]⟩) [(1000, (Pic.bl (pDraw p p_chosen x) (.slice (some ⟨1001, 0, (some 0)⟩) (List.length p_chosen) 5) false)), (1001, ⟨[rowsL Sprite.cells Sprite.nil 5 p_chosen], 92, false⟩)] := by
  unfold pDraw
  have o1 : 0 ≤ ({ p with flags := (pDraw_J2 p p_chosen x p.flags) } : Pic).line ∧ ({ p with flags := (pDraw_J2 p p_chosen x p.flags) } : Pic).line < ((240 : Nat) : Int) := by first | decide | omega | (simp only [decide_eq_true_eq, decide_eq_false_iff_not, rng, IntKind.wrap_i64, IntKind.wrap_u8, IntKind.wrap_u16] at *; omega)
  have o2 : 0 ≤ x ∧ x < ((256 : Nat) : Int) := by first | decide | omega | (simp only [decide_eq_true_eq, decide_eq_false_iff_not, rng, IntKind.wrap_i64, IntKind.wrap_u8, IntKind.wrap_u16] at *; omega)
  have o3 : ((Int.toNat (({ p with flags := (pDraw_J2 p p_chosen x p.flags) } : Pic).line) * 256) + (Int.toNat x)) < 61440 := by first | decide | omega | (simp only [decide_eq_true_eq, decide_eq_false_iff_not, rng, IntKind.wrap_i64, IntKind.wrap_u8, IntKind.wrap_u16] at *; omega)
  exact fn_of_x hG hM Try.func49 (by kernel_rfl) (by kernel_rfl) 400 [.call [(1000, 1000), (1001, 1001)] [] 1002 (.tuple ⟨[.int .u8 ((pTile p p_chosen x).1), .int .u8 ((pTile p p_chosen x).2)]⟩) [(1000, (Pic.bl p (.slice (some ⟨1001, 0, (some 0)⟩) (List.length p_chosen) 5) false)), (1001, ⟨[rowsL Sprite.cells Sprite.nil 5 p_chosen], 92, false⟩)], .call [(1000, 1000), (1001, 1001)] [] 1002 (.tuple ⟨[.int .u8 ((pSpriteF p p_chosen x).1), Sprite.enc ((pSpriteF p p_chosen x).2)]⟩) [(1000, (Pic.bl p (.slice (some ⟨1001, 0, (some 0)⟩) (List.length p_chosen) 5) false)), (1001, ⟨[rowsL Sprite.cells Sprite.nil 5 p_chosen], 92, false⟩)], .segk 0 2 [0, 1, 4, 5, 6, 7] [1002] .normal (pDraw_J1_T1 p p_chosen x (pDraw_J1 p p_chosen x)) (pDraw_J1_H1 p p_chosen x (pDraw_J1 p p_chosen x)) 1003, .segk 2 0 [0, 1, 4, 5, 6, 7, 35] [1000] .normal (pDraw_J2_T1 p p_chosen x p.flags (pDraw_J2 p p_chosen x p.flags)) (pDraw_J2_H1 p p_chosen x p.flags (pDraw_J2 p p_chosen x p.flags)) 1003, .segk 0 5 [0, 1, 4, 5, 6, 7, 8] [1002] .normal (pDraw_J3_T1 p p_chosen x (pDraw_J3 p p_chosen x)) (pDraw_J3_H1 p p_chosen x (pDraw_J3 p p_chosen x)) 1003, .segk 2 0 [0, 1, 4, 5, 6, 7, 8, 43] [1002] .normal (pDraw_J4_T1 p p_chosen x (pDraw_J4 p p_chosen x)) (pDraw_J4_H1 p p_chosen x (pDraw_J4 p p_chosen x)) 1003, .call [(1000, 1000), (1001, 1001)] [] 1002 (.int .u8 (pPeek ({ p with flags := (pDraw_J2 p p_chosen x p.flags) } : Pic) p_chosen (bOr .u16 16128 (pDraw_J4 p p_chosen x)))) [(1000, (Pic.bl ({ p with flags := (pDraw_J2 p p_chosen x p.flags) } : Pic) (.slice (some ⟨1001, 0, (some 0)⟩) (List.length p_chosen) 5) false)), (1001, ⟨[rowsL Sprite.cells Sprite.nil 5 p_chosen], 92, false⟩)], .segk 2 0 [0, 1, 9, 81] [] .normal (pDraw_J6_T1 x ((pPeek ({ p with flags := (pDraw_J2 p p_chosen x p.flags) } : Pic) p_chosen (bOr .u16 16128 (pDraw_J4 p p_chosen x))), ((bAnd .u8 (({ p with flags := (pDraw_J2 p p_chosen x p.flags) } : Pic).mask) 1) != 0)) (pDraw_J6 x ((pPeek ({ p with flags := (pDraw_J2 p p_chosen x p.flags) } : Pic) p_chosen (bOr .u16 16128 (pDraw_J4 p p_chosen x))), ((bAnd .u8 (({ p with flags := (pDraw_J2 p p_chosen x p.flags) } : Pic).mask) 1) != 0)))) (pDraw_J6_H1 x ((pPeek ({ p with flags := (pDraw_J2 p p_chosen x p.flags) } : Pic) p_chosen (bOr .u16 16128 (pDraw_J4 p p_chosen x))), ((bAnd .u8 (({ p with flags := (pDraw_J2 p p_chosen x p.flags) } : Pic).mask) 1) != 0)) (pDraw_J6 x ((pPeek ({ p with flags := (pDraw_J2 p p_chosen x p.flags) } : Pic) p_chosen (bOr .u16 16128 (pDraw_J4 p p_chosen x))), ((bAnd .u8 (({ p with flags := (pDraw_J2 p p_chosen x p.flags) } : Pic).mask) 1) != 0)))) 1003, .sym, .eq 94 (.pointer (some ⟨1000, ((Int.toNat (({ p with flags := (pDraw_J2 p p_chosen x p.flags) } : Pic).line) * 256) + (Int.toNat x)), (some 10544)⟩)), .sym] (J (pTile_ok p p_chosen x w_p hx hx2) (J (pSpriteF_ok p p_chosen x hx hx2 hL) (J (pDraw_J1_runs p p_chosen x) (J (pDraw_J2_runs p p_chosen x p.flags) (J (pDraw_J3_runs p p_chosen x) (J (pDraw_J4_runs p p_chosen x) (J (pPeek_ok ({ p with flags := (pDraw_J2 p p_chosen x p.flags) } : Pic) p_chosen (bOr .u16 16128 (pDraw_J4 p p_chosen x))) (J (pDraw_J6_runs x ((pPeek ({ p with flags := (pDraw_J2 p p_chosen x p.flags) } : Pic) p_chosen (bOr .u16 16128 (pDraw_J4 p p_chosen x))), ((bAnd .u8 (({ p with flags := (pDraw_J2 p p_chosen x p.flags) } : Pic).mask) 1) != 0))) (J o1 (J (at2 1000 (Int.toNat (({ p with flags := (pDraw_J2 p p_chosen x p.flags) } : Pic).line) * 256) (Int.toNat x) (some 10544)) (J o2 (J o3 trivial)))))))))))) (by kernel_rfl)
theorem pDraw_w (p : Pic) (p_chosen : List Sprite) (x : Int) (w_p : Pic.ok p) : Pic.ok (pDraw p p_chosen x) := by
  have wf := pDraw_J2_w p p_chosen x p.flags w_p.flags
  have w2 : Pic.ok ({ p with flags := (pDraw_J2 p p_chosen x p.flags) } : Pic) := ⟨w_p.tiles, w_p.names, w_p.colours, w_p.men, w_p.man, w_p.scroll, w_p.control, w_p.mask, wf, w_p.waits, w_p.bus, w_p.screen⟩
  refine ⟨w_p.tiles, w_p.names, w_p.colours, w_p.men, w_p.man, w_p.scroll, w_p.control, w_p.mask, wf, w_p.waits, w_p.bus, fun j => ?_⟩
  show rng 256 (upd _ _ _ j)
  unfold upd
  cases Nat.beq j _
  · exact w_p.screen j
  · exact pDraw_J6_w x _ (pPeek_w _ p_chosen _ w2 (rng_bOr_u16 16128 (pDraw_J4 p p_chosen x)))
theorem chooseL_w (p : Pic) (w : Pic.ok p) : ∀ (n k : Nat) (L : List Sprite), Pic.ok (chooseL p n k L).2
  | 0, _, L => w
  | n + 1, k, L => by
    unfold chooseL
    split
    · exact chooseL_w p w n _ L
    · split
      · exact chooseL_w p w n _ L
      · split
        · exact ⟨w.tiles, w.names, w.colours, w.men, w.man, w.scroll, w.control, w.mask, rng_bOr_u8 _ _, w.waits, w.bus, w.screen⟩
        · exact chooseL_w p w n _ _
theorem pChoose_w (p : Pic) (p_chosen : List Sprite) (seen : Bool) (w_p : Pic.ok p) : Pic.ok (pChooseF p p_chosen seen).1 := by
  unfold pChooseF
  split
  · exact w_p
  · split
    · exact w_p
    · exact chooseL_w p w_p 64 0 []
theorem line_no241 {x : Int} (h : (x == 241) = true) : (decide (x < 240)) = false := by
  have : x = 241 := by simpa using h
  subst this; decide
theorem line_no261 {x : Int} (h : (x == 261) = true) : (decide (x < 240)) = false := by
  have : x = 261 := by simpa using h
  subst this; decide
end Go.Proofs.Ytgnhhnmpeklciaa
namespace Go.Proofs.Ytgnhhnmpeklciaa
open Go VX
open Go.IntKind (i64 u8 u16)
set_option linter.unusedVariables false
set_option linter.unusedSimpArgs false
set_option maxRecDepth 100000
set_option maxHeartbeats 4000000
def pClock (p : Pic) (p_chosen : List Sprite) : Pic × (List Sprite) :=
  if (p.line == 241) = true then
    if (p.dot == 1) = true then
      if (pShows ({ p with flags := (bOr .u8 p.flags 128), frames := (i64.wrap (p.frames + 1)) } : Pic) p_chosen) = true then
        ((pNext ({ p with flags := (bOr .u8 p.flags 128), frames := (i64.wrap (p.frames + 1)) } : Pic) p_chosen), p_chosen)
      else
        ((pNext ({ p with flags := (bOr .u8 p.flags 128), frames := (i64.wrap (p.frames + 1)) } : Pic) p_chosen), p_chosen)
    else
      if (pShows p p_chosen) = true then
        if (p.dot == 257) = true then
          ((pNext ((pChooseF p p_chosen (decide (p.line < 240))).1) ((pChooseF p p_chosen (decide (p.line < 240))).2)), ((pChooseF p p_chosen (decide (p.line < 240))).2))
        else
          ((pNext p p_chosen), p_chosen)
      else
        if (p.dot == 257) = true then
          ((pNext ((pChooseF p p_chosen (decide (p.line < 240))).1) ((pChooseF p p_chosen (decide (p.line < 240))).2)), ((pChooseF p p_chosen (decide (p.line < 240))).2))
        else
          ((pNext p p_chosen), p_chosen)
  else
    if (p.line == 261) = true then
      if (p.dot == 1) = true then
        if (pShows ({ p with flags := 0 } : Pic) p_chosen) = true then
          if (((pMove ({ p with flags := 0 } : Pic) p_chosen).dot : Int) == 257) = true then
            ((pNext ((pChooseF (pMove ({ p with flags := 0 } : Pic) p_chosen) p_chosen (decide (p.line < 240))).1) ((pChooseF (pMove ({ p with flags := 0 } : Pic) p_chosen) p_chosen (decide (p.line < 240))).2)), ((pChooseF (pMove ({ p with flags := 0 } : Pic) p_chosen) p_chosen (decide (p.line < 240))).2))
          else
            ((pNext (pMove ({ p with flags := 0 } : Pic) p_chosen) p_chosen), p_chosen)
        else
          ((pNext ({ p with flags := 0 } : Pic) p_chosen), p_chosen)
      else
        if (pShows p p_chosen) = true then
          if (((pMove p p_chosen).dot : Int) == 257) = true then
            ((pNext ((pChooseF (pMove p p_chosen) p_chosen (decide (p.line < 240))).1) ((pChooseF (pMove p p_chosen) p_chosen (decide (p.line < 240))).2)), ((pChooseF (pMove p p_chosen) p_chosen (decide (p.line < 240))).2))
          else
            ((pNext (pMove p p_chosen) p_chosen), p_chosen)
        else
          if (p.dot == 257) = true then
            ((pNext ((pChooseF p p_chosen (decide (p.line < 240))).1) ((pChooseF p p_chosen (decide (p.line < 240))).2)), ((pChooseF p p_chosen (decide (p.line < 240))).2))
          else
            ((pNext p p_chosen), p_chosen)
    else
      if (decide (p.line < 240)) = true then
        if (decide (p.dot ≥ 1)) = true then
          if (decide (p.dot ≤ 256)) = true then
            if (pShows (pDraw p p_chosen (i64.wrap (p.dot - 1))) p_chosen) = true then
              if (((pMove (pDraw p p_chosen (i64.wrap (p.dot - 1))) p_chosen).dot : Int) == 257) = true then
                ((pNext ((pChooseF (pMove (pDraw p p_chosen (i64.wrap (p.dot - 1))) p_chosen) p_chosen (decide (p.line < 240))).1) ((pChooseF (pMove (pDraw p p_chosen (i64.wrap (p.dot - 1))) p_chosen) p_chosen (decide (p.line < 240))).2)), ((pChooseF (pMove (pDraw p p_chosen (i64.wrap (p.dot - 1))) p_chosen) p_chosen (decide (p.line < 240))).2))
              else
                ((pNext (pMove (pDraw p p_chosen (i64.wrap (p.dot - 1))) p_chosen) p_chosen), p_chosen)
            else
              if (((pDraw p p_chosen (i64.wrap (p.dot - 1))).dot : Int) == 257) = true then
                ((pNext ((pChooseF (pDraw p p_chosen (i64.wrap (p.dot - 1))) p_chosen (decide (p.line < 240))).1) ((pChooseF (pDraw p p_chosen (i64.wrap (p.dot - 1))) p_chosen (decide (p.line < 240))).2)), ((pChooseF (pDraw p p_chosen (i64.wrap (p.dot - 1))) p_chosen (decide (p.line < 240))).2))
              else
                ((pNext (pDraw p p_chosen (i64.wrap (p.dot - 1))) p_chosen), p_chosen)
          else
            if (pShows p p_chosen) = true then
              if (((pMove p p_chosen).dot : Int) == 257) = true then
                ((pNext ((pChooseF (pMove p p_chosen) p_chosen (decide (p.line < 240))).1) ((pChooseF (pMove p p_chosen) p_chosen (decide (p.line < 240))).2)), ((pChooseF (pMove p p_chosen) p_chosen (decide (p.line < 240))).2))
              else
                ((pNext (pMove p p_chosen) p_chosen), p_chosen)
            else
              if (p.dot == 257) = true then
                ((pNext ((pChooseF p p_chosen (decide (p.line < 240))).1) ((pChooseF p p_chosen (decide (p.line < 240))).2)), ((pChooseF p p_chosen (decide (p.line < 240))).2))
              else
                ((pNext p p_chosen), p_chosen)
        else
          if (pShows p p_chosen) = true then
            if (((pMove p p_chosen).dot : Int) == 257) = true then
              ((pNext ((pChooseF (pMove p p_chosen) p_chosen (decide (p.line < 240))).1) ((pChooseF (pMove p p_chosen) p_chosen (decide (p.line < 240))).2)), ((pChooseF (pMove p p_chosen) p_chosen (decide (p.line < 240))).2))
            else
              ((pNext (pMove p p_chosen) p_chosen), p_chosen)
          else
            if (p.dot == 257) = true then
              ((pNext ((pChooseF p p_chosen (decide (p.line < 240))).1) ((pChooseF p p_chosen (decide (p.line < 240))).2)), ((pChooseF p p_chosen (decide (p.line < 240))).2))
            else
              ((pNext p p_chosen), p_chosen)
      else
        if (pShows p p_chosen) = true then
          if (p.dot == 257) = true then
            ((pNext ((pChooseF p p_chosen (decide (p.line < 240))).1) ((pChooseF p p_chosen (decide (p.line < 240))).2)), ((pChooseF p p_chosen (decide (p.line < 240))).2))
          else
            ((pNext p p_chosen), p_chosen)
        else
          if (p.dot == 257) = true then
            ((pNext ((pChooseF p p_chosen (decide (p.line < 240))).1) ((pChooseF p p_chosen (decide (p.line < 240))).2)), ((pChooseF p p_chosen (decide (p.line < 240))).2))
          else
            ((pNext p p_chosen), p_chosen)
theorem pClock_ok (p : Pic) (p_chosen : List Sprite) (w_p : Pic.ok p) (hl : 0 ≤ p.line) (hL : (List.length p_chosen) ≤ 8) : FnSpec Try.prog 23 1002 [.pointer (some ⟨1000, 0, none⟩)] [(1000, (Pic.bl p (.slice (some ⟨1001, 0, (some 0)⟩) (List.length p_chosen) 5) false)), (1001, ⟨[rowsL Sprite.cells Sprite.nil 5 p_chosen], 92, false⟩)] (.tuple ⟨[]⟩) [(1000, (Pic.bl ((pClock p p_chosen).1) (.slice (some ⟨1002, 0, (some 0)⟩) (List.length ((pClock p p_chosen).2)) 5) false)), (1002, ⟨[rowsL Sprite.cells Sprite.nil 5 ((pClock p p_chosen).2)], 92, false⟩)] := by
  unfold pClock
  rcases bt (p.line == 241) with c1 | c1
  · rw [if_pos c1]
    rcases bt (p.dot == 1) with c2 | c2
    · rw [if_pos c2]
      rcases bt (pShows ({ p with flags := (bOr .u8 p.flags 128), frames := (i64.wrap (p.frames + 1)) } : Pic) p_chosen) with c3 | c3
      · rw [if_pos c3]
        exact fn_ren (v := .tuple ⟨[]⟩) (H1 := [(1000, (Pic.bl (pNext ({ p with flags := (bOr .u8 p.flags 128), frames := (i64.wrap (p.frames + 1)) } : Pic) p_chosen) (.slice (some ⟨1001, 0, (some 0)⟩) (List.length p_chosen) 5) false)), (1001, ⟨[rowsL Sprite.cells Sprite.nil 5 p_chosen], 92, false⟩)]) (fn_of_x hG hM Try.func23 (by kernel_rfl) (by kernel_rfl) 400 [.no, .yes, .yes, .yes, .yes, .yes, .yes, .yes, .no, .no, .no, .no, .no, .no, .no, .no, .no, .no, .no, .no, .no, .callr [(1000, 1000), (1001, 1001)] [1000, 1001] [] 1002 (.bool (pShows ({ p with flags := (bOr .u8 p.flags 128), frames := (i64.wrap (p.frames + 1)) } : Pic) p_chosen)) [], .yes, .yes, .no, .no, .no, .no, .no, .yes, .no, .yes, .no, .no, .call [(1000, 1000), (1001, 1001)] [] 1002 (.tuple ⟨[]⟩) [(1000, (Pic.bl (pNext ({ p with flags := (bOr .u8 p.flags 128), frames := (i64.wrap (p.frames + 1)) } : Pic) p_chosen) (.slice (some ⟨1001, 0, (some 0)⟩) (List.length p_chosen) 5) false)), (1001, ⟨[rowsL Sprite.cells Sprite.nil 5 p_chosen], 92, false⟩)]] (J T0 (J c1 (J c1 (J c1 (J c1 (J c1 (J c1 (J c2 (J (line_no241 c1) (J (line_no241 c1) (J (line_no241 c1) (J (line_no241 c1) (J (line_no241 c1) (J (line_no241 c1) (J T0 (J T0 (J T0 (J T0 (J T0 (J T0 (J T0 (J (pShows_ok ({ p with flags := (bOr .u8 p.flags 128), frames := (i64.wrap (p.frames + 1)) } : Pic) p_chosen) (J c3 (J c3 (J (line_no241 c1) (J (line_no241 c1) (J (line_no241 c1) (J (line_no241 c1) (J (line_no241 c1) (J c3 (J (line_no241 c1) (J c3 (J (lit_e_e (b := 261) c1 (by decide)) (J (lit_e_e (b := 257) c2 (by decide)) (J (pNext_ok ({ p with flags := (bOr .u8 p.flags 128), frames := (i64.wrap (p.frames + 1)) } : Pic) p_chosen) trivial))))))))))))))))))))))))))))))))))) (by kernel_rfl)) [(1000, 1000), (1001, 1002)] 1003 (by kernel_rfl)
      · rw [if_neg (nt c3)]
        exact fn_ren (v := .tuple ⟨[]⟩) (H1 := [(1000, (Pic.bl (pNext ({ p with flags := (bOr .u8 p.flags 128), frames := (i64.wrap (p.frames + 1)) } : Pic) p_chosen) (.slice (some ⟨1001, 0, (some 0)⟩) (List.length p_chosen) 5) false)), (1001, ⟨[rowsL Sprite.cells Sprite.nil 5 p_chosen], 92, false⟩)]) (fn_of_x hG hM Try.func23 (by kernel_rfl) (by kernel_rfl) 400 [.no, .yes, .yes, .yes, .yes, .yes, .yes, .yes, .no, .no, .no, .no, .no, .no, .no, .no, .no, .no, .no, .no, .no, .callr [(1000, 1000), (1001, 1001)] [1000, 1001] [] 1002 (.bool (pShows ({ p with flags := (bOr .u8 p.flags 128), frames := (i64.wrap (p.frames + 1)) } : Pic) p_chosen)) [], .no, .no, .no, .no, .no, .no, .call [(1000, 1000), (1001, 1001)] [] 1002 (.tuple ⟨[]⟩) [(1000, (Pic.bl (pNext ({ p with flags := (bOr .u8 p.flags 128), frames := (i64.wrap (p.frames + 1)) } : Pic) p_chosen) (.slice (some ⟨1001, 0, (some 0)⟩) (List.length p_chosen) 5) false)), (1001, ⟨[rowsL Sprite.cells Sprite.nil 5 p_chosen], 92, false⟩)]] (J T0 (J c1 (J c1 (J c1 (J c1 (J c1 (J c1 (J c2 (J (line_no241 c1) (J (line_no241 c1) (J (line_no241 c1) (J (line_no241 c1) (J (line_no241 c1) (J (line_no241 c1) (J T0 (J T0 (J T0 (J T0 (J T0 (J T0 (J T0 (J (pShows_ok ({ p with flags := (bOr .u8 p.flags 128), frames := (i64.wrap (p.frames + 1)) } : Pic) p_chosen) (J c3 (J c3 (J c3 (J c3 (J T0 (J (lit_e_e (b := 257) c2 (by decide)) (J (pNext_ok ({ p with flags := (bOr .u8 p.flags 128), frames := (i64.wrap (p.frames + 1)) } : Pic) p_chosen) trivial))))))))))))))))))))))))))))) (by kernel_rfl)) [(1000, 1000), (1001, 1002)] 1003 (by kernel_rfl)
    · rw [if_neg (nt c2)]
      rcases bt (pShows p p_chosen) with c3 | c3
      · rw [if_pos c3]
        rcases bt (p.dot == 257) with c4 | c4
        · rw [if_pos c4]
          exact fn_ren (v := .tuple ⟨[]⟩) (H1 := [(1000, (Pic.bl (pNext ((pChooseF p p_chosen (decide (p.line < 240))).1) ((pChooseF p p_chosen (decide (p.line < 240))).2)) (.slice (some ⟨1002, 0, (some 0)⟩) (List.length ((pChooseF p p_chosen (decide (p.line < 240))).2)) 5) false)), (1002, ⟨[rowsL Sprite.cells Sprite.nil 5 ((pChooseF p p_chosen (decide (p.line < 240))).2)], 92, false⟩)]) (fn_of_x hG hM Try.func23 (by kernel_rfl) (by kernel_rfl) 400 [.no, .yes, .yes, .yes, .yes, .yes, .yes, .no, .no, .no, .no, .no, .no, .no, .no, .no, .no, .no, .no, .no, .no, .no, .no, .no, .no, .no, .no, .no, .callr [(1000, 1000), (1001, 1001)] [1000, 1001] [] 1002 (.bool (pShows p p_chosen)) [], .yes, .yes, .no, .no, .no, .no, .no, .yes, .no, .yes, .no, .yes, .call [(1000, 1000), (1001, 1001)] [(1002, 1002)] 1002 (.tuple ⟨[]⟩) [(1000, (Pic.bl ((pChooseF p p_chosen (decide (p.line < 240))).1) (.slice (some ⟨1002, 0, (some 0)⟩) (List.length ((pChooseF p p_chosen (decide (p.line < 240))).2)) 5) false)), (1002, ⟨[rowsL Sprite.cells Sprite.nil 5 ((pChooseF p p_chosen (decide (p.line < 240))).2)], 92, false⟩)], .call [(1000, 1000), (1002, 1001)] [] 1002 (.tuple ⟨[]⟩) [(1000, (Pic.bl (pNext ((pChooseF p p_chosen (decide (p.line < 240))).1) ((pChooseF p p_chosen (decide (p.line < 240))).2)) (.slice (some ⟨1001, 0, (some 0)⟩) (List.length ((pChooseF p p_chosen (decide (p.line < 240))).2)) 5) false)), (1001, ⟨[rowsL Sprite.cells Sprite.nil 5 ((pChooseF p p_chosen (decide (p.line < 240))).2)], 92, false⟩)]] (J T0 (J c1 (J c1 (J c1 (J c1 (J c1 (J c1 (J c2 (J (lit_e_e (b := 261) c1 (by decide)) (J (lit_e_e (b := 261) c1 (by decide)) (J (lit_e_e (b := 261) c1 (by decide)) (J (lit_e_e (b := 261) c1 (by decide)) (J (lit_e_e (b := 261) c1 (by decide)) (J (lit_e_e (b := 261) c1 (by decide)) (J T0 (J (line_no241 c1) (J (line_no241 c1) (J (line_no241 c1) (J (line_no241 c1) (J (line_no241 c1) (J (line_no241 c1) (J T0 (J T0 (J T0 (J T0 (J T0 (J T0 (J T0 (J (pShows_ok p p_chosen) (J c3 (J c3 (J (line_no241 c1) (J (line_no241 c1) (J (line_no241 c1) (J (line_no241 c1) (J (line_no241 c1) (J c3 (J (line_no241 c1) (J c3 (J (lit_e_e (b := 261) c1 (by decide)) (J c4 (J (pChooseF_ok p p_chosen (decide (p.line < 240)) w_p) (J (pNext_ok ((pChooseF p p_chosen (decide (p.line < 240))).1) ((pChooseF p p_chosen (decide (p.line < 240))).2)) trivial))))))))))))))))))))))))))))))))))))))))))) (by kernel_rfl)) [(1000, 1000), (1002, 1002)] 1003 (by kernel_rfl)
        · rw [if_neg (nt c4)]
          exact fn_ren (v := .tuple ⟨[]⟩) (H1 := [(1000, (Pic.bl (pNext p p_chosen) (.slice (some ⟨1001, 0, (some 0)⟩) (List.length p_chosen) 5) false)), (1001, ⟨[rowsL Sprite.cells Sprite.nil 5 p_chosen], 92, false⟩)]) (fn_of_x hG hM Try.func23 (by kernel_rfl) (by kernel_rfl) 400 [.no, .yes, .yes, .yes, .yes, .yes, .yes, .no, .no, .no, .no, .no, .no, .no, .no, .no, .no, .no, .no, .no, .no, .no, .no, .no, .no, .no, .no, .no, .callr [(1000, 1000), (1001, 1001)] [1000, 1001] [] 1002 (.bool (pShows p p_chosen)) [], .yes, .yes, .no, .no, .no, .no, .no, .yes, .no, .yes, .no, .no, .call [(1000, 1000), (1001, 1001)] [] 1002 (.tuple ⟨[]⟩) [(1000, (Pic.bl (pNext p p_chosen) (.slice (some ⟨1001, 0, (some 0)⟩) (List.length p_chosen) 5) false)), (1001, ⟨[rowsL Sprite.cells Sprite.nil 5 p_chosen], 92, false⟩)]] (J T0 (J c1 (J c1 (J c1 (J c1 (J c1 (J c1 (J c2 (J (lit_e_e (b := 261) c1 (by decide)) (J (lit_e_e (b := 261) c1 (by decide)) (J (lit_e_e (b := 261) c1 (by decide)) (J (lit_e_e (b := 261) c1 (by decide)) (J (lit_e_e (b := 261) c1 (by decide)) (J (lit_e_e (b := 261) c1 (by decide)) (J T0 (J (line_no241 c1) (J (line_no241 c1) (J (line_no241 c1) (J (line_no241 c1) (J (line_no241 c1) (J (line_no241 c1) (J T0 (J T0 (J T0 (J T0 (J T0 (J T0 (J T0 (J (pShows_ok p p_chosen) (J c3 (J c3 (J (line_no241 c1) (J (line_no241 c1) (J (line_no241 c1) (J (line_no241 c1) (J (line_no241 c1) (J c3 (J (line_no241 c1) (J c3 (J (lit_e_e (b := 261) c1 (by decide)) (J c4 (J (pNext_ok p p_chosen) trivial)))))))))))))))))))))))))))))))))))))))))) (by kernel_rfl)) [(1000, 1000), (1001, 1002)] 1003 (by kernel_rfl)
      · rw [if_neg (nt c3)]
        rcases bt (p.dot == 257) with c4 | c4
        · rw [if_pos c4]
          exact fn_ren (v := .tuple ⟨[]⟩) (H1 := [(1000, (Pic.bl (pNext ((pChooseF p p_chosen (decide (p.line < 240))).1) ((pChooseF p p_chosen (decide (p.line < 240))).2)) (.slice (some ⟨1002, 0, (some 0)⟩) (List.length ((pChooseF p p_chosen (decide (p.line < 240))).2)) 5) false)), (1002, ⟨[rowsL Sprite.cells Sprite.nil 5 ((pChooseF p p_chosen (decide (p.line < 240))).2)], 92, false⟩)]) (fn_of_x hG hM Try.func23 (by kernel_rfl) (by kernel_rfl) 400 [.no, .yes, .yes, .yes, .yes, .yes, .yes, .no, .no, .no, .no, .no, .no, .no, .no, .no, .no, .no, .no, .no, .no, .no, .no, .no, .no, .no, .no, .no, .callr [(1000, 1000), (1001, 1001)] [1000, 1001] [] 1002 (.bool (pShows p p_chosen)) [], .no, .no, .no, .no, .no, .yes, .call [(1000, 1000), (1001, 1001)] [(1002, 1002)] 1002 (.tuple ⟨[]⟩) [(1000, (Pic.bl ((pChooseF p p_chosen (decide (p.line < 240))).1) (.slice (some ⟨1002, 0, (some 0)⟩) (List.length ((pChooseF p p_chosen (decide (p.line < 240))).2)) 5) false)), (1002, ⟨[rowsL Sprite.cells Sprite.nil 5 ((pChooseF p p_chosen (decide (p.line < 240))).2)], 92, false⟩)], .call [(1000, 1000), (1002, 1001)] [] 1002 (.tuple ⟨[]⟩) [(1000, (Pic.bl (pNext ((pChooseF p p_chosen (decide (p.line < 240))).1) ((pChooseF p p_chosen (decide (p.line < 240))).2)) (.slice (some ⟨1001, 0, (some 0)⟩) (List.length ((pChooseF p p_chosen (decide (p.line < 240))).2)) 5) false)), (1001, ⟨[rowsL Sprite.cells Sprite.nil 5 ((pChooseF p p_chosen (decide (p.line < 240))).2)], 92, false⟩)]] (J T0 (J c1 (J c1 (J c1 (J c1 (J c1 (J c1 (J c2 (J (lit_e_e (b := 261) c1 (by decide)) (J (lit_e_e (b := 261) c1 (by decide)) (J (lit_e_e (b := 261) c1 (by decide)) (J (lit_e_e (b := 261) c1 (by decide)) (J (lit_e_e (b := 261) c1 (by decide)) (J (lit_e_e (b := 261) c1 (by decide)) (J T0 (J (line_no241 c1) (J (line_no241 c1) (J (line_no241 c1) (J (line_no241 c1) (J (line_no241 c1) (J (line_no241 c1) (J T0 (J T0 (J T0 (J T0 (J T0 (J T0 (J T0 (J (pShows_ok p p_chosen) (J c3 (J c3 (J c3 (J c3 (J T0 (J c4 (J (pChooseF_ok p p_chosen (decide (p.line < 240)) w_p) (J (pNext_ok ((pChooseF p p_chosen (decide (p.line < 240))).1) ((pChooseF p p_chosen (decide (p.line < 240))).2)) trivial))))))))))))))))))))))))))))))))))))) (by kernel_rfl)) [(1000, 1000), (1002, 1002)] 1003 (by kernel_rfl)
        · rw [if_neg (nt c4)]
          exact fn_ren (v := .tuple ⟨[]⟩) (H1 := [(1000, (Pic.bl (pNext p p_chosen) (.slice (some ⟨1001, 0, (some 0)⟩) (List.length p_chosen) 5) false)), (1001, ⟨[rowsL Sprite.cells Sprite.nil 5 p_chosen], 92, false⟩)]) (fn_of_x hG hM Try.func23 (by kernel_rfl) (by kernel_rfl) 400 [.no, .yes, .yes, .yes, .yes, .yes, .yes, .no, .no, .no, .no, .no, .no, .no, .no, .no, .no, .no, .no, .no, .no, .no, .no, .no, .no, .no, .no, .no, .callr [(1000, 1000), (1001, 1001)] [1000, 1001] [] 1002 (.bool (pShows p p_chosen)) [], .no, .no, .no, .no, .no, .no, .call [(1000, 1000), (1001, 1001)] [] 1002 (.tuple ⟨[]⟩) [(1000, (Pic.bl (pNext p p_chosen) (.slice (some ⟨1001, 0, (some 0)⟩) (List.length p_chosen) 5) false)), (1001, ⟨[rowsL Sprite.cells Sprite.nil 5 p_chosen], 92, false⟩)]] (J T0 (J c1 (J c1 (J c1 (J c1 (J c1 (J c1 (J c2 (J (lit_e_e (b := 261) c1 (by decide)) (J (lit_e_e (b := 261) c1 (by decide)) (J (lit_e_e (b := 261) c1 (by decide)) (J (lit_e_e (b := 261) c1 (by decide)) (J (lit_e_e (b := 261) c1 (by decide)) (J (lit_e_e (b := 261) c1 (by decide)) (J T0 (J (line_no241 c1) (J (line_no241 c1) (J (line_no241 c1) (J (line_no241 c1) (J (line_no241 c1) (J (line_no241 c1) (J T0 (J T0 (J T0 (J T0 (J T0 (J T0 (J T0 (J (pShows_ok p p_chosen) (J c3 (J c3 (J c3 (J c3 (J T0 (J c4 (J (pNext_ok p p_chosen) trivial)))))))))))))))))))))))))))))))))))) (by kernel_rfl)) [(1000, 1000), (1001, 1002)] 1003 (by kernel_rfl)
  · rw [if_neg (nt c1)]
    rcases bt (p.line == 261) with c2 | c2
    · rw [if_pos c2]
      rcases bt (p.dot == 1) with c3 | c3
      · rw [if_pos c3]
        rcases bt (pShows ({ p with flags := 0 } : Pic) p_chosen) with c4 | c4
        · rw [if_pos c4]
          rcases bt (((pMove ({ p with flags := 0 } : Pic) p_chosen).dot : Int) == 257) with c5 | c5
          · rw [if_pos c5]
            exact fn_ren (v := .tuple ⟨[]⟩) (H1 := [(1000, (Pic.bl (pNext ((pChooseF (pMove ({ p with flags := 0 } : Pic) p_chosen) p_chosen (decide (p.line < 240))).1) ((pChooseF (pMove ({ p with flags := 0 } : Pic) p_chosen) p_chosen (decide (p.line < 240))).2)) (.slice (some ⟨1002, 0, (some 0)⟩) (List.length ((pChooseF (pMove ({ p with flags := 0 } : Pic) p_chosen) p_chosen (decide (p.line < 240))).2)) 5) false)), (1002, ⟨[rowsL Sprite.cells Sprite.nil 5 ((pChooseF (pMove ({ p with flags := 0 } : Pic) p_chosen) p_chosen (decide (p.line < 240))).2)], 92, false⟩)]) (fn_of_x hG hM Try.func23 (by kernel_rfl) (by kernel_rfl) 400 [.no, .no, .no, .no, .no, .no, .no, .no, .yes, .yes, .yes, .yes, .yes, .yes, .yes, .no, .no, .no, .no, .no, .no, .no, .no, .no, .no, .no, .no, .no, .callr [(1000, 1000), (1001, 1001)] [1000, 1001] [] 1002 (.bool (pShows ({ p with flags := 0 } : Pic) p_chosen)) [], .yes, .yes, .no, .no, .no, .no, .no, .yes, .no, .yes, .yes, .call [(1000, 1000), (1001, 1001)] [] 1002 (.tuple ⟨[]⟩) [(1000, (Pic.bl (pMove ({ p with flags := 0 } : Pic) p_chosen) (.slice (some ⟨1001, 0, (some 0)⟩) (List.length p_chosen) 5) false)), (1001, ⟨[rowsL Sprite.cells Sprite.nil 5 p_chosen], 92, false⟩)], .yes, .call [(1000, 1000), (1001, 1001)] [(1002, 1002)] 1002 (.tuple ⟨[]⟩) [(1000, (Pic.bl ((pChooseF (pMove ({ p with flags := 0 } : Pic) p_chosen) p_chosen (decide (p.line < 240))).1) (.slice (some ⟨1002, 0, (some 0)⟩) (List.length ((pChooseF (pMove ({ p with flags := 0 } : Pic) p_chosen) p_chosen (decide (p.line < 240))).2)) 5) false)), (1002, ⟨[rowsL Sprite.cells Sprite.nil 5 ((pChooseF (pMove ({ p with flags := 0 } : Pic) p_chosen) p_chosen (decide (p.line < 240))).2)], 92, false⟩)], .call [(1000, 1000), (1002, 1001)] [] 1002 (.tuple ⟨[]⟩) [(1000, (Pic.bl (pNext ((pChooseF (pMove ({ p with flags := 0 } : Pic) p_chosen) p_chosen (decide (p.line < 240))).1) ((pChooseF (pMove ({ p with flags := 0 } : Pic) p_chosen) p_chosen (decide (p.line < 240))).2)) (.slice (some ⟨1001, 0, (some 0)⟩) (List.length ((pChooseF (pMove ({ p with flags := 0 } : Pic) p_chosen) p_chosen (decide (p.line < 240))).2)) 5) false)), (1001, ⟨[rowsL Sprite.cells Sprite.nil 5 ((pChooseF (pMove ({ p with flags := 0 } : Pic) p_chosen) p_chosen (decide (p.line < 240))).2)], 92, false⟩)]] (J T0 (J c1 (J c1 (J c1 (J c1 (J c1 (J c1 (J T0 (J c2 (J c2 (J c2 (J c2 (J c2 (J c2 (J c3 (J (line_no261 c2) (J (line_no261 c2) (J (line_no261 c2) (J (line_no261 c2) (J (line_no261 c2) (J (line_no261 c2) (J T0 (J T0 (J T0 (J T0 (J T0 (J T0 (J T0 (J (pShows_ok ({ p with flags := 0 } : Pic) p_chosen) (J c4 (J c4 (J (line_no261 c2) (J (line_no261 c2) (J (line_no261 c2) (J (line_no261 c2) (J (line_no261 c2) (J c4 (J (line_no261 c2) (J c4 (J c2 (J (pMove_ok ({ p with flags := 0 } : Pic) p_chosen) (J c5 (J (pChooseF_ok (pMove ({ p with flags := 0 } : Pic) p_chosen) p_chosen (decide (p.line < 240)) (pMove_w ({ p with flags := 0 } : Pic) p_chosen (⟨w_p.tiles, w_p.names, w_p.colours, w_p.men, w_p.man, w_p.scroll, w_p.control, w_p.mask, (by decide : rng 256 0), w_p.waits, w_p.bus, w_p.screen⟩ : Pic.ok ({ p with flags := 0 } : Pic)))) (J (pNext_ok ((pChooseF (pMove ({ p with flags := 0 } : Pic) p_chosen) p_chosen (decide (p.line < 240))).1) ((pChooseF (pMove ({ p with flags := 0 } : Pic) p_chosen) p_chosen (decide (p.line < 240))).2)) trivial)))))))))))))))))))))))))))))))))))))))))))) (by kernel_rfl)) [(1000, 1000), (1002, 1002)] 1003 (by kernel_rfl)
          · rw [if_neg (nt c5)]
            exact fn_ren (v := .tuple ⟨[]⟩) (H1 := [(1000, (Pic.bl (pNext (pMove ({ p with flags := 0 } : Pic) p_chosen) p_chosen) (.slice (some ⟨1001, 0, (some 0)⟩) (List.length p_chosen) 5) false)), (1001, ⟨[rowsL Sprite.cells Sprite.nil 5 p_chosen], 92, false⟩)]) (fn_of_x hG hM Try.func23 (by kernel_rfl) (by kernel_rfl) 400 [.no, .no, .no, .no, .no, .no, .no, .no, .yes, .yes, .yes, .yes, .yes, .yes, .yes, .no, .no, .no, .no, .no, .no, .no, .no, .no, .no, .no, .no, .no, .callr [(1000, 1000), (1001, 1001)] [1000, 1001] [] 1002 (.bool (pShows ({ p with flags := 0 } : Pic) p_chosen)) [], .yes, .yes, .no, .no, .no, .no, .no, .yes, .no, .yes, .yes, .call [(1000, 1000), (1001, 1001)] [] 1002 (.tuple ⟨[]⟩) [(1000, (Pic.bl (pMove ({ p with flags := 0 } : Pic) p_chosen) (.slice (some ⟨1001, 0, (some 0)⟩) (List.length p_chosen) 5) false)), (1001, ⟨[rowsL Sprite.cells Sprite.nil 5 p_chosen], 92, false⟩)], .no, .call [(1000, 1000), (1001, 1001)] [] 1002 (.tuple ⟨[]⟩) [(1000, (Pic.bl (pNext (pMove ({ p with flags := 0 } : Pic) p_chosen) p_chosen) (.slice (some ⟨1001, 0, (some 0)⟩) (List.length p_chosen) 5) false)), (1001, ⟨[rowsL Sprite.cells Sprite.nil 5 p_chosen], 92, false⟩)]] (J T0 (J c1 (J c1 (J c1 (J c1 (J c1 (J c1 (J T0 (J c2 (J c2 (J c2 (J c2 (J c2 (J c2 (J c3 (J (line_no261 c2) (J (line_no261 c2) (J (line_no261 c2) (J (line_no261 c2) (J (line_no261 c2) (J (line_no261 c2) (J T0 (J T0 (J T0 (J T0 (J T0 (J T0 (J T0 (J (pShows_ok ({ p with flags := 0 } : Pic) p_chosen) (J c4 (J c4 (J (line_no261 c2) (J (line_no261 c2) (J (line_no261 c2) (J (line_no261 c2) (J (line_no261 c2) (J c4 (J (line_no261 c2) (J c4 (J c2 (J (pMove_ok ({ p with flags := 0 } : Pic) p_chosen) (J c5 (J (pNext_ok (pMove ({ p with flags := 0 } : Pic) p_chosen) p_chosen) trivial))))))))))))))))))))))))))))))))))))))))))) (by kernel_rfl)) [(1000, 1000), (1001, 1002)] 1003 (by kernel_rfl)
        · rw [if_neg (nt c4)]
          exact fn_ren (v := .tuple ⟨[]⟩) (H1 := [(1000, (Pic.bl (pNext ({ p with flags := 0 } : Pic) p_chosen) (.slice (some ⟨1001, 0, (some 0)⟩) (List.length p_chosen) 5) false)), (1001, ⟨[rowsL Sprite.cells Sprite.nil 5 p_chosen], 92, false⟩)]) (fn_of_x hG hM Try.func23 (by kernel_rfl) (by kernel_rfl) 400 [.no, .no, .no, .no, .no, .no, .no, .no, .yes, .yes, .yes, .yes, .yes, .yes, .yes, .no, .no, .no, .no, .no, .no, .no, .no, .no, .no, .no, .no, .no, .callr [(1000, 1000), (1001, 1001)] [1000, 1001] [] 1002 (.bool (pShows ({ p with flags := 0 } : Pic) p_chosen)) [], .no, .no, .no, .no, .no, .no, .call [(1000, 1000), (1001, 1001)] [] 1002 (.tuple ⟨[]⟩) [(1000, (Pic.bl (pNext ({ p with flags := 0 } : Pic) p_chosen) (.slice (some ⟨1001, 0, (some 0)⟩) (List.length p_chosen) 5) false)), (1001, ⟨[rowsL Sprite.cells Sprite.nil 5 p_chosen], 92, false⟩)]] (J T0 (J c1 (J c1 (J c1 (J c1 (J c1 (J c1 (J T0 (J c2 (J c2 (J c2 (J c2 (J c2 (J c2 (J c3 (J (line_no261 c2) (J (line_no261 c2) (J (line_no261 c2) (J (line_no261 c2) (J (line_no261 c2) (J (line_no261 c2) (J T0 (J T0 (J T0 (J T0 (J T0 (J T0 (J T0 (J (pShows_ok ({ p with flags := 0 } : Pic) p_chosen) (J c4 (J c4 (J c4 (J c4 (J T0 (J (lit_e_e (b := 257) c3 (by decide)) (J (pNext_ok ({ p with flags := 0 } : Pic) p_chosen) trivial)))))))))))))))))))))))))))))))))))) (by kernel_rfl)) [(1000, 1000), (1001, 1002)] 1003 (by kernel_rfl)
      · rw [if_neg (nt c3)]
        rcases bt (pShows p p_chosen) with c4 | c4
        · rw [if_pos c4]
          rcases bt (((pMove p p_chosen).dot : Int) == 257) with c5 | c5
          · rw [if_pos c5]
            exact fn_ren (v := .tuple ⟨[]⟩) (H1 := [(1000, (Pic.bl (pNext ((pChooseF (pMove p p_chosen) p_chosen (decide (p.line < 240))).1) ((pChooseF (pMove p p_chosen) p_chosen (decide (p.line < 240))).2)) (.slice (some ⟨1002, 0, (some 0)⟩) (List.length ((pChooseF (pMove p p_chosen) p_chosen (decide (p.line < 240))).2)) 5) false)), (1002, ⟨[rowsL Sprite.cells Sprite.nil 5 ((pChooseF (pMove p p_chosen) p_chosen (decide (p.line < 240))).2)], 92, false⟩)]) (fn_of_x hG hM Try.func23 (by kernel_rfl) (by kernel_rfl) 400 [.no, .no, .no, .no, .no, .no, .no, .no, .yes, .yes, .yes, .yes, .yes, .yes, .no, .no, .no, .no, .no, .no, .no, .no, .no, .no, .no, .no, .no, .no, .callr [(1000, 1000), (1001, 1001)] [1000, 1001] [] 1002 (.bool (pShows p p_chosen)) [], .yes, .yes, .no, .no, .no, .no, .no, .yes, .no, .yes, .yes, .call [(1000, 1000), (1001, 1001)] [] 1002 (.tuple ⟨[]⟩) [(1000, (Pic.bl (pMove p p_chosen) (.slice (some ⟨1001, 0, (some 0)⟩) (List.length p_chosen) 5) false)), (1001, ⟨[rowsL Sprite.cells Sprite.nil 5 p_chosen], 92, false⟩)], .yes, .call [(1000, 1000), (1001, 1001)] [(1002, 1002)] 1002 (.tuple ⟨[]⟩) [(1000, (Pic.bl ((pChooseF (pMove p p_chosen) p_chosen (decide (p.line < 240))).1) (.slice (some ⟨1002, 0, (some 0)⟩) (List.length ((pChooseF (pMove p p_chosen) p_chosen (decide (p.line < 240))).2)) 5) false)), (1002, ⟨[rowsL Sprite.cells Sprite.nil 5 ((pChooseF (pMove p p_chosen) p_chosen (decide (p.line < 240))).2)], 92, false⟩)], .call [(1000, 1000), (1002, 1001)] [] 1002 (.tuple ⟨[]⟩) [(1000, (Pic.bl (pNext ((pChooseF (pMove p p_chosen) p_chosen (decide (p.line < 240))).1) ((pChooseF (pMove p p_chosen) p_chosen (decide (p.line < 240))).2)) (.slice (some ⟨1001, 0, (some 0)⟩) (List.length ((pChooseF (pMove p p_chosen) p_chosen (decide (p.line < 240))).2)) 5) false)), (1001, ⟨[rowsL Sprite.cells Sprite.nil 5 ((pChooseF (pMove p p_chosen) p_chosen (decide (p.line < 240))).2)], 92, false⟩)]] (J T0 (J c1 (J c1 (J c1 (J c1 (J c1 (J c1 (J T0 (J c2 (J c2 (J c2 (J c2 (J c2 (J c2 (J c3 (J (line_no261 c2) (J (line_no261 c2) (J (line_no261 c2) (J (line_no261 c2) (J (line_no261 c2) (J (line_no261 c2) (J T0 (J T0 (J T0 (J T0 (J T0 (J T0 (J T0 (J (pShows_ok p p_chosen) (J c4 (J c4 (J (line_no261 c2) (J (line_no261 c2) (J (line_no261 c2) (J (line_no261 c2) (J (line_no261 c2) (J c4 (J (line_no261 c2) (J c4 (J c2 (J (pMove_ok p p_chosen) (J c5 (J (pChooseF_ok (pMove p p_chosen) p_chosen (decide (p.line < 240)) (pMove_w p p_chosen w_p)) (J (pNext_ok ((pChooseF (pMove p p_chosen) p_chosen (decide (p.line < 240))).1) ((pChooseF (pMove p p_chosen) p_chosen (decide (p.line < 240))).2)) trivial)))))))))))))))))))))))))))))))))))))))))))) (by kernel_rfl)) [(1000, 1000), (1002, 1002)] 1003 (by kernel_rfl)
          · rw [if_neg (nt c5)]
            exact fn_ren (v := .tuple ⟨[]⟩) (H1 := [(1000, (Pic.bl (pNext (pMove p p_chosen) p_chosen) (.slice (some ⟨1001, 0, (some 0)⟩) (List.length p_chosen) 5) false)), (1001, ⟨[rowsL Sprite.cells Sprite.nil 5 p_chosen], 92, false⟩)]) (fn_of_x hG hM Try.func23 (by kernel_rfl) (by kernel_rfl) 400 [.no, .no, .no, .no, .no, .no, .no, .no, .yes, .yes, .yes, .yes, .yes, .yes, .no, .no, .no, .no, .no, .no, .no, .no, .no, .no, .no, .no, .no, .no, .callr [(1000, 1000), (1001, 1001)] [1000, 1001] [] 1002 (.bool (pShows p p_chosen)) [], .yes, .yes, .no, .no, .no, .no, .no, .yes, .no, .yes, .yes, .call [(1000, 1000), (1001, 1001)] [] 1002 (.tuple ⟨[]⟩) [(1000, (Pic.bl (pMove p p_chosen) (.slice (some ⟨1001, 0, (some 0)⟩) (List.length p_chosen) 5) false)), (1001, ⟨[rowsL Sprite.cells Sprite.nil 5 p_chosen], 92, false⟩)], .no, .call [(1000, 1000), (1001, 1001)] [] 1002 (.tuple ⟨[]⟩) [(1000, (Pic.bl (pNext (pMove p p_chosen) p_chosen) (.slice (some ⟨1001, 0, (some 0)⟩) (List.length p_chosen) 5) false)), (1001, ⟨[rowsL Sprite.cells Sprite.nil 5 p_chosen], 92, false⟩)]] (J T0 (J c1 (J c1 (J c1 (J c1 (J c1 (J c1 (J T0 (J c2 (J c2 (J c2 (J c2 (J c2 (J c2 (J c3 (J (line_no261 c2) (J (line_no261 c2) (J (line_no261 c2) (J (line_no261 c2) (J (line_no261 c2) (J (line_no261 c2) (J T0 (J T0 (J T0 (J T0 (J T0 (J T0 (J T0 (J (pShows_ok p p_chosen) (J c4 (J c4 (J (line_no261 c2) (J (line_no261 c2) (J (line_no261 c2) (J (line_no261 c2) (J (line_no261 c2) (J c4 (J (line_no261 c2) (J c4 (J c2 (J (pMove_ok p p_chosen) (J c5 (J (pNext_ok (pMove p p_chosen) p_chosen) trivial))))))))))))))))))))))))))))))))))))))))))) (by kernel_rfl)) [(1000, 1000), (1001, 1002)] 1003 (by kernel_rfl)
        · rw [if_neg (nt c4)]
          rcases bt (p.dot == 257) with c5 | c5
          · rw [if_pos c5]
            exact fn_ren (v := .tuple ⟨[]⟩) (H1 := [(1000, (Pic.bl (pNext ((pChooseF p p_chosen (decide (p.line < 240))).1) ((pChooseF p p_chosen (decide (p.line < 240))).2)) (.slice (some ⟨1002, 0, (some 0)⟩) (List.length ((pChooseF p p_chosen (decide (p.line < 240))).2)) 5) false)), (1002, ⟨[rowsL Sprite.cells Sprite.nil 5 ((pChooseF p p_chosen (decide (p.line < 240))).2)], 92, false⟩)]) (fn_of_x hG hM Try.func23 (by kernel_rfl) (by kernel_rfl) 400 [.no, .no, .no, .no, .no, .no, .no, .no, .yes, .yes, .yes, .yes, .yes, .yes, .no, .no, .no, .no, .no, .no, .no, .no, .no, .no, .no, .no, .no, .no, .callr [(1000, 1000), (1001, 1001)] [1000, 1001] [] 1002 (.bool (pShows p p_chosen)) [], .no, .no, .no, .no, .no, .yes, .call [(1000, 1000), (1001, 1001)] [(1002, 1002)] 1002 (.tuple ⟨[]⟩) [(1000, (Pic.bl ((pChooseF p p_chosen (decide (p.line < 240))).1) (.slice (some ⟨1002, 0, (some 0)⟩) (List.length ((pChooseF p p_chosen (decide (p.line < 240))).2)) 5) false)), (1002, ⟨[rowsL Sprite.cells Sprite.nil 5 ((pChooseF p p_chosen (decide (p.line < 240))).2)], 92, false⟩)], .call [(1000, 1000), (1002, 1001)] [] 1002 (.tuple ⟨[]⟩) [(1000, (Pic.bl (pNext ((pChooseF p p_chosen (decide (p.line < 240))).1) ((pChooseF p p_chosen (decide (p.line < 240))).2)) (.slice (some ⟨1001, 0, (some 0)⟩) (List.length ((pChooseF p p_chosen (decide (p.line < 240))).2)) 5) false)), (1001, ⟨[rowsL Sprite.cells Sprite.nil 5 ((pChooseF p p_chosen (decide (p.line < 240))).2)], 92, false⟩)]] (J T0 (J c1 (J c1 (J c1 (J c1 (J c1 (J c1 (J T0 (J c2 (J c2 (J c2 (J c2 (J c2 (J c2 (J c3 (J (line_no261 c2) (J (line_no261 c2) (J (line_no261 c2) (J (line_no261 c2) (J (line_no261 c2) (J (line_no261 c2) (J T0 (J T0 (J T0 (J T0 (J T0 (J T0 (J T0 (J (pShows_ok p p_chosen) (J c4 (J c4 (J c4 (J c4 (J T0 (J c5 (J (pChooseF_ok p p_chosen (decide (p.line < 240)) w_p) (J (pNext_ok ((pChooseF p p_chosen (decide (p.line < 240))).1) ((pChooseF p p_chosen (decide (p.line < 240))).2)) trivial))))))))))))))))))))))))))))))))))))) (by kernel_rfl)) [(1000, 1000), (1002, 1002)] 1003 (by kernel_rfl)
          · rw [if_neg (nt c5)]
            exact fn_ren (v := .tuple ⟨[]⟩) (H1 := [(1000, (Pic.bl (pNext p p_chosen) (.slice (some ⟨1001, 0, (some 0)⟩) (List.length p_chosen) 5) false)), (1001, ⟨[rowsL Sprite.cells Sprite.nil 5 p_chosen], 92, false⟩)]) (fn_of_x hG hM Try.func23 (by kernel_rfl) (by kernel_rfl) 400 [.no, .no, .no, .no, .no, .no, .no, .no, .yes, .yes, .yes, .yes, .yes, .yes, .no, .no, .no, .no, .no, .no, .no, .no, .no, .no, .no, .no, .no, .no, .callr [(1000, 1000), (1001, 1001)] [1000, 1001] [] 1002 (.bool (pShows p p_chosen)) [], .no, .no, .no, .no, .no, .no, .call [(1000, 1000), (1001, 1001)] [] 1002 (.tuple ⟨[]⟩) [(1000, (Pic.bl (pNext p p_chosen) (.slice (some ⟨1001, 0, (some 0)⟩) (List.length p_chosen) 5) false)), (1001, ⟨[rowsL Sprite.cells Sprite.nil 5 p_chosen], 92, false⟩)]] (J T0 (J c1 (J c1 (J c1 (J c1 (J c1 (J c1 (J T0 (J c2 (J c2 (J c2 (J c2 (J c2 (J c2 (J c3 (J (line_no261 c2) (J (line_no261 c2) (J (line_no261 c2) (J (line_no261 c2) (J (line_no261 c2) (J (line_no261 c2) (J T0 (J T0 (J T0 (J T0 (J T0 (J T0 (J T0 (J (pShows_ok p p_chosen) (J c4 (J c4 (J c4 (J c4 (J T0 (J c5 (J (pNext_ok p p_chosen) trivial)))))))))))))))))))))))))))))))))))) (by kernel_rfl)) [(1000, 1000), (1001, 1002)] 1003 (by kernel_rfl)
    · rw [if_neg (nt c2)]
      rcases bt (decide (p.line < 240)) with c3 | c3
      · rw [if_pos c3]
        rcases bt (decide (p.dot ≥ 1)) with c4 | c4
        · rw [if_pos c4]
          rcases bt (decide (p.dot ≤ 256)) with c5 | c5
          · rw [if_pos c5]
            rcases bt (pShows (pDraw p p_chosen (i64.wrap (p.dot - 1))) p_chosen) with c6 | c6
            · rw [if_pos c6]
              rcases bt (((pMove (pDraw p p_chosen (i64.wrap (p.dot - 1))) p_chosen).dot : Int) == 257) with c7 | c7
              · rw [if_pos c7]
                exact fn_ren (v := .tuple ⟨[]⟩) (H1 := [(1000, (Pic.bl (pNext ((pChooseF (pMove (pDraw p p_chosen (i64.wrap (p.dot - 1))) p_chosen) p_chosen (decide (p.line < 240))).1) ((pChooseF (pMove (pDraw p p_chosen (i64.wrap (p.dot - 1))) p_chosen) p_chosen (decide (p.line < 240))).2)) (.slice (some ⟨1002, 0, (some 0)⟩) (List.length ((pChooseF (pMove (pDraw p p_chosen (i64.wrap (p.dot - 1))) p_chosen) p_chosen (decide (p.line < 240))).2)) 5) false)), (1002, ⟨[rowsL Sprite.cells Sprite.nil 5 ((pChooseF (pMove (pDraw p p_chosen (i64.wrap (p.dot - 1))) p_chosen) p_chosen (decide (p.line < 240))).2)], 92, false⟩)]) (fn_of_x hG hM Try.func23 (by kernel_rfl) (by kernel_rfl) 400 [.no, .no, .no, .no, .no, .no, .no, .no, .no, .no, .no, .no, .no, .no, .no, .yes, .yes, .yes, .yes, .yes, .yes, .yes, .yes, .yes, .yes, .yes, .yes, .yes, .call [(1000, 1000), (1001, 1001)] [] 1002 (.tuple ⟨[]⟩) [(1000, (Pic.bl (pDraw p p_chosen (i64.wrap (p.dot - 1))) (.slice (some ⟨1001, 0, (some 0)⟩) (List.length p_chosen) 5) false)), (1001, ⟨[rowsL Sprite.cells Sprite.nil 5 p_chosen], 92, false⟩)], .callr [(1000, 1000), (1001, 1001)] [1000, 1001] [] 1002 (.bool (pShows (pDraw p p_chosen (i64.wrap (p.dot - 1))) p_chosen)) [], .yes, .yes, .yes, .yes, .yes, .yes, .yes, .yes, .yes, .yes, .yes, .call [(1000, 1000), (1001, 1001)] [] 1002 (.tuple ⟨[]⟩) [(1000, (Pic.bl (pMove (pDraw p p_chosen (i64.wrap (p.dot - 1))) p_chosen) (.slice (some ⟨1001, 0, (some 0)⟩) (List.length p_chosen) 5) false)), (1001, ⟨[rowsL Sprite.cells Sprite.nil 5 p_chosen], 92, false⟩)], .yes, .call [(1000, 1000), (1001, 1001)] [(1002, 1002)] 1002 (.tuple ⟨[]⟩) [(1000, (Pic.bl ((pChooseF (pMove (pDraw p p_chosen (i64.wrap (p.dot - 1))) p_chosen) p_chosen (decide (p.line < 240))).1) (.slice (some ⟨1002, 0, (some 0)⟩) (List.length ((pChooseF (pMove (pDraw p p_chosen (i64.wrap (p.dot - 1))) p_chosen) p_chosen (decide (p.line < 240))).2)) 5) false)), (1002, ⟨[rowsL Sprite.cells Sprite.nil 5 ((pChooseF (pMove (pDraw p p_chosen (i64.wrap (p.dot - 1))) p_chosen) p_chosen (decide (p.line < 240))).2)], 92, false⟩)], .call [(1000, 1000), (1002, 1001)] [] 1002 (.tuple ⟨[]⟩) [(1000, (Pic.bl (pNext ((pChooseF (pMove (pDraw p p_chosen (i64.wrap (p.dot - 1))) p_chosen) p_chosen (decide (p.line < 240))).1) ((pChooseF (pMove (pDraw p p_chosen (i64.wrap (p.dot - 1))) p_chosen) p_chosen (decide (p.line < 240))).2)) (.slice (some ⟨1001, 0, (some 0)⟩) (List.length ((pChooseF (pMove (pDraw p p_chosen (i64.wrap (p.dot - 1))) p_chosen) p_chosen (decide (p.line < 240))).2)) 5) false)), (1001, ⟨[rowsL Sprite.cells Sprite.nil 5 ((pChooseF (pMove (pDraw p p_chosen (i64.wrap (p.dot - 1))) p_chosen) p_chosen (decide (p.line < 240))).2)], 92, false⟩)]] (J T0 (J c1 (J c1 (J c1 (J c1 (J c1 (J c1 (J T0 (J c2 (J c2 (J c2 (J c2 (J c2 (J c2 (J T0 (J c3 (J c3 (J c3 (J c3 (J c3 (J c3 (J c4 (J c4 (J c4 (J c4 (J c4 (J c4 (J c5 (J (pDraw_ok p p_chosen (i64.wrap (p.dot - 1)) w_p (show 0 ≤ (i64.wrap (p.dot - 1)) from by (simp only [decide_eq_true_eq, decide_eq_false_iff_not, IntKind.wrap_i64] at *; omega)) (show (i64.wrap (p.dot - 1)) < 256 from by (simp only [decide_eq_true_eq, decide_eq_false_iff_not, IntKind.wrap_i64] at *; omega)) hl (show p.line < 240 from by (simp only [decide_eq_true_eq, decide_eq_false_iff_not, IntKind.wrap_i64] at *; omega)) hL) (J (pShows_ok (pDraw p p_chosen (i64.wrap (p.dot - 1))) p_chosen) (J c6 (J c6 (J c3 (J c3 (J c3 (J c3 (J c3 (J c6 (J c3 (J c6 (J T1 (J (pMove_ok (pDraw p p_chosen (i64.wrap (p.dot - 1))) p_chosen) (J c7 (J (pChooseF_ok (pMove (pDraw p p_chosen (i64.wrap (p.dot - 1))) p_chosen) p_chosen (decide (p.line < 240)) (pMove_w (pDraw p p_chosen (i64.wrap (p.dot - 1))) p_chosen (pDraw_w p p_chosen (i64.wrap (p.dot - 1)) w_p))) (J (pNext_ok ((pChooseF (pMove (pDraw p p_chosen (i64.wrap (p.dot - 1))) p_chosen) p_chosen (decide (p.line < 240))).1) ((pChooseF (pMove (pDraw p p_chosen (i64.wrap (p.dot - 1))) p_chosen) p_chosen (decide (p.line < 240))).2)) trivial))))))))))))))))))))))))))))))))))))))))))))) (by kernel_rfl)) [(1000, 1000), (1002, 1002)] 1003 (by kernel_rfl)
              · rw [if_neg (nt c7)]
                exact fn_ren (v := .tuple ⟨[]⟩) (H1 := [(1000, (Pic.bl (pNext (pMove (pDraw p p_chosen (i64.wrap (p.dot - 1))) p_chosen) p_chosen) (.slice (some ⟨1001, 0, (some 0)⟩) (List.length p_chosen) 5) false)), (1001, ⟨[rowsL Sprite.cells Sprite.nil 5 p_chosen], 92, false⟩)]) (fn_of_x hG hM Try.func23 (by kernel_rfl) (by kernel_rfl) 400 [.no, .no, .no, .no, .no, .no, .no, .no, .no, .no, .no, .no, .no, .no, .no, .yes, .yes, .yes, .yes, .yes, .yes, .yes, .yes, .yes, .yes, .yes, .yes, .yes, .call [(1000, 1000), (1001, 1001)] [] 1002 (.tuple ⟨[]⟩) [(1000, (Pic.bl (pDraw p p_chosen (i64.wrap (p.dot - 1))) (.slice (some ⟨1001, 0, (some 0)⟩) (List.length p_chosen) 5) false)), (1001, ⟨[rowsL Sprite.cells Sprite.nil 5 p_chosen], 92, false⟩)], .callr [(1000, 1000), (1001, 1001)] [1000, 1001] [] 1002 (.bool (pShows (pDraw p p_chosen (i64.wrap (p.dot - 1))) p_chosen)) [], .yes, .yes, .yes, .yes, .yes, .yes, .yes, .yes, .yes, .yes, .yes, .call [(1000, 1000), (1001, 1001)] [] 1002 (.tuple ⟨[]⟩) [(1000, (Pic.bl (pMove (pDraw p p_chosen (i64.wrap (p.dot - 1))) p_chosen) (.slice (some ⟨1001, 0, (some 0)⟩) (List.length p_chosen) 5) false)), (1001, ⟨[rowsL Sprite.cells Sprite.nil 5 p_chosen], 92, false⟩)], .no, .call [(1000, 1000), (1001, 1001)] [] 1002 (.tuple ⟨[]⟩) [(1000, (Pic.bl (pNext (pMove (pDraw p p_chosen (i64.wrap (p.dot - 1))) p_chosen) p_chosen) (.slice (some ⟨1001, 0, (some 0)⟩) (List.length p_chosen) 5) false)), (1001, ⟨[rowsL Sprite.cells Sprite.nil 5 p_chosen], 92, false⟩)]] (J T0 (J c1 (J c1 (J c1 (J c1 (J c1 (J c1 (J T0 (J c2 (J c2 (J c2 (J c2 (J c2 (J c2 (J T0 (J c3 (J c3 (J c3 (J c3 (J c3 (J c3 (J c4 (J c4 (J c4 (J c4 (J c4 (J c4 (J c5 (J (pDraw_ok p p_chosen (i64.wrap (p.dot - 1)) w_p (show 0 ≤ (i64.wrap (p.dot - 1)) from by (simp only [decide_eq_true_eq, decide_eq_false_iff_not, IntKind.wrap_i64] at *; omega)) (show (i64.wrap (p.dot - 1)) < 256 from by (simp only [decide_eq_true_eq, decide_eq_false_iff_not, IntKind.wrap_i64] at *; omega)) hl (show p.line < 240 from by (simp only [decide_eq_true_eq, decide_eq_false_iff_not, IntKind.wrap_i64] at *; omega)) hL) (J (pShows_ok (pDraw p p_chosen (i64.wrap (p.dot - 1))) p_chosen) (J c6 (J c6 (J c3 (J c3 (J c3 (J c3 (J c3 (J c6 (J c3 (J c6 (J T1 (J (pMove_ok (pDraw p p_chosen (i64.wrap (p.dot - 1))) p_chosen) (J c7 (J (pNext_ok (pMove (pDraw p p_chosen (i64.wrap (p.dot - 1))) p_chosen) p_chosen) trivial)))))))))))))))))))))))))))))))))))))))))))) (by kernel_rfl)) [(1000, 1000), (1001, 1002)] 1003 (by kernel_rfl)
            · rw [if_neg (nt c6)]
              rcases bt (((pDraw p p_chosen (i64.wrap (p.dot - 1))).dot : Int) == 257) with c7 | c7
              · rw [if_pos c7]
                exact fn_ren (v := .tuple ⟨[]⟩) (H1 := [(1000, (Pic.bl (pNext ((pChooseF (pDraw p p_chosen (i64.wrap (p.dot - 1))) p_chosen (decide (p.line < 240))).1) ((pChooseF (pDraw p p_chosen (i64.wrap (p.dot - 1))) p_chosen (decide (p.line < 240))).2)) (.slice (some ⟨1002, 0, (some 0)⟩) (List.length ((pChooseF (pDraw p p_chosen (i64.wrap (p.dot - 1))) p_chosen (decide (p.line < 240))).2)) 5) false)), (1002, ⟨[rowsL Sprite.cells Sprite.nil 5 ((pChooseF (pDraw p p_chosen (i64.wrap (p.dot - 1))) p_chosen (decide (p.line < 240))).2)], 92, false⟩)]) (fn_of_x hG hM Try.func23 (by kernel_rfl) (by kernel_rfl) 400 [.no, .no, .no, .no, .no, .no, .no, .no, .no, .no, .no, .no, .no, .no, .no, .yes, .yes, .yes, .yes, .yes, .yes, .yes, .yes, .yes, .yes, .yes, .yes, .yes, .call [(1000, 1000), (1001, 1001)] [] 1002 (.tuple ⟨[]⟩) [(1000, (Pic.bl (pDraw p p_chosen (i64.wrap (p.dot - 1))) (.slice (some ⟨1001, 0, (some 0)⟩) (List.length p_chosen) 5) false)), (1001, ⟨[rowsL Sprite.cells Sprite.nil 5 p_chosen], 92, false⟩)], .callr [(1000, 1000), (1001, 1001)] [1000, 1001] [] 1002 (.bool (pShows (pDraw p p_chosen (i64.wrap (p.dot - 1))) p_chosen)) [], .no, .no, .no, .no, .no, .yes, .call [(1000, 1000), (1001, 1001)] [(1002, 1002)] 1002 (.tuple ⟨[]⟩) [(1000, (Pic.bl ((pChooseF (pDraw p p_chosen (i64.wrap (p.dot - 1))) p_chosen (decide (p.line < 240))).1) (.slice (some ⟨1002, 0, (some 0)⟩) (List.length ((pChooseF (pDraw p p_chosen (i64.wrap (p.dot - 1))) p_chosen (decide (p.line < 240))).2)) 5) false)), (1002, ⟨[rowsL Sprite.cells Sprite.nil 5 ((pChooseF (pDraw p p_chosen (i64.wrap (p.dot - 1))) p_chosen (decide (p.line < 240))).2)], 92, false⟩)], .call [(1000, 1000), (1002, 1001)] [] 1002 (.tuple ⟨[]⟩) [(1000, (Pic.bl (pNext ((pChooseF (pDraw p p_chosen (i64.wrap (p.dot - 1))) p_chosen (decide (p.line < 240))).1) ((pChooseF (pDraw p p_chosen (i64.wrap (p.dot - 1))) p_chosen (decide (p.line < 240))).2)) (.slice (some ⟨1001, 0, (some 0)⟩) (List.length ((pChooseF (pDraw p p_chosen (i64.wrap (p.dot - 1))) p_chosen (decide (p.line < 240))).2)) 5) false)), (1001, ⟨[rowsL Sprite.cells Sprite.nil 5 ((pChooseF (pDraw p p_chosen (i64.wrap (p.dot - 1))) p_chosen (decide (p.line < 240))).2)], 92, false⟩)]] (J T0 (J c1 (J c1 (J c1 (J c1 (J c1 (J c1 (J T0 (J c2 (J c2 (J c2 (J c2 (J c2 (J c2 (J T0 (J c3 (J c3 (J c3 (J c3 (J c3 (J c3 (J c4 (J c4 (J c4 (J c4 (J c4 (J c4 (J c5 (J (pDraw_ok p p_chosen (i64.wrap (p.dot - 1)) w_p (show 0 ≤ (i64.wrap (p.dot - 1)) from by (simp only [decide_eq_true_eq, decide_eq_false_iff_not, IntKind.wrap_i64] at *; omega)) (show (i64.wrap (p.dot - 1)) < 256 from by (simp only [decide_eq_true_eq, decide_eq_false_iff_not, IntKind.wrap_i64] at *; omega)) hl (show p.line < 240 from by (simp only [decide_eq_true_eq, decide_eq_false_iff_not, IntKind.wrap_i64] at *; omega)) hL) (J (pShows_ok (pDraw p p_chosen (i64.wrap (p.dot - 1))) p_chosen) (J c6 (J c6 (J c6 (J c6 (J T0 (J c7 (J (pChooseF_ok (pDraw p p_chosen (i64.wrap (p.dot - 1))) p_chosen (decide (p.line < 240)) (pDraw_w p p_chosen (i64.wrap (p.dot - 1)) w_p)) (J (pNext_ok ((pChooseF (pDraw p p_chosen (i64.wrap (p.dot - 1))) p_chosen (decide (p.line < 240))).1) ((pChooseF (pDraw p p_chosen (i64.wrap (p.dot - 1))) p_chosen (decide (p.line < 240))).2)) trivial)))))))))))))))))))))))))))))))))))))) (by kernel_rfl)) [(1000, 1000), (1002, 1002)] 1003 (by kernel_rfl)
              · rw [if_neg (nt c7)]
                exact fn_ren (v := .tuple ⟨[]⟩) (H1 := [(1000, (Pic.bl (pNext (pDraw p p_chosen (i64.wrap (p.dot - 1))) p_chosen) (.slice (some ⟨1001, 0, (some 0)⟩) (List.length p_chosen) 5) false)), (1001, ⟨[rowsL Sprite.cells Sprite.nil 5 p_chosen], 92, false⟩)]) (fn_of_x hG hM Try.func23 (by kernel_rfl) (by kernel_rfl) 400 [.no, .no, .no, .no, .no, .no, .no, .no, .no, .no, .no, .no, .no, .no, .no, .yes, .yes, .yes, .yes, .yes, .yes, .yes, .yes, .yes, .yes, .yes, .yes, .yes, .call [(1000, 1000), (1001, 1001)] [] 1002 (.tuple ⟨[]⟩) [(1000, (Pic.bl (pDraw p p_chosen (i64.wrap (p.dot - 1))) (.slice (some ⟨1001, 0, (some 0)⟩) (List.length p_chosen) 5) false)), (1001, ⟨[rowsL Sprite.cells Sprite.nil 5 p_chosen], 92, false⟩)], .callr [(1000, 1000), (1001, 1001)] [1000, 1001] [] 1002 (.bool (pShows (pDraw p p_chosen (i64.wrap (p.dot - 1))) p_chosen)) [], .no, .no, .no, .no, .no, .no, .call [(1000, 1000), (1001, 1001)] [] 1002 (.tuple ⟨[]⟩) [(1000, (Pic.bl (pNext (pDraw p p_chosen (i64.wrap (p.dot - 1))) p_chosen) (.slice (some ⟨1001, 0, (some 0)⟩) (List.length p_chosen) 5) false)), (1001, ⟨[rowsL Sprite.cells Sprite.nil 5 p_chosen], 92, false⟩)]] (J T0 (J c1 (J c1 (J c1 (J c1 (J c1 (J c1 (J T0 (J c2 (J c2 (J c2 (J c2 (J c2 (J c2 (J T0 (J c3 (J c3 (J c3 (J c3 (J c3 (J c3 (J c4 (J c4 (J c4 (J c4 (J c4 (J c4 (J c5 (J (pDraw_ok p p_chosen (i64.wrap (p.dot - 1)) w_p (show 0 ≤ (i64.wrap (p.dot - 1)) from by (simp only [decide_eq_true_eq, decide_eq_false_iff_not, IntKind.wrap_i64] at *; omega)) (show (i64.wrap (p.dot - 1)) < 256 from by (simp only [decide_eq_true_eq, decide_eq_false_iff_not, IntKind.wrap_i64] at *; omega)) hl (show p.line < 240 from by (simp only [decide_eq_true_eq, decide_eq_false_iff_not, IntKind.wrap_i64] at *; omega)) hL) (J (pShows_ok (pDraw p p_chosen (i64.wrap (p.dot - 1))) p_chosen) (J c6 (J c6 (J c6 (J c6 (J T0 (J c7 (J (pNext_ok (pDraw p p_chosen (i64.wrap (p.dot - 1))) p_chosen) trivial))))))))))))))))))))))))))))))))))))) (by kernel_rfl)) [(1000, 1000), (1001, 1002)] 1003 (by kernel_rfl)
          · rw [if_neg (nt c5)]
            rcases bt (pShows p p_chosen) with c6 | c6
            · rw [if_pos c6]
              rcases bt (((pMove p p_chosen).dot : Int) == 257) with c7 | c7
              · rw [if_pos c7]
                exact fn_ren (v := .tuple ⟨[]⟩) (H1 := [(1000, (Pic.bl (pNext ((pChooseF (pMove p p_chosen) p_chosen (decide (p.line < 240))).1) ((pChooseF (pMove p p_chosen) p_chosen (decide (p.line < 240))).2)) (.slice (some ⟨1002, 0, (some 0)⟩) (List.length ((pChooseF (pMove p p_chosen) p_chosen (decide (p.line < 240))).2)) 5) false)), (1002, ⟨[rowsL Sprite.cells Sprite.nil 5 ((pChooseF (pMove p p_chosen) p_chosen (decide (p.line < 240))).2)], 92, false⟩)]) (fn_of_x hG hM Try.func23 (by kernel_rfl) (by kernel_rfl) 400 [.no, .no, .no, .no, .no, .no, .no, .no, .no, .no, .no, .no, .no, .no, .no, .yes, .yes, .yes, .yes, .yes, .yes, .yes, .yes, .yes, .yes, .yes, .yes, .no, .callr [(1000, 1000), (1001, 1001)] [1000, 1001] [] 1002 (.bool (pShows p p_chosen)) [], .yes, .yes, .yes, .yes, .yes, .yes, .yes, .yes, .yes, .yes, .yes, .call [(1000, 1000), (1001, 1001)] [] 1002 (.tuple ⟨[]⟩) [(1000, (Pic.bl (pMove p p_chosen) (.slice (some ⟨1001, 0, (some 0)⟩) (List.length p_chosen) 5) false)), (1001, ⟨[rowsL Sprite.cells Sprite.nil 5 p_chosen], 92, false⟩)], .yes, .call [(1000, 1000), (1001, 1001)] [(1002, 1002)] 1002 (.tuple ⟨[]⟩) [(1000, (Pic.bl ((pChooseF (pMove p p_chosen) p_chosen (decide (p.line < 240))).1) (.slice (some ⟨1002, 0, (some 0)⟩) (List.length ((pChooseF (pMove p p_chosen) p_chosen (decide (p.line < 240))).2)) 5) false)), (1002, ⟨[rowsL Sprite.cells Sprite.nil 5 ((pChooseF (pMove p p_chosen) p_chosen (decide (p.line < 240))).2)], 92, false⟩)], .call [(1000, 1000), (1002, 1001)] [] 1002 (.tuple ⟨[]⟩) [(1000, (Pic.bl (pNext ((pChooseF (pMove p p_chosen) p_chosen (decide (p.line < 240))).1) ((pChooseF (pMove p p_chosen) p_chosen (decide (p.line < 240))).2)) (.slice (some ⟨1001, 0, (some 0)⟩) (List.length ((pChooseF (pMove p p_chosen) p_chosen (decide (p.line < 240))).2)) 5) false)), (1001, ⟨[rowsL Sprite.cells Sprite.nil 5 ((pChooseF (pMove p p_chosen) p_chosen (decide (p.line < 240))).2)], 92, false⟩)]] (J T0 (J c1 (J c1 (J c1 (J c1 (J c1 (J c1 (J T0 (J c2 (J c2 (J c2 (J c2 (J c2 (J c2 (J T0 (J c3 (J c3 (J c3 (J c3 (J c3 (J c3 (J c4 (J c4 (J c4 (J c4 (J c4 (J c4 (J c5 (J (pShows_ok p p_chosen) (J c6 (J c6 (J c3 (J c3 (J c3 (J c3 (J c3 (J c6 (J c3 (J c6 (J T1 (J (pMove_ok p p_chosen) (J c7 (J (pChooseF_ok (pMove p p_chosen) p_chosen (decide (p.line < 240)) (pMove_w p p_chosen w_p)) (J (pNext_ok ((pChooseF (pMove p p_chosen) p_chosen (decide (p.line < 240))).1) ((pChooseF (pMove p p_chosen) p_chosen (decide (p.line < 240))).2)) trivial)))))))))))))))))))))))))))))))))))))))))))) (by kernel_rfl)) [(1000, 1000), (1002, 1002)] 1003 (by kernel_rfl)
              · rw [if_neg (nt c7)]
                exact fn_ren (v := .tuple ⟨[]⟩) (H1 := [(1000, (Pic.bl (pNext (pMove p p_chosen) p_chosen) (.slice (some ⟨1001, 0, (some 0)⟩) (List.length p_chosen) 5) false)), (1001, ⟨[rowsL Sprite.cells Sprite.nil 5 p_chosen], 92, false⟩)]) (fn_of_x hG hM Try.func23 (by kernel_rfl) (by kernel_rfl) 400 [.no, .no, .no, .no, .no, .no, .no, .no, .no, .no, .no, .no, .no, .no, .no, .yes, .yes, .yes, .yes, .yes, .yes, .yes, .yes, .yes, .yes, .yes, .yes, .no, .callr [(1000, 1000), (1001, 1001)] [1000, 1001] [] 1002 (.bool (pShows p p_chosen)) [], .yes, .yes, .yes, .yes, .yes, .yes, .yes, .yes, .yes, .yes, .yes, .call [(1000, 1000), (1001, 1001)] [] 1002 (.tuple ⟨[]⟩) [(1000, (Pic.bl (pMove p p_chosen) (.slice (some ⟨1001, 0, (some 0)⟩) (List.length p_chosen) 5) false)), (1001, ⟨[rowsL Sprite.cells Sprite.nil 5 p_chosen], 92, false⟩)], .no, .call [(1000, 1000), (1001, 1001)] [] 1002 (.tuple ⟨[]⟩) [(1000, (Pic.bl (pNext (pMove p p_chosen) p_chosen) (.slice (some ⟨1001, 0, (some 0)⟩) (List.length p_chosen) 5) false)), (1001, ⟨[rowsL Sprite.cells Sprite.nil 5 p_chosen], 92, false⟩)]] (J T0 (J c1 (J c1 (J c1 (J c1 (J c1 (J c1 (J T0 (J c2 (J c2 (J c2 (J c2 (J c2 (J c2 (J T0 (J c3 (J c3 (J c3 (J c3 (J c3 (J c3 (J c4 (J c4 (J c4 (J c4 (J c4 (J c4 (J c5 (J (pShows_ok p p_chosen) (J c6 (J c6 (J c3 (J c3 (J c3 (J c3 (J c3 (J c6 (J c3 (J c6 (J T1 (J (pMove_ok p p_chosen) (J c7 (J (pNext_ok (pMove p p_chosen) p_chosen) trivial))))))))))))))))))))))))))))))))))))))))))) (by kernel_rfl)) [(1000, 1000), (1001, 1002)] 1003 (by kernel_rfl)
            · rw [if_neg (nt c6)]
              rcases bt (p.dot == 257) with c7 | c7
              · rw [if_pos c7]
                exact fn_ren (v := .tuple ⟨[]⟩) (H1 := [(1000, (Pic.bl (pNext ((pChooseF p p_chosen (decide (p.line < 240))).1) ((pChooseF p p_chosen (decide (p.line < 240))).2)) (.slice (some ⟨1002, 0, (some 0)⟩) (List.length ((pChooseF p p_chosen (decide (p.line < 240))).2)) 5) false)), (1002, ⟨[rowsL Sprite.cells Sprite.nil 5 ((pChooseF p p_chosen (decide (p.line < 240))).2)], 92, false⟩)]) (fn_of_x hG hM Try.func23 (by kernel_rfl) (by kernel_rfl) 400 [.no, .no, .no, .no, .no, .no, .no, .no, .no, .no, .no, .no, .no, .no, .no, .yes, .yes, .yes, .yes, .yes, .yes, .yes, .yes, .yes, .yes, .yes, .yes, .no, .callr [(1000, 1000), (1001, 1001)] [1000, 1001] [] 1002 (.bool (pShows p p_chosen)) [], .no, .no, .no, .no, .no, .yes, .call [(1000, 1000), (1001, 1001)] [(1002, 1002)] 1002 (.tuple ⟨[]⟩) [(1000, (Pic.bl ((pChooseF p p_chosen (decide (p.line < 240))).1) (.slice (some ⟨1002, 0, (some 0)⟩) (List.length ((pChooseF p p_chosen (decide (p.line < 240))).2)) 5) false)), (1002, ⟨[rowsL Sprite.cells Sprite.nil 5 ((pChooseF p p_chosen (decide (p.line < 240))).2)], 92, false⟩)], .call [(1000, 1000), (1002, 1001)] [] 1002 (.tuple ⟨[]⟩) [(1000, (Pic.bl (pNext ((pChooseF p p_chosen (decide (p.line < 240))).1) ((pChooseF p p_chosen (decide (p.line < 240))).2)) (.slice (some ⟨1001, 0, (some 0)⟩) (List.length ((pChooseF p p_chosen (decide (p.line < 240))).2)) 5) false)), (1001, ⟨[rowsL Sprite.cells Sprite.nil 5 ((pChooseF p p_chosen (decide (p.line < 240))).2)], 92, false⟩)]] (J T0 (J c1 (J c1 (J c1 (J c1 (J c1 (J c1 (J T0 (J c2 (J c2 (J c2 (J c2 (J c2 (J c2 (J T0 (J c3 (J c3 (J c3 (J c3 (J c3 (J c3 (J c4 (J c4 (J c4 (J c4 (J c4 (J c4 (J c5 (J (pShows_ok p p_chosen) (J c6 (J c6 (J c6 (J c6 (J T0 (J c7 (J (pChooseF_ok p p_chosen (decide (p.line < 240)) w_p) (J (pNext_ok ((pChooseF p p_chosen (decide (p.line < 240))).1) ((pChooseF p p_chosen (decide (p.line < 240))).2)) trivial))))))))))))))))))))))))))))))))))))) (by kernel_rfl)) [(1000, 1000), (1002, 1002)] 1003 (by kernel_rfl)
              · rw [if_neg (nt c7)]
                exact fn_ren (v := .tuple ⟨[]⟩) (H1 := [(1000, (Pic.bl (pNext p p_chosen) (.slice (some ⟨1001, 0, (some 0)⟩) (List.length p_chosen) 5) false)), (1001, ⟨[rowsL Sprite.cells Sprite.nil 5 p_chosen], 92, false⟩)]) (fn_of_x hG hM Try.func23 (by kernel_rfl) (by kernel_rfl) 400 [.no, .no, .no, .no, .no, .no, .no, .no, .no, .no, .no, .no, .no, .no, .no, .yes, .yes, .yes, .yes, .yes, .yes, .yes, .yes, .yes, .yes, .yes, .yes, .no, .callr [(1000, 1000), (1001, 1001)] [1000, 1001] [] 1002 (.bool (pShows p p_chosen)) [], .no, .no, .no, .no, .no, .no, .call [(1000, 1000), (1001, 1001)] [] 1002 (.tuple ⟨[]⟩) [(1000, (Pic.bl (pNext p p_chosen) (.slice (some ⟨1001, 0, (some 0)⟩) (List.length p_chosen) 5) false)), (1001, ⟨[rowsL Sprite.cells Sprite.nil 5 p_chosen], 92, false⟩)]] (J T0 (J c1 (J c1 (J c1 (J c1 (J c1 (J c1 (J T0 (J c2 (J c2 (J c2 (J c2 (J c2 (J c2 (J T0 (J c3 (J c3 (J c3 (J c3 (J c3 (J c3 (J c4 (J c4 (J c4 (J c4 (J c4 (J c4 (J c5 (J (pShows_ok p p_chosen) (J c6 (J c6 (J c6 (J c6 (J T0 (J c7 (J (pNext_ok p p_chosen) trivial)))))))))))))))))))))))))))))))))))) (by kernel_rfl)) [(1000, 1000), (1001, 1002)] 1003 (by kernel_rfl)
        · rw [if_neg (nt c4)]
          rcases bt (pShows p p_chosen) with c5 | c5
          · rw [if_pos c5]
            rcases bt (((pMove p p_chosen).dot : Int) == 257) with c6 | c6
            · rw [if_pos c6]
              exact fn_ren (v := .tuple ⟨[]⟩) (H1 := [(1000, (Pic.bl (pNext ((pChooseF (pMove p p_chosen) p_chosen (decide (p.line < 240))).1) ((pChooseF (pMove p p_chosen) p_chosen (decide (p.line < 240))).2)) (.slice (some ⟨1002, 0, (some 0)⟩) (List.length ((pChooseF (pMove p p_chosen) p_chosen (decide (p.line < 240))).2)) 5) false)), (1002, ⟨[rowsL Sprite.cells Sprite.nil 5 ((pChooseF (pMove p p_chosen) p_chosen (decide (p.line < 240))).2)], 92, false⟩)]) (fn_of_x hG hM Try.func23 (by kernel_rfl) (by kernel_rfl) 400 [.no, .no, .no, .no, .no, .no, .no, .no, .no, .no, .no, .no, .no, .no, .no, .yes, .yes, .yes, .yes, .yes, .yes, .no, .no, .no, .no, .no, .no, .no, .callr [(1000, 1000), (1001, 1001)] [1000, 1001] [] 1002 (.bool (pShows p p_chosen)) [], .yes, .yes, .yes, .yes, .yes, .yes, .yes, .yes, .yes, .yes, .yes, .call [(1000, 1000), (1001, 1001)] [] 1002 (.tuple ⟨[]⟩) [(1000, (Pic.bl (pMove p p_chosen) (.slice (some ⟨1001, 0, (some 0)⟩) (List.length p_chosen) 5) false)), (1001, ⟨[rowsL Sprite.cells Sprite.nil 5 p_chosen], 92, false⟩)], .yes, .call [(1000, 1000), (1001, 1001)] [(1002, 1002)] 1002 (.tuple ⟨[]⟩) [(1000, (Pic.bl ((pChooseF (pMove p p_chosen) p_chosen (decide (p.line < 240))).1) (.slice (some ⟨1002, 0, (some 0)⟩) (List.length ((pChooseF (pMove p p_chosen) p_chosen (decide (p.line < 240))).2)) 5) false)), (1002, ⟨[rowsL Sprite.cells Sprite.nil 5 ((pChooseF (pMove p p_chosen) p_chosen (decide (p.line < 240))).2)], 92, false⟩)], .call [(1000, 1000), (1002, 1001)] [] 1002 (.tuple ⟨[]⟩) [(1000, (Pic.bl (pNext ((pChooseF (pMove p p_chosen) p_chosen (decide (p.line < 240))).1) ((pChooseF (pMove p p_chosen) p_chosen (decide (p.line < 240))).2)) (.slice (some ⟨1001, 0, (some 0)⟩) (List.length ((pChooseF (pMove p p_chosen) p_chosen (decide (p.line < 240))).2)) 5) false)), (1001, ⟨[rowsL Sprite.cells Sprite.nil 5 ((pChooseF (pMove p p_chosen) p_chosen (decide (p.line < 240))).2)], 92, false⟩)]] (J T0 (J c1 (J c1 (J c1 (J c1 (J c1 (J c1 (J T0 (J c2 (J c2 (J c2 (J c2 (J c2 (J c2 (J T0 (J c3 (J c3 (J c3 (J c3 (J c3 (J c3 (J c4 (J c4 (J c4 (J c4 (J c4 (J c4 (J T0 (J (pShows_ok p p_chosen) (J c5 (J c5 (J c3 (J c3 (J c3 (J c3 (J c3 (J c5 (J c3 (J c5 (J T1 (J (pMove_ok p p_chosen) (J c6 (J (pChooseF_ok (pMove p p_chosen) p_chosen (decide (p.line < 240)) (pMove_w p p_chosen w_p)) (J (pNext_ok ((pChooseF (pMove p p_chosen) p_chosen (decide (p.line < 240))).1) ((pChooseF (pMove p p_chosen) p_chosen (decide (p.line < 240))).2)) trivial)))))))))))))))))))))))))))))))))))))))))))) (by kernel_rfl)) [(1000, 1000), (1002, 1002)] 1003 (by kernel_rfl)
            · rw [if_neg (nt c6)]
              exact fn_ren (v := .tuple ⟨[]⟩) (H1 := [(1000, (Pic.bl (pNext (pMove p p_chosen) p_chosen) (.slice (some ⟨1001, 0, (some 0)⟩) (List.length p_chosen) 5) false)), (1001, ⟨[rowsL Sprite.cells Sprite.nil 5 p_chosen], 92, false⟩)]) (fn_of_x hG hM Try.func23 (by kernel_rfl) (by kernel_rfl) 400 [.no, .no, .no, .no, .no, .no, .no, .no, .no, .no, .no, .no, .no, .no, .no, .yes, .yes, .yes, .yes, .yes, .yes, .no, .no, .no, .no, .no, .no, .no, .callr [(1000, 1000), (1001, 1001)] [1000, 1001] [] 1002 (.bool (pShows p p_chosen)) [], .yes, .yes, .yes, .yes, .yes, .yes, .yes, .yes, .yes, .yes, .yes, .call [(1000, 1000), (1001, 1001)] [] 1002 (.tuple ⟨[]⟩) [(1000, (Pic.bl (pMove p p_chosen) (.slice (some ⟨1001, 0, (some 0)⟩) (List.length p_chosen) 5) false)), (1001, ⟨[rowsL Sprite.cells Sprite.nil 5 p_chosen], 92, false⟩)], .no, .call [(1000, 1000), (1001, 1001)] [] 1002 (.tuple ⟨[]⟩) [(1000, (Pic.bl (pNext (pMove p p_chosen) p_chosen) (.slice (some ⟨1001, 0, (some 0)⟩) (List.length p_chosen) 5) false)), (1001, ⟨[rowsL Sprite.cells Sprite.nil 5 p_chosen], 92, false⟩)]] (J T0 (J c1 (J c1 (J c1 (J c1 (J c1 (J c1 (J T0 (J c2 (J c2 (J c2 (J c2 (J c2 (J c2 (J T0 (J c3 (J c3 (J c3 (J c3 (J c3 (J c3 (J c4 (J c4 (J c4 (J c4 (J c4 (J c4 (J T0 (J (pShows_ok p p_chosen) (J c5 (J c5 (J c3 (J c3 (J c3 (J c3 (J c3 (J c5 (J c3 (J c5 (J T1 (J (pMove_ok p p_chosen) (J c6 (J (pNext_ok (pMove p p_chosen) p_chosen) trivial))))))))))))))))))))))))))))))))))))))))))) (by kernel_rfl)) [(1000, 1000), (1001, 1002)] 1003 (by kernel_rfl)
          · rw [if_neg (nt c5)]
            rcases bt (p.dot == 257) with c6 | c6
            · rw [if_pos c6]
              exact fn_ren (v := .tuple ⟨[]⟩) (H1 := [(1000, (Pic.bl (pNext ((pChooseF p p_chosen (decide (p.line < 240))).1) ((pChooseF p p_chosen (decide (p.line < 240))).2)) (.slice (some ⟨1002, 0, (some 0)⟩) (List.length ((pChooseF p p_chosen (decide (p.line < 240))).2)) 5) false)), (1002, ⟨[rowsL Sprite.cells Sprite.nil 5 ((pChooseF p p_chosen (decide (p.line < 240))).2)], 92, false⟩)]) (fn_of_x hG hM Try.func23 (by kernel_rfl) (by kernel_rfl) 400 [.no, .no, .no, .no, .no, .no, .no, .no, .no, .no, .no, .no, .no, .no, .no, .yes, .yes, .yes, .yes, .yes, .yes, .no, .no, .no, .no, .no, .no, .no, .callr [(1000, 1000), (1001, 1001)] [1000, 1001] [] 1002 (.bool (pShows p p_chosen)) [], .no, .no, .no, .no, .no, .yes, .call [(1000, 1000), (1001, 1001)] [(1002, 1002)] 1002 (.tuple ⟨[]⟩) [(1000, (Pic.bl ((pChooseF p p_chosen (decide (p.line < 240))).1) (.slice (some ⟨1002, 0, (some 0)⟩) (List.length ((pChooseF p p_chosen (decide (p.line < 240))).2)) 5) false)), (1002, ⟨[rowsL Sprite.cells Sprite.nil 5 ((pChooseF p p_chosen (decide (p.line < 240))).2)], 92, false⟩)], .call [(1000, 1000), (1002, 1001)] [] 1002 (.tuple ⟨[]⟩) [(1000, (Pic.bl (pNext ((pChooseF p p_chosen (decide (p.line < 240))).1) ((pChooseF p p_chosen (decide (p.line < 240))).2)) (.slice (some ⟨1001, 0, (some 0)⟩) (List.length ((pChooseF p p_chosen (decide (p.line < 240))).2)) 5) false)), (1001, ⟨[rowsL Sprite.cells Sprite.nil 5 ((pChooseF p p_chosen (decide (p.line < 240))).2)], 92, false⟩)]] (J T0 (J c1 (J c1 (J c1 (J c1 (J c1 (J c1 (J T0 (J c2 (J c2 (J c2 (J c2 (J c2 (J c2 (J T0 (J c3 (J c3 (J c3 (J c3 (J c3 (J c3 (J c4 (J c4 (J c4 (J c4 (J c4 (J c4 (J T0 (J (pShows_ok p p_chosen) (J c5 (J c5 (J c5 (J c5 (J T0 (J c6 (J (pChooseF_ok p p_chosen (decide (p.line < 240)) w_p) (J (pNext_ok ((pChooseF p p_chosen (decide (p.line < 240))).1) ((pChooseF p p_chosen (decide (p.line < 240))).2)) trivial))))))))))))))))))))))))))))))))))))) (by kernel_rfl)) [(1000, 1000), (1002, 1002)] 1003 (by kernel_rfl)
            · rw [if_neg (nt c6)]
              exact fn_ren (v := .tuple ⟨[]⟩) (H1 := [(1000, (Pic.bl (pNext p p_chosen) (.slice (some ⟨1001, 0, (some 0)⟩) (List.length p_chosen) 5) false)), (1001, ⟨[rowsL Sprite.cells Sprite.nil 5 p_chosen], 92, false⟩)]) (fn_of_x hG hM Try.func23 (by kernel_rfl) (by kernel_rfl) 400 [.no, .no, .no, .no, .no, .no, .no, .no, .no, .no, .no, .no, .no, .no, .no, .yes, .yes, .yes, .yes, .yes, .yes, .no, .no, .no, .no, .no, .no, .no, .callr [(1000, 1000), (1001, 1001)] [1000, 1001] [] 1002 (.bool (pShows p p_chosen)) [], .no, .no, .no, .no, .no, .no, .call [(1000, 1000), (1001, 1001)] [] 1002 (.tuple ⟨[]⟩) [(1000, (Pic.bl (pNext p p_chosen) (.slice (some ⟨1001, 0, (some 0)⟩) (List.length p_chosen) 5) false)), (1001, ⟨[rowsL Sprite.cells Sprite.nil 5 p_chosen], 92, false⟩)]] (J T0 (J c1 (J c1 (J c1 (J c1 (J c1 (J c1 (J T0 (J c2 (J c2 (J c2 (J c2 (J c2 (J c2 (J T0 (J c3 (J c3 (J c3 (J c3 (J c3 (J c3 (J c4 (J c4 (J c4 (J c4 (J c4 (J c4 (J T0 (J (pShows_ok p p_chosen) (J c5 (J c5 (J c5 (J c5 (J T0 (J c6 (J (pNext_ok p p_chosen) trivial)))))))))))))))))))))))))))))))))))) (by kernel_rfl)) [(1000, 1000), (1001, 1002)] 1003 (by kernel_rfl)
      · rw [if_neg (nt c3)]
        rcases bt (pShows p p_chosen) with c4 | c4
        · rw [if_pos c4]
          rcases bt (p.dot == 257) with c5 | c5
          · rw [if_pos c5]
            exact fn_ren (v := .tuple ⟨[]⟩) (H1 := [(1000, (Pic.bl (pNext ((pChooseF p p_chosen (decide (p.line < 240))).1) ((pChooseF p p_chosen (decide (p.line < 240))).2)) (.slice (some ⟨1002, 0, (some 0)⟩) (List.length ((pChooseF p p_chosen (decide (p.line < 240))).2)) 5) false)), (1002, ⟨[rowsL Sprite.cells Sprite.nil 5 ((pChooseF p p_chosen (decide (p.line < 240))).2)], 92, false⟩)]) (fn_of_x hG hM Try.func23 (by kernel_rfl) (by kernel_rfl) 400 [.no, .no, .no, .no, .no, .no, .no, .no, .no, .no, .no, .no, .no, .no, .no, .no, .no, .no, .no, .no, .no, .no, .no, .no, .no, .no, .no, .no, .callr [(1000, 1000), (1001, 1001)] [1000, 1001] [] 1002 (.bool (pShows p p_chosen)) [], .yes, .yes, .no, .no, .no, .no, .no, .yes, .no, .yes, .no, .yes, .call [(1000, 1000), (1001, 1001)] [(1002, 1002)] 1002 (.tuple ⟨[]⟩) [(1000, (Pic.bl ((pChooseF p p_chosen (decide (p.line < 240))).1) (.slice (some ⟨1002, 0, (some 0)⟩) (List.length ((pChooseF p p_chosen (decide (p.line < 240))).2)) 5) false)), (1002, ⟨[rowsL Sprite.cells Sprite.nil 5 ((pChooseF p p_chosen (decide (p.line < 240))).2)], 92, false⟩)], .call [(1000, 1000), (1002, 1001)] [] 1002 (.tuple ⟨[]⟩) [(1000, (Pic.bl (pNext ((pChooseF p p_chosen (decide (p.line < 240))).1) ((pChooseF p p_chosen (decide (p.line < 240))).2)) (.slice (some ⟨1001, 0, (some 0)⟩) (List.length ((pChooseF p p_chosen (decide (p.line < 240))).2)) 5) false)), (1001, ⟨[rowsL Sprite.cells Sprite.nil 5 ((pChooseF p p_chosen (decide (p.line < 240))).2)], 92, false⟩)]] (J T0 (J c1 (J c1 (J c1 (J c1 (J c1 (J c1 (J T0 (J c2 (J c2 (J c2 (J c2 (J c2 (J c2 (J T0 (J c3 (J c3 (J c3 (J c3 (J c3 (J c3 (J T0 (J T0 (J T0 (J T0 (J T0 (J T0 (J T0 (J (pShows_ok p p_chosen) (J c4 (J c4 (J c3 (J c3 (J c3 (J c3 (J c3 (J c4 (J c3 (J c4 (J c2 (J c5 (J (pChooseF_ok p p_chosen (decide (p.line < 240)) w_p) (J (pNext_ok ((pChooseF p p_chosen (decide (p.line < 240))).1) ((pChooseF p p_chosen (decide (p.line < 240))).2)) trivial))))))))))))))))))))))))))))))))))))))))))) (by kernel_rfl)) [(1000, 1000), (1002, 1002)] 1003 (by kernel_rfl)
          · rw [if_neg (nt c5)]
            exact fn_ren (v := .tuple ⟨[]⟩) (H1 := [(1000, (Pic.bl (pNext p p_chosen) (.slice (some ⟨1001, 0, (some 0)⟩) (List.length p_chosen) 5) false)), (1001, ⟨[rowsL Sprite.cells Sprite.nil 5 p_chosen], 92, false⟩)]) (fn_of_x hG hM Try.func23 (by kernel_rfl) (by kernel_rfl) 400 [.no, .no, .no, .no, .no, .no, .no, .no, .no, .no, .no, .no, .no, .no, .no, .no, .no, .no, .no, .no, .no, .no, .no, .no, .no, .no, .no, .no, .callr [(1000, 1000), (1001, 1001)] [1000, 1001] [] 1002 (.bool (pShows p p_chosen)) [], .yes, .yes, .no, .no, .no, .no, .no, .yes, .no, .yes, .no, .no, .call [(1000, 1000), (1001, 1001)] [] 1002 (.tuple ⟨[]⟩) [(1000, (Pic.bl (pNext p p_chosen) (.slice (some ⟨1001, 0, (some 0)⟩) (List.length p_chosen) 5) false)), (1001, ⟨[rowsL Sprite.cells Sprite.nil 5 p_chosen], 92, false⟩)]] (J T0 (J c1 (J c1 (J c1 (J c1 (J c1 (J c1 (J T0 (J c2 (J c2 (J c2 (J c2 (J c2 (J c2 (J T0 (J c3 (J c3 (J c3 (J c3 (J c3 (J c3 (J T0 (J T0 (J T0 (J T0 (J T0 (J T0 (J T0 (J (pShows_ok p p_chosen) (J c4 (J c4 (J c3 (J c3 (J c3 (J c3 (J c3 (J c4 (J c3 (J c4 (J c2 (J c5 (J (pNext_ok p p_chosen) trivial)))))))))))))))))))))))))))))))))))))))))) (by kernel_rfl)) [(1000, 1000), (1001, 1002)] 1003 (by kernel_rfl)
        · rw [if_neg (nt c4)]
          rcases bt (p.dot == 257) with c5 | c5
          · rw [if_pos c5]
            exact fn_ren (v := .tuple ⟨[]⟩) (H1 := [(1000, (Pic.bl (pNext ((pChooseF p p_chosen (decide (p.line < 240))).1) ((pChooseF p p_chosen (decide (p.line < 240))).2)) (.slice (some ⟨1002, 0, (some 0)⟩) (List.length ((pChooseF p p_chosen (decide (p.line < 240))).2)) 5) false)), (1002, ⟨[rowsL Sprite.cells Sprite.nil 5 ((pChooseF p p_chosen (decide (p.line < 240))).2)], 92, false⟩)]) (fn_of_x hG hM Try.func23 (by kernel_rfl) (by kernel_rfl) 400 [.no, .no, .no, .no, .no, .no, .no, .no, .no, .no, .no, .no, .no, .no, .no, .no, .no, .no, .no, .no, .no, .no, .no, .no, .no, .no, .no, .no, .callr [(1000, 1000), (1001, 1001)] [1000, 1001] [] 1002 (.bool (pShows p p_chosen)) [], .no, .no, .no, .no, .no, .yes, .call [(1000, 1000), (1001, 1001)] [(1002, 1002)] 1002 (.tuple ⟨[]⟩) [(1000, (Pic.bl ((pChooseF p p_chosen (decide (p.line < 240))).1) (.slice (some ⟨1002, 0, (some 0)⟩) (List.length ((pChooseF p p_chosen (decide (p.line < 240))).2)) 5) false)), (1002, ⟨[rowsL Sprite.cells Sprite.nil 5 ((pChooseF p p_chosen (decide (p.line < 240))).2)], 92, false⟩)], .call [(1000, 1000), (1002, 1001)] [] 1002 (.tuple ⟨[]⟩) [(1000, (Pic.bl (pNext ((pChooseF p p_chosen (decide (p.line < 240))).1) ((pChooseF p p_chosen (decide (p.line < 240))).2)) (.slice (some ⟨1001, 0, (some 0)⟩) (List.length ((pChooseF p p_chosen (decide (p.line < 240))).2)) 5) false)), (1001, ⟨[rowsL Sprite.cells Sprite.nil 5 ((pChooseF p p_chosen (decide (p.line < 240))).2)], 92, false⟩)]] (J T0 (J c1 (J c1 (J c1 (J c1 (J c1 (J c1 (J T0 (J c2 (J c2 (J c2 (J c2 (J c2 (J c2 (J T0 (J c3 (J c3 (J c3 (J c3 (J c3 (J c3 (J T0 (J T0 (J T0 (J T0 (J T0 (J T0 (J T0 (J (pShows_ok p p_chosen) (J c4 (J c4 (J c4 (J c4 (J T0 (J c5 (J (pChooseF_ok p p_chosen (decide (p.line < 240)) w_p) (J (pNext_ok ((pChooseF p p_chosen (decide (p.line < 240))).1) ((pChooseF p p_chosen (decide (p.line < 240))).2)) trivial))))))))))))))))))))))))))))))))))))) (by kernel_rfl)) [(1000, 1000), (1002, 1002)] 1003 (by kernel_rfl)
          · rw [if_neg (nt c5)]
            exact fn_ren (v := .tuple ⟨[]⟩) (H1 := [(1000, (Pic.bl (pNext p p_chosen) (.slice (some ⟨1001, 0, (some 0)⟩) (List.length p_chosen) 5) false)), (1001, ⟨[rowsL Sprite.cells Sprite.nil 5 p_chosen], 92, false⟩)]) (fn_of_x hG hM Try.func23 (by kernel_rfl) (by kernel_rfl) 400 [.no, .no, .no, .no, .no, .no, .no, .no, .no, .no, .no, .no, .no, .no, .no, .no, .no, .no, .no, .no, .no, .no, .no, .no, .no, .no, .no, .no, .callr [(1000, 1000), (1001, 1001)] [1000, 1001] [] 1002 (.bool (pShows p p_chosen)) [], .no, .no, .no, .no, .no, .no, .call [(1000, 1000), (1001, 1001)] [] 1002 (.tuple ⟨[]⟩) [(1000, (Pic.bl (pNext p p_chosen) (.slice (some ⟨1001, 0, (some 0)⟩) (List.length p_chosen) 5) false)), (1001, ⟨[rowsL Sprite.cells Sprite.nil 5 p_chosen], 92, false⟩)]] (J T0 (J c1 (J c1 (J c1 (J c1 (J c1 (J c1 (J T0 (J c2 (J c2 (J c2 (J c2 (J c2 (J c2 (J T0 (J c3 (J c3 (J c3 (J c3 (J c3 (J c3 (J T0 (J T0 (J T0 (J T0 (J T0 (J T0 (J T0 (J (pShows_ok p p_chosen) (J c4 (J c4 (J c4 (J c4 (J T0 (J c5 (J (pNext_ok p p_chosen) trivial)))))))))))))))))))))))))))))))))))) (by kernel_rfl)) [(1000, 1000), (1001, 1002)] 1003 (by kernel_rfl)
theorem pClock_w1 (p : Pic) (p_chosen : List Sprite) (w_p : Pic.ok p) (hl : 0 ≤ p.line) (hL : (List.length p_chosen) ≤ 8) : Pic.ok (pClock p p_chosen).1 := by
  unfold pClock
  rcases bt (p.line == 241) with c1 | c1
  · rw [if_pos c1]
    rcases bt (p.dot == 1) with c2 | c2
    · rw [if_pos c2]
      rcases bt (pShows ({ p with flags := (bOr .u8 p.flags 128), frames := (i64.wrap (p.frames + 1)) } : Pic) p_chosen) with c3 | c3
      · rw [if_pos c3]
        exact (pNext_w ({ p with flags := (bOr .u8 p.flags 128), frames := (i64.wrap (p.frames + 1)) } : Pic) p_chosen (⟨w_p.tiles, w_p.names, w_p.colours, w_p.men, w_p.man, w_p.scroll, w_p.control, w_p.mask, (rng_bOr_u8 p.flags 128), w_p.waits, w_p.bus, w_p.screen⟩ : Pic.ok ({ p with flags := (bOr .u8 p.flags 128), frames := (i64.wrap (p.frames + 1)) } : Pic)))
      · rw [if_neg (nt c3)]
        exact (pNext_w ({ p with flags := (bOr .u8 p.flags 128), frames := (i64.wrap (p.frames + 1)) } : Pic) p_chosen (⟨w_p.tiles, w_p.names, w_p.colours, w_p.men, w_p.man, w_p.scroll, w_p.control, w_p.mask, (rng_bOr_u8 p.flags 128), w_p.waits, w_p.bus, w_p.screen⟩ : Pic.ok ({ p with flags := (bOr .u8 p.flags 128), frames := (i64.wrap (p.frames + 1)) } : Pic)))
    · rw [if_neg (nt c2)]
      rcases bt (pShows p p_chosen) with c3 | c3
      · rw [if_pos c3]
        rcases bt (p.dot == 257) with c4 | c4
        · rw [if_pos c4]
          exact (pNext_w ((pChooseF p p_chosen (decide (p.line < 240))).1) ((pChooseF p p_chosen (decide (p.line < 240))).2) (pChoose_w p p_chosen (decide (p.line < 240)) w_p))
        · rw [if_neg (nt c4)]
          exact (pNext_w p p_chosen w_p)
      · rw [if_neg (nt c3)]
        rcases bt (p.dot == 257) with c4 | c4
        · rw [if_pos c4]
          exact (pNext_w ((pChooseF p p_chosen (decide (p.line < 240))).1) ((pChooseF p p_chosen (decide (p.line < 240))).2) (pChoose_w p p_chosen (decide (p.line < 240)) w_p))
        · rw [if_neg (nt c4)]
          exact (pNext_w p p_chosen w_p)
  · rw [if_neg (nt c1)]
    rcases bt (p.line == 261) with c2 | c2
    · rw [if_pos c2]
      rcases bt (p.dot == 1) with c3 | c3
      · rw [if_pos c3]
        rcases bt (pShows ({ p with flags := 0 } : Pic) p_chosen) with c4 | c4
        · rw [if_pos c4]
          rcases bt (((pMove ({ p with flags := 0 } : Pic) p_chosen).dot : Int) == 257) with c5 | c5
          · rw [if_pos c5]
            exact (pNext_w ((pChooseF (pMove ({ p with flags := 0 } : Pic) p_chosen) p_chosen (decide (p.line < 240))).1) ((pChooseF (pMove ({ p with flags := 0 } : Pic) p_chosen) p_chosen (decide (p.line < 240))).2) (pChoose_w (pMove ({ p with flags := 0 } : Pic) p_chosen) p_chosen (decide (p.line < 240)) (pMove_w ({ p with flags := 0 } : Pic) p_chosen (⟨w_p.tiles, w_p.names, w_p.colours, w_p.men, w_p.man, w_p.scroll, w_p.control, w_p.mask, (by decide : rng 256 0), w_p.waits, w_p.bus, w_p.screen⟩ : Pic.ok ({ p with flags := 0 } : Pic)))))
          · rw [if_neg (nt c5)]
            exact (pNext_w (pMove ({ p with flags := 0 } : Pic) p_chosen) p_chosen (pMove_w ({ p with flags := 0 } : Pic) p_chosen (⟨w_p.tiles, w_p.names, w_p.colours, w_p.men, w_p.man, w_p.scroll, w_p.control, w_p.mask, (by decide : rng 256 0), w_p.waits, w_p.bus, w_p.screen⟩ : Pic.ok ({ p with flags := 0 } : Pic))))
        · rw [if_neg (nt c4)]
          exact (pNext_w ({ p with flags := 0 } : Pic) p_chosen (⟨w_p.tiles, w_p.names, w_p.colours, w_p.men, w_p.man, w_p.scroll, w_p.control, w_p.mask, (by decide : rng 256 0), w_p.waits, w_p.bus, w_p.screen⟩ : Pic.ok ({ p with flags := 0 } : Pic)))
      · rw [if_neg (nt c3)]
        rcases bt (pShows p p_chosen) with c4 | c4
        · rw [if_pos c4]
          rcases bt (((pMove p p_chosen).dot : Int) == 257) with c5 | c5
          · rw [if_pos c5]
            exact (pNext_w ((pChooseF (pMove p p_chosen) p_chosen (decide (p.line < 240))).1) ((pChooseF (pMove p p_chosen) p_chosen (decide (p.line < 240))).2) (pChoose_w (pMove p p_chosen) p_chosen (decide (p.line < 240)) (pMove_w p p_chosen w_p)))
          · rw [if_neg (nt c5)]
            exact (pNext_w (pMove p p_chosen) p_chosen (pMove_w p p_chosen w_p))
        · rw [if_neg (nt c4)]
          rcases bt (p.dot == 257) with c5 | c5
          · rw [if_pos c5]
            exact (pNext_w ((pChooseF p p_chosen (decide (p.line < 240))).1) ((pChooseF p p_chosen (decide (p.line < 240))).2) (pChoose_w p p_chosen (decide (p.line < 240)) w_p))
          · rw [if_neg (nt c5)]
            exact (pNext_w p p_chosen w_p)
    · rw [if_neg (nt c2)]
      rcases bt (decide (p.line < 240)) with c3 | c3
      · rw [if_pos c3]
        rcases bt (decide (p.dot ≥ 1)) with c4 | c4
        · rw [if_pos c4]
          rcases bt (decide (p.dot ≤ 256)) with c5 | c5
          · rw [if_pos c5]
            rcases bt (pShows (pDraw p p_chosen (i64.wrap (p.dot - 1))) p_chosen) with c6 | c6
            · rw [if_pos c6]
              rcases bt (((pMove (pDraw p p_chosen (i64.wrap (p.dot - 1))) p_chosen).dot : Int) == 257) with c7 | c7
              · rw [if_pos c7]
                exact (pNext_w ((pChooseF (pMove (pDraw p p_chosen (i64.wrap (p.dot - 1))) p_chosen) p_chosen (decide (p.line < 240))).1) ((pChooseF (pMove (pDraw p p_chosen (i64.wrap (p.dot - 1))) p_chosen) p_chosen (decide (p.line < 240))).2) (pChoose_w (pMove (pDraw p p_chosen (i64.wrap (p.dot - 1))) p_chosen) p_chosen (decide (p.line < 240)) (pMove_w (pDraw p p_chosen (i64.wrap (p.dot - 1))) p_chosen (pDraw_w p p_chosen (i64.wrap (p.dot - 1)) w_p))))
              · rw [if_neg (nt c7)]
                exact (pNext_w (pMove (pDraw p p_chosen (i64.wrap (p.dot - 1))) p_chosen) p_chosen (pMove_w (pDraw p p_chosen (i64.wrap (p.dot - 1))) p_chosen (pDraw_w p p_chosen (i64.wrap (p.dot - 1)) w_p)))
            · rw [if_neg (nt c6)]
              rcases bt (((pDraw p p_chosen (i64.wrap (p.dot - 1))).dot : Int) == 257) with c7 | c7
              · rw [if_pos c7]
                exact (pNext_w ((pChooseF (pDraw p p_chosen (i64.wrap (p.dot - 1))) p_chosen (decide (p.line < 240))).1) ((pChooseF (pDraw p p_chosen (i64.wrap (p.dot - 1))) p_chosen (decide (p.line < 240))).2) (pChoose_w (pDraw p p_chosen (i64.wrap (p.dot - 1))) p_chosen (decide (p.line < 240)) (pDraw_w p p_chosen (i64.wrap (p.dot - 1)) w_p)))
              · rw [if_neg (nt c7)]
                exact (pNext_w (pDraw p p_chosen (i64.wrap (p.dot - 1))) p_chosen (pDraw_w p p_chosen (i64.wrap (p.dot - 1)) w_p))
          · rw [if_neg (nt c5)]
            rcases bt (pShows p p_chosen) with c6 | c6
            · rw [if_pos c6]
              rcases bt (((pMove p p_chosen).dot : Int) == 257) with c7 | c7
              · rw [if_pos c7]
                exact (pNext_w ((pChooseF (pMove p p_chosen) p_chosen (decide (p.line < 240))).1) ((pChooseF (pMove p p_chosen) p_chosen (decide (p.line < 240))).2) (pChoose_w (pMove p p_chosen) p_chosen (decide (p.line < 240)) (pMove_w p p_chosen w_p)))
              · rw [if_neg (nt c7)]
                exact (pNext_w (pMove p p_chosen) p_chosen (pMove_w p p_chosen w_p))
            · rw [if_neg (nt c6)]
              rcases bt (p.dot == 257) with c7 | c7
              · rw [if_pos c7]
                exact (pNext_w ((pChooseF p p_chosen (decide (p.line < 240))).1) ((pChooseF p p_chosen (decide (p.line < 240))).2) (pChoose_w p p_chosen (decide (p.line < 240)) w_p))
              · rw [if_neg (nt c7)]
                exact (pNext_w p p_chosen w_p)
        · rw [if_neg (nt c4)]
          rcases bt (pShows p p_chosen) with c5 | c5
          · rw [if_pos c5]
            rcases bt (((pMove p p_chosen).dot : Int) == 257) with c6 | c6
            · rw [if_pos c6]
              exact (pNext_w ((pChooseF (pMove p p_chosen) p_chosen (decide (p.line < 240))).1) ((pChooseF (pMove p p_chosen) p_chosen (decide (p.line < 240))).2) (pChoose_w (pMove p p_chosen) p_chosen (decide (p.line < 240)) (pMove_w p p_chosen w_p)))
            · rw [if_neg (nt c6)]
              exact (pNext_w (pMove p p_chosen) p_chosen (pMove_w p p_chosen w_p))
          · rw [if_neg (nt c5)]
            rcases bt (p.dot == 257) with c6 | c6
            · rw [if_pos c6]
              exact (pNext_w ((pChooseF p p_chosen (decide (p.line < 240))).1) ((pChooseF p p_chosen (decide (p.line < 240))).2) (pChoose_w p p_chosen (decide (p.line < 240)) w_p))
            · rw [if_neg (nt c6)]
              exact (pNext_w p p_chosen w_p)
      · rw [if_neg (nt c3)]
        rcases bt (pShows p p_chosen) with c4 | c4
        · rw [if_pos c4]
          rcases bt (p.dot == 257) with c5 | c5
          · rw [if_pos c5]
            exact (pNext_w ((pChooseF p p_chosen (decide (p.line < 240))).1) ((pChooseF p p_chosen (decide (p.line < 240))).2) (pChoose_w p p_chosen (decide (p.line < 240)) w_p))
          · rw [if_neg (nt c5)]
            exact (pNext_w p p_chosen w_p)
        · rw [if_neg (nt c4)]
          rcases bt (p.dot == 257) with c5 | c5
          · rw [if_pos c5]
            exact (pNext_w ((pChooseF p p_chosen (decide (p.line < 240))).1) ((pChooseF p p_chosen (decide (p.line < 240))).2) (pChoose_w p p_chosen (decide (p.line < 240)) w_p))
          · rw [if_neg (nt c5)]
            exact (pNext_w p p_chosen w_p)
end Go.Proofs.Ytgnhhnmpeklciaa
namespace Go.Proofs.Ytgnhhnmpeklciaa
open Go VX
open Go.IntKind (i64 u8 u16)
set_option linter.unusedVariables false
set_option linter.unusedSimpArgs false
set_option maxRecDepth 100000
set_option maxHeartbeats 4000000
def picNew  : Unit :=
  ()
theorem picNew_ok  : FnSpec Try.prog 14 1000 [] [] (.pointer (some ⟨1000, 0, none⟩)) [] := by
  exact fn_of_x hG hM Try.func14 (by kernel_rfl) (by kernel_rfl) 400 [] trivial (by kernel_rfl)
def pRead (p : Pic) (p_chosen : List Sprite) (a : Int) : Pic × Int :=
  if (decide ((bAnd .u16 a 16383) ≥ 16128)) = true then
    (({ p with waits := (p.names (Int.toNat (mirror a p.upright))) } : Pic), (bOr .u8 (pPeek p p_chosen a) (bAndNot .u8 p.bus 63)))
  else
    (({ p with waits := (pPeek p p_chosen a) } : Pic), p.waits)
theorem pRead_ok (p : Pic) (p_chosen : List Sprite) (a : Int) : FnSpec Try.prog 39 1002 [.pointer (some ⟨1000, 0, none⟩), .int .u16 a] [(1000, (Pic.bl p (.slice (some ⟨1001, 0, (some 0)⟩) (List.length p_chosen) 5) false)), (1001, ⟨[rowsL Sprite.cells Sprite.nil 5 p_chosen], 92, false⟩)] (.int .u8 ((pRead p p_chosen a).2)) [(1000, (Pic.bl ((pRead p p_chosen a).1) (.slice (some ⟨1001, 0, (some 0)⟩) (List.length p_chosen) 5) false)), (1001, ⟨[rowsL Sprite.cells Sprite.nil 5 p_chosen], 92, false⟩)] := by
  unfold pRead
  rcases bt (decide ((bAnd .u16 a 16383) ≥ 16128)) with c1 | c1
  · rw [if_pos c1]
    exact fn_of_x hG hM Try.func39 (by kernel_rfl) (by kernel_rfl) 400 [.call [(1000, 1000), (1001, 1001)] [] 1002 (.int .u8 (pPeek p p_chosen a)) [(1000, (Pic.bl p (.slice (some ⟨1001, 0, (some 0)⟩) (List.length p_chosen) 5) false)), (1001, ⟨[rowsL Sprite.cells Sprite.nil 5 p_chosen], 92, false⟩)], .yes, .call [] [] 1000 (.int .u16 (mirror a p.upright)) [], .sym] (J (pPeek_ok p p_chosen a) (J c1 (J (mirror_ok a p.upright) (J (show 0 ≤ (mirror a p.upright) ∧ (mirror a p.upright) < ((2048 : Nat) : Int) from by have q0_ := mirror_lt a p.upright; first | omega | (simp only [decide_eq_true_eq, decide_eq_false_iff_not, rng, IntKind.wrap_i64, IntKind.wrap_u8, IntKind.wrap_u16] at *; omega)) (J (show (Int.toNat (mirror a p.upright)) < 2048 from by have q0_ := mirror_lt a p.upright; first | omega | (simp only [decide_eq_true_eq, decide_eq_false_iff_not, rng, IntKind.wrap_i64, IntKind.wrap_u8, IntKind.wrap_u16] at *; omega)) trivial))))) (by kernel_rfl)
  · rw [if_neg (nt c1)]
    exact fn_of_x hG hM Try.func39 (by kernel_rfl) (by kernel_rfl) 400 [.call [(1000, 1000), (1001, 1001)] [] 1002 (.int .u8 (pPeek p p_chosen a)) [(1000, (Pic.bl p (.slice (some ⟨1001, 0, (some 0)⟩) (List.length p_chosen) 5) false)), (1001, ⟨[rowsL Sprite.cells Sprite.nil 5 p_chosen], 92, false⟩)], .no] (J (pPeek_ok p p_chosen a) (J c1 trivial)) (by kernel_rfl)
theorem pRead_w1 (p : Pic) (p_chosen : List Sprite) (a : Int) (w_p : Pic.ok p) (w_a : rng 65536 a) : Pic.ok (pRead p p_chosen a).1 := by
  unfold pRead
  rcases bt (decide ((bAnd .u16 a 16383) ≥ 16128)) with c1 | c1
  · rw [if_pos c1]
    exact (⟨w_p.tiles, w_p.names, w_p.colours, w_p.men, w_p.man, w_p.scroll, w_p.control, w_p.mask, w_p.flags, (w_p.names (Int.toNat (mirror a p.upright))), w_p.bus, w_p.screen⟩ : Pic.ok ({ p with waits := (p.names (Int.toNat (mirror a p.upright))) } : Pic))
  · rw [if_neg (nt c1)]
    exact (⟨w_p.tiles, w_p.names, w_p.colours, w_p.men, w_p.man, w_p.scroll, w_p.control, w_p.mask, w_p.flags, (pPeek_w p p_chosen a w_p w_a), w_p.bus, w_p.screen⟩ : Pic.ok ({ p with waits := (pPeek p p_chosen a) } : Pic))
theorem pRead_w2 (p : Pic) (p_chosen : List Sprite) (a : Int) (w_p : Pic.ok p) (w_a : rng 65536 a) : rng 256 (pRead p p_chosen a).2 := by
  unfold pRead
  rcases bt (decide ((bAnd .u16 a 16383) ≥ 16128)) with c1 | c1
  · rw [if_pos c1]
    exact (rng_bOr_u8 (pPeek p p_chosen a) (bAndNot .u8 p.bus 63))
  · rw [if_neg (nt c1)]
    exact w_p.waits
def pGet (p : Pic) (p_chosen : List Sprite) (reg : Int) : Pic × Int :=
  if ((Int.tmod reg 8) == 2) = true then
    (({ p with scroll := (sLook p.scroll), flags := (bAndNot .u8 p.flags 128), bus := (bOr .u8 p.flags (bAnd .u8 p.bus 31)) } : Pic), (bOr .u8 p.flags (bAnd .u8 p.bus 31)))
  else
    if ((Int.tmod reg 8) == 4) = true then
      if ((Int.tmod p.man 4) == 2) = true then
        (({ p with bus := (bAnd .u8 (p.men (Int.toNat p.man)) 227) } : Pic), (bAnd .u8 (p.men (Int.toNat p.man)) 227))
      else
        (({ p with bus := (p.men (Int.toNat p.man)) } : Pic), (p.men (Int.toNat p.man)))
    else
      if ((Int.tmod reg 8) == 7) = true then
        (({ ((pRead p p_chosen p.scroll.V).1) with scroll := (sStep (((pRead p p_chosen p.scroll.V).1).scroll) ((bAnd .u8 (((pRead p p_chosen p.scroll.V).1).control) 4) != 0)), bus := (pRead p p_chosen p.scroll.V).2 } : Pic), (pRead p p_chosen p.scroll.V).2)
      else
        (p, p.bus)
theorem pGet_ok (p : Pic) (p_chosen : List Sprite) (reg : Int) (w_p : Pic.ok p) : FnSpec Try.prog 17 1002 [.pointer (some ⟨1000, 0, none⟩), .int .u8 reg] [(1000, (Pic.bl p (.slice (some ⟨1001, 0, (some 0)⟩) (List.length p_chosen) 5) false)), (1001, ⟨[rowsL Sprite.cells Sprite.nil 5 p_chosen], 92, false⟩)] (.int .u8 ((pGet p p_chosen reg).2)) [(1000, (Pic.bl ((pGet p p_chosen reg).1) (.slice (some ⟨1001, 0, (some 0)⟩) (List.length p_chosen) 5) false)), (1001, ⟨[rowsL Sprite.cells Sprite.nil 5 p_chosen], 92, false⟩)] := by
  unfold pGet
  rcases bt ((Int.tmod reg 8) == 2) with c1 | c1
  · rw [if_pos c1]
    exact fn_of_x hG hM Try.func17 (by kernel_rfl) (by kernel_rfl) 400 [.no, .yes, .call [] [] 1000 (Scroll.enc (sLook p.scroll)) []] (J T0 (J (by decide : ((8 : Int) ≠ 0)) (J c1 (J (sLook_ok p.scroll) trivial)))) (by kernel_rfl)
  · rw [if_neg (nt c1)]
    rcases bt ((Int.tmod reg 8) == 4) with c2 | c2
    · rw [if_pos c2]
      rcases bt ((Int.tmod p.man 4) == 2) with c3 | c3
      · rw [if_pos c3]
        exact fn_of_x hG hM Try.func17 (by kernel_rfl) (by kernel_rfl) 400 [.no, .no, .yes, .sym, .yes] (J T0 (J (by decide : ((8 : Int) ≠ 0)) (J c1 (J c2 (J w_p.man (J (toNat_lt w_p.man) (J (by decide : ((4 : Int) ≠ 0)) (J c3 trivial)))))))) (by kernel_rfl)
      · rw [if_neg (nt c3)]
        exact fn_of_x hG hM Try.func17 (by kernel_rfl) (by kernel_rfl) 400 [.no, .no, .yes, .sym, .no] (J T0 (J (by decide : ((8 : Int) ≠ 0)) (J c1 (J c2 (J w_p.man (J (toNat_lt w_p.man) (J (by decide : ((4 : Int) ≠ 0)) (J c3 trivial)))))))) (by kernel_rfl)
    · rw [if_neg (nt c2)]
      rcases bt ((Int.tmod reg 8) == 7) with c3 | c3
      · rw [if_pos c3]
        exact fn_of_x hG hM Try.func17 (by kernel_rfl) (by kernel_rfl) 400 [.no, .no, .no, .yes, .call [(1000, 1000), (1001, 1001)] [] 1002 (.int .u8 ((pRead p p_chosen p.scroll.V).2)) [(1000, (Pic.bl ((pRead p p_chosen p.scroll.V).1) (.slice (some ⟨1001, 0, (some 0)⟩) (List.length p_chosen) 5) false)), (1001, ⟨[rowsL Sprite.cells Sprite.nil 5 p_chosen], 92, false⟩)], .call [] [] 1000 (Scroll.enc (sStep (((pRead p p_chosen p.scroll.V).1).scroll) ((bAnd .u8 (((pRead p p_chosen p.scroll.V).1).control) 4) != 0))) []] (J T0 (J (by decide : ((8 : Int) ≠ 0)) (J c1 (J c2 (J c3 (J (pRead_ok p p_chosen p.scroll.V) (J (sStep_ok (((pRead p p_chosen p.scroll.V).1).scroll) ((bAnd .u8 (((pRead p p_chosen p.scroll.V).1).control) 4) != 0)) trivial))))))) (by kernel_rfl)
      · rw [if_neg (nt c3)]
        exact fn_of_x hG hM Try.func17 (by kernel_rfl) (by kernel_rfl) 400 [.no, .no, .no, .no] (J T0 (J (by decide : ((8 : Int) ≠ 0)) (J c1 (J c2 (J c3 trivial))))) (by kernel_rfl)
theorem pGet_w1 (p : Pic) (p_chosen : List Sprite) (reg : Int) (w_p : Pic.ok p) (w_reg : rng 256 reg) : Pic.ok (pGet p p_chosen reg).1 := by
  unfold pGet
  rcases bt ((Int.tmod reg 8) == 2) with c1 | c1
  · rw [if_pos c1]
    exact (⟨w_p.tiles, w_p.names, w_p.colours, w_p.men, w_p.man, (sLook_w p.scroll w_p.scroll), w_p.control, w_p.mask, (rng_bAndNot_u8 p.flags 128), w_p.waits, (rng_bOr_u8 p.flags (bAnd .u8 p.bus 31)), w_p.screen⟩ : Pic.ok ({ p with scroll := (sLook p.scroll), flags := (bAndNot .u8 p.flags 128), bus := (bOr .u8 p.flags (bAnd .u8 p.bus 31)) } : Pic))
  · rw [if_neg (nt c1)]
    rcases bt ((Int.tmod reg 8) == 4) with c2 | c2
    · rw [if_pos c2]
      rcases bt ((Int.tmod p.man 4) == 2) with c3 | c3
      · rw [if_pos c3]
        exact (⟨w_p.tiles, w_p.names, w_p.colours, w_p.men, w_p.man, w_p.scroll, w_p.control, w_p.mask, w_p.flags, w_p.waits, (rng_bAnd_u8 (p.men (Int.toNat p.man)) 227), w_p.screen⟩ : Pic.ok ({ p with bus := (bAnd .u8 (p.men (Int.toNat p.man)) 227) } : Pic))
      · rw [if_neg (nt c3)]
        exact (⟨w_p.tiles, w_p.names, w_p.colours, w_p.men, w_p.man, w_p.scroll, w_p.control, w_p.mask, w_p.flags, w_p.waits, (w_p.men (Int.toNat p.man)), w_p.screen⟩ : Pic.ok ({ p with bus := (p.men (Int.toNat p.man)) } : Pic))
    · rw [if_neg (nt c2)]
      rcases bt ((Int.tmod reg 8) == 7) with c3 | c3
      · rw [if_pos c3]
        exact (⟨(pRead_w1 p p_chosen p.scroll.V w_p w_p.scroll.V).tiles, (pRead_w1 p p_chosen p.scroll.V w_p w_p.scroll.V).names, (pRead_w1 p p_chosen p.scroll.V w_p w_p.scroll.V).colours, (pRead_w1 p p_chosen p.scroll.V w_p w_p.scroll.V).men, (pRead_w1 p p_chosen p.scroll.V w_p w_p.scroll.V).man, (sStep_w (((pRead p p_chosen p.scroll.V).1).scroll) ((bAnd .u8 (((pRead p p_chosen p.scroll.V).1).control) 4) != 0) ((pRead_w1 p p_chosen p.scroll.V w_p w_p.scroll.V).scroll)), (pRead_w1 p p_chosen p.scroll.V w_p w_p.scroll.V).control, (pRead_w1 p p_chosen p.scroll.V w_p w_p.scroll.V).mask, (pRead_w1 p p_chosen p.scroll.V w_p w_p.scroll.V).flags, (pRead_w1 p p_chosen p.scroll.V w_p w_p.scroll.V).waits, (pRead_w2 p p_chosen p.scroll.V w_p w_p.scroll.V), (pRead_w1 p p_chosen p.scroll.V w_p w_p.scroll.V).screen⟩ : Pic.ok ({ ((pRead p p_chosen p.scroll.V).1) with scroll := (sStep (((pRead p p_chosen p.scroll.V).1).scroll) ((bAnd .u8 (((pRead p p_chosen p.scroll.V).1).control) 4) != 0)), bus := (pRead p p_chosen p.scroll.V).2 } : Pic))
      · rw [if_neg (nt c3)]
        exact w_p
theorem pGet_w2 (p : Pic) (p_chosen : List Sprite) (reg : Int) (w_p : Pic.ok p) (w_reg : rng 256 reg) : rng 256 (pGet p p_chosen reg).2 := by
  unfold pGet
  rcases bt ((Int.tmod reg 8) == 2) with c1 | c1
  · rw [if_pos c1]
    exact (rng_bOr_u8 p.flags (bAnd .u8 p.bus 31))
  · rw [if_neg (nt c1)]
    rcases bt ((Int.tmod reg 8) == 4) with c2 | c2
    · rw [if_pos c2]
      rcases bt ((Int.tmod p.man 4) == 2) with c3 | c3
      · rw [if_pos c3]
        exact (rng_bAnd_u8 (p.men (Int.toNat p.man)) 227)
      · rw [if_neg (nt c3)]
        exact (w_p.men (Int.toNat p.man))
    · rw [if_neg (nt c2)]
      rcases bt ((Int.tmod reg 8) == 7) with c3 | c3
      · rw [if_pos c3]
        exact (pRead_w2 p p_chosen p.scroll.V w_p w_p.scroll.V)
      · rw [if_neg (nt c3)]
        exact w_p.bus
def pPut (p : Pic) (p_chosen : List Sprite) (reg : Int) (b : Int) : Pic :=
  if ((Int.tmod reg 8) == 0) = true then
    ({ p with scroll := (sControl p.scroll b), control := b, bus := b } : Pic)
  else
    if ((Int.tmod reg 8) == 1) = true then
      ({ p with mask := b, bus := b } : Pic)
    else
      if ((Int.tmod reg 8) == 3) = true then
        ({ p with man := b, bus := b } : Pic)
      else
        if ((Int.tmod reg 8) == 4) = true then
          ({ p with men := (upd p.men (Int.toNat p.man) b), man := (u8.wrap (p.man + 1)), bus := b } : Pic)
        else
          if ((Int.tmod reg 8) == 5) = true then
            ({ p with scroll := (sOffset p.scroll b), bus := b } : Pic)
          else
            if ((Int.tmod reg 8) == 6) = true then
              ({ p with scroll := (sAddress p.scroll b), bus := b } : Pic)
            else
              if ((Int.tmod reg 8) == 7) = true then
                ({ (pPoke ({ p with bus := b } : Pic) p_chosen p.scroll.V b) with scroll := (sStep ((pPoke ({ p with bus := b } : Pic) p_chosen p.scroll.V b).scroll) ((bAnd .u8 ((pPoke ({ p with bus := b } : Pic) p_chosen p.scroll.V b).control) 4) != 0)) } : Pic)
              else
                ({ p with bus := b } : Pic)
theorem pPut_ok (p : Pic) (p_chosen : List Sprite) (reg : Int) (b : Int) (w_p : Pic.ok p) : FnSpec Try.prog 21 1002 [.pointer (some ⟨1000, 0, none⟩), .int .u8 reg, .int .u8 b] [(1000, (Pic.bl p (.slice (some ⟨1001, 0, (some 0)⟩) (List.length p_chosen) 5) false)), (1001, ⟨[rowsL Sprite.cells Sprite.nil 5 p_chosen], 92, false⟩)] (.tuple ⟨[]⟩) [(1000, (Pic.bl (pPut p p_chosen reg b) (.slice (some ⟨1001, 0, (some 0)⟩) (List.length p_chosen) 5) false)), (1001, ⟨[rowsL Sprite.cells Sprite.nil 5 p_chosen], 92, false⟩)] := by
  unfold pPut
  rcases bt ((Int.tmod reg 8) == 0) with c1 | c1
  · rw [if_pos c1]
    exact fn_of_x hG hM Try.func21 (by kernel_rfl) (by kernel_rfl) 400 [.no, .yes, .call [] [] 1000 (Scroll.enc (sControl p.scroll b)) []] (J T0 (J (by decide : ((8 : Int) ≠ 0)) (J c1 (J (sControl_ok p.scroll b) trivial)))) (by kernel_rfl)
  · rw [if_neg (nt c1)]
    rcases bt ((Int.tmod reg 8) == 1) with c2 | c2
    · rw [if_pos c2]
      exact fn_of_x hG hM Try.func21 (by kernel_rfl) (by kernel_rfl) 400 [.no, .no, .yes] (J T0 (J (by decide : ((8 : Int) ≠ 0)) (J c1 (J c2 trivial)))) (by kernel_rfl)
    · rw [if_neg (nt c2)]
      rcases bt ((Int.tmod reg 8) == 3) with c3 | c3
      · rw [if_pos c3]
        exact fn_of_x hG hM Try.func21 (by kernel_rfl) (by kernel_rfl) 400 [.no, .no, .no, .yes] (J T0 (J (by decide : ((8 : Int) ≠ 0)) (J c1 (J c2 (J c3 trivial))))) (by kernel_rfl)
      · rw [if_neg (nt c3)]
        rcases bt ((Int.tmod reg 8) == 4) with c4 | c4
        · rw [if_pos c4]
          exact fn_of_x hG hM Try.func21 (by kernel_rfl) (by kernel_rfl) 400 [.no, .no, .no, .no, .yes, .sym] (J T0 (J (by decide : ((8 : Int) ≠ 0)) (J c1 (J c2 (J c3 (J c4 (J w_p.man (J (toNat_lt w_p.man) trivial)))))))) (by kernel_rfl)
        · rw [if_neg (nt c4)]
          rcases bt ((Int.tmod reg 8) == 5) with c5 | c5
          · rw [if_pos c5]
            exact fn_of_x hG hM Try.func21 (by kernel_rfl) (by kernel_rfl) 400 [.no, .no, .no, .no, .no, .yes, .call [] [] 1000 (Scroll.enc (sOffset p.scroll b)) []] (J T0 (J (by decide : ((8 : Int) ≠ 0)) (J c1 (J c2 (J c3 (J c4 (J c5 (J (sOffset_ok p.scroll b) trivial)))))))) (by kernel_rfl)
          · rw [if_neg (nt c5)]
            rcases bt ((Int.tmod reg 8) == 6) with c6 | c6
            · rw [if_pos c6]
              exact fn_of_x hG hM Try.func21 (by kernel_rfl) (by kernel_rfl) 400 [.no, .no, .no, .no, .no, .no, .yes, .call [] [] 1000 (Scroll.enc (sAddress p.scroll b)) []] (J T0 (J (by decide : ((8 : Int) ≠ 0)) (J c1 (J c2 (J c3 (J c4 (J c5 (J c6 (J (sAddress_ok p.scroll b) trivial))))))))) (by kernel_rfl)
            · rw [if_neg (nt c6)]
              rcases bt ((Int.tmod reg 8) == 7) with c7 | c7
              · rw [if_pos c7]
                exact fn_of_x hG hM Try.func21 (by kernel_rfl) (by kernel_rfl) 400 [.no, .no, .no, .no, .no, .no, .no, .yes, .call [(1000, 1000), (1001, 1001)] [] 1002 (.tuple ⟨[]⟩) [(1000, (Pic.bl (pPoke ({ p with bus := b } : Pic) p_chosen p.scroll.V b) (.slice (some ⟨1001, 0, (some 0)⟩) (List.length p_chosen) 5) false)), (1001, ⟨[rowsL Sprite.cells Sprite.nil 5 p_chosen], 92, false⟩)], .call [] [] 1000 (Scroll.enc (sStep ((pPoke ({ p with bus := b } : Pic) p_chosen p.scroll.V b).scroll) ((bAnd .u8 ((pPoke ({ p with bus := b } : Pic) p_chosen p.scroll.V b).control) 4) != 0))) []] (J T0 (J (by decide : ((8 : Int) ≠ 0)) (J c1 (J c2 (J c3 (J c4 (J c5 (J c6 (J c7 (J (pPoke_ok ({ p with bus := b } : Pic) p_chosen p.scroll.V b) (J (sStep_ok ((pPoke ({ p with bus := b } : Pic) p_chosen p.scroll.V b).scroll) ((bAnd .u8 ((pPoke ({ p with bus := b } : Pic) p_chosen p.scroll.V b).control) 4) != 0)) trivial))))))))))) (by kernel_rfl)
              · rw [if_neg (nt c7)]
                exact fn_of_x hG hM Try.func21 (by kernel_rfl) (by kernel_rfl) 400 [.no, .no, .no, .no, .no, .no, .no, .no] (J T0 (J (by decide : ((8 : Int) ≠ 0)) (J c1 (J c2 (J c3 (J c4 (J c5 (J c6 (J c7 trivial))))))))) (by kernel_rfl)
theorem pPut_w (p : Pic) (p_chosen : List Sprite) (reg : Int) (b : Int) (w_p : Pic.ok p) (w_reg : rng 256 reg) (w_b : rng 256 b) : Pic.ok (pPut p p_chosen reg b) := by
  unfold pPut
  rcases bt ((Int.tmod reg 8) == 0) with c1 | c1
  · rw [if_pos c1]
    exact (⟨w_p.tiles, w_p.names, w_p.colours, w_p.men, w_p.man, (sControl_w p.scroll b w_p.scroll w_b), w_b, w_p.mask, w_p.flags, w_p.waits, w_b, w_p.screen⟩ : Pic.ok ({ p with scroll := (sControl p.scroll b), control := b, bus := b } : Pic))
  · rw [if_neg (nt c1)]
    rcases bt ((Int.tmod reg 8) == 1) with c2 | c2
    · rw [if_pos c2]
      exact (⟨w_p.tiles, w_p.names, w_p.colours, w_p.men, w_p.man, w_p.scroll, w_p.control, w_b, w_p.flags, w_p.waits, w_b, w_p.screen⟩ : Pic.ok ({ p with mask := b, bus := b } : Pic))
    · rw [if_neg (nt c2)]
      rcases bt ((Int.tmod reg 8) == 3) with c3 | c3
      · rw [if_pos c3]
        exact (⟨w_p.tiles, w_p.names, w_p.colours, w_p.men, w_b, w_p.scroll, w_p.control, w_p.mask, w_p.flags, w_p.waits, w_b, w_p.screen⟩ : Pic.ok ({ p with man := b, bus := b } : Pic))
      · rw [if_neg (nt c3)]
        rcases bt ((Int.tmod reg 8) == 4) with c4 | c4
        · rw [if_pos c4]
          exact (⟨w_p.tiles, w_p.names, w_p.colours, (rng_upd w_p.men (Int.toNat p.man) w_b), (rng_wrap_u8 (p.man + 1)), w_p.scroll, w_p.control, w_p.mask, w_p.flags, w_p.waits, w_b, w_p.screen⟩ : Pic.ok ({ p with men := (upd p.men (Int.toNat p.man) b), man := (u8.wrap (p.man + 1)), bus := b } : Pic))
        · rw [if_neg (nt c4)]
          rcases bt ((Int.tmod reg 8) == 5) with c5 | c5
          · rw [if_pos c5]
            exact (⟨w_p.tiles, w_p.names, w_p.colours, w_p.men, w_p.man, (sOffset_w p.scroll b w_p.scroll w_b), w_p.control, w_p.mask, w_p.flags, w_p.waits, w_b, w_p.screen⟩ : Pic.ok ({ p with scroll := (sOffset p.scroll b), bus := b } : Pic))
          · rw [if_neg (nt c5)]
            rcases bt ((Int.tmod reg 8) == 6) with c6 | c6
            · rw [if_pos c6]
              exact (⟨w_p.tiles, w_p.names, w_p.colours, w_p.men, w_p.man, (sAddress_w p.scroll b w_p.scroll w_b), w_p.control, w_p.mask, w_p.flags, w_p.waits, w_b, w_p.screen⟩ : Pic.ok ({ p with scroll := (sAddress p.scroll b), bus := b } : Pic))
            · rw [if_neg (nt c6)]
              rcases bt ((Int.tmod reg 8) == 7) with c7 | c7
              · rw [if_pos c7]
                exact (⟨(pPoke_w ({ p with bus := b } : Pic) p_chosen p.scroll.V b (⟨w_p.tiles, w_p.names, w_p.colours, w_p.men, w_p.man, w_p.scroll, w_p.control, w_p.mask, w_p.flags, w_p.waits, w_b, w_p.screen⟩ : Pic.ok ({ p with bus := b } : Pic)) w_p.scroll.V w_b).tiles, (pPoke_w ({ p with bus := b } : Pic) p_chosen p.scroll.V b (⟨w_p.tiles, w_p.names, w_p.colours, w_p.men, w_p.man, w_p.scroll, w_p.control, w_p.mask, w_p.flags, w_p.waits, w_b, w_p.screen⟩ : Pic.ok ({ p with bus := b } : Pic)) w_p.scroll.V w_b).names, (pPoke_w ({ p with bus := b } : Pic) p_chosen p.scroll.V b (⟨w_p.tiles, w_p.names, w_p.colours, w_p.men, w_p.man, w_p.scroll, w_p.control, w_p.mask, w_p.flags, w_p.waits, w_b, w_p.screen⟩ : Pic.ok ({ p with bus := b } : Pic)) w_p.scroll.V w_b).colours, (pPoke_w ({ p with bus := b } : Pic) p_chosen p.scroll.V b (⟨w_p.tiles, w_p.names, w_p.colours, w_p.men, w_p.man, w_p.scroll, w_p.control, w_p.mask, w_p.flags, w_p.waits, w_b, w_p.screen⟩ : Pic.ok ({ p with bus := b } : Pic)) w_p.scroll.V w_b).men, (pPoke_w ({ p with bus := b } : Pic) p_chosen p.scroll.V b (⟨w_p.tiles, w_p.names, w_p.colours, w_p.men, w_p.man, w_p.scroll, w_p.control, w_p.mask, w_p.flags, w_p.waits, w_b, w_p.screen⟩ : Pic.ok ({ p with bus := b } : Pic)) w_p.scroll.V w_b).man, (sStep_w ((pPoke ({ p with bus := b } : Pic) p_chosen p.scroll.V b).scroll) ((bAnd .u8 ((pPoke ({ p with bus := b } : Pic) p_chosen p.scroll.V b).control) 4) != 0) ((pPoke_w ({ p with bus := b } : Pic) p_chosen p.scroll.V b (⟨w_p.tiles, w_p.names, w_p.colours, w_p.men, w_p.man, w_p.scroll, w_p.control, w_p.mask, w_p.flags, w_p.waits, w_b, w_p.screen⟩ : Pic.ok ({ p with bus := b } : Pic)) w_p.scroll.V w_b).scroll)), (pPoke_w ({ p with bus := b } : Pic) p_chosen p.scroll.V b (⟨w_p.tiles, w_p.names, w_p.colours, w_p.men, w_p.man, w_p.scroll, w_p.control, w_p.mask, w_p.flags, w_p.waits, w_b, w_p.screen⟩ : Pic.ok ({ p with bus := b } : Pic)) w_p.scroll.V w_b).control, (pPoke_w ({ p with bus := b } : Pic) p_chosen p.scroll.V b (⟨w_p.tiles, w_p.names, w_p.colours, w_p.men, w_p.man, w_p.scroll, w_p.control, w_p.mask, w_p.flags, w_p.waits, w_b, w_p.screen⟩ : Pic.ok ({ p with bus := b } : Pic)) w_p.scroll.V w_b).mask, (pPoke_w ({ p with bus := b } : Pic) p_chosen p.scroll.V b (⟨w_p.tiles, w_p.names, w_p.colours, w_p.men, w_p.man, w_p.scroll, w_p.control, w_p.mask, w_p.flags, w_p.waits, w_b, w_p.screen⟩ : Pic.ok ({ p with bus := b } : Pic)) w_p.scroll.V w_b).flags, (pPoke_w ({ p with bus := b } : Pic) p_chosen p.scroll.V b (⟨w_p.tiles, w_p.names, w_p.colours, w_p.men, w_p.man, w_p.scroll, w_p.control, w_p.mask, w_p.flags, w_p.waits, w_b, w_p.screen⟩ : Pic.ok ({ p with bus := b } : Pic)) w_p.scroll.V w_b).waits, (pPoke_w ({ p with bus := b } : Pic) p_chosen p.scroll.V b (⟨w_p.tiles, w_p.names, w_p.colours, w_p.men, w_p.man, w_p.scroll, w_p.control, w_p.mask, w_p.flags, w_p.waits, w_b, w_p.screen⟩ : Pic.ok ({ p with bus := b } : Pic)) w_p.scroll.V w_b).bus, (pPoke_w ({ p with bus := b } : Pic) p_chosen p.scroll.V b (⟨w_p.tiles, w_p.names, w_p.colours, w_p.men, w_p.man, w_p.scroll, w_p.control, w_p.mask, w_p.flags, w_p.waits, w_b, w_p.screen⟩ : Pic.ok ({ p with bus := b } : Pic)) w_p.scroll.V w_b).screen⟩ : Pic.ok ({ (pPoke ({ p with bus := b } : Pic) p_chosen p.scroll.V b) with scroll := (sStep ((pPoke ({ p with bus := b } : Pic) p_chosen p.scroll.V b).scroll) ((bAnd .u8 ((pPoke ({ p with bus := b } : Pic) p_chosen p.scroll.V b).control) 4) != 0)) } : Pic))
              · rw [if_neg (nt c7)]
                exact (⟨w_p.tiles, w_p.names, w_p.colours, w_p.men, w_p.man, w_p.scroll, w_p.control, w_p.mask, w_p.flags, w_p.waits, w_b, w_p.screen⟩ : Pic.ok ({ p with bus := b } : Pic))
end Go.Proofs.Ytgnhhnmpeklciaa
namespace Go.Proofs.Ytgnhhnmpeklciaa
open Go VX
set_option linter.unusedVariables false
set_option linter.unusedSimpArgs false
set_option maxRecDepth 1000000
def picZero : Pic := { tiles := fun _ => 0, names := fun _ => 0, colours := fun _ => 0, men := fun _ => 0, man := 0, scroll := { V := 0, T := 0, X := 0, W := false }, control := 0, mask := 0, flags := 0, waits := 0, bus := 0, upright := false, line := 0, dot := 0, odd := false, frames := 0, screen := fun _ => 0 }
theorem new_ok : FnSpec Try.prog 14 1000 [] [] (.pointer (some ⟨1000, 0, none⟩)) [(1000, Pic.bl picZero (.slice none 0 0) false)] := by
  exact fn_of_x hG hM Try.func14 (by kernel_rfl) (by kernel_rfl) 400 [.segs (Pic.bl picZero (.slice none 0 0) false).segs] trivial (by kernel_rfl)
theorem rng0 : rng 256 (0 : Int) := by decide
theorem zero_ok : Pic.ok picZero := ⟨fun _ => rng0, fun _ => rng0, fun _ => rng0, fun _ => rng0, rng0, ⟨(by decide : rng 65536 (0 : Int)), (by decide : rng 65536 (0 : Int)), rng0⟩, rng0, rng0, rng0, rng0, rng0, fun _ => rng0⟩
end Go.Proofs.Ytgnhhnmpeklciaa
namespace Go.Proofs.Ytgnhhnmpeklciaa
open Go VX
open Go.IntKind (i64 u8 u16)
set_option linter.unusedVariables false
set_option linter.unusedSimpArgs false
set_option maxRecDepth 100000
set_option maxHeartbeats 4000000
inductive wAwake_L1 (xd : (List Sprite) × Int × Pic) : ((List Sprite) × Int × Pic) ⊕ ((List Sprite) × Int × Pic) → Prop
  | p1 (d1 : (decide (xd.2.1 < 82183)) = true) (w1d : Pic.ok xd.2.2) (w2d : 0 ≤ xd.2.2.line) (w3d : (List.length xd.1) ≤ 8) : wAwake_L1 xd (.inl ((pClock xd.2.2 xd.1).2, (i64.wrap (xd.2.1 + 1)), (pClock xd.2.2 xd.1).1))
  | p2 (d1 : (decide (xd.2.1 < 82183)) = false) : wAwake_L1 xd (.inr (xd.1, xd.2.1, xd.2.2))
def wAwake_L1_T (xd : (List Sprite) × Int × Pic) : Tm := [(0, .bool false), (1, .pointer (some ⟨1000, 0, none⟩)), (3, .int .i64 xd.2.1)]
def wAwake_L1_H (xd : (List Sprite) × Int × Pic) : Heap := [(1000, (Pic.bl xd.2.2 (.slice (some ⟨1001, 0, (some 0)⟩) (List.length xd.1) 5) false)), (1001, ⟨[rowsL Sprite.cells Sprite.nil 5 xd.1], 92, false⟩)]
def wAwake_L1_T1 (y_ : (List Sprite) × Int × Pic) : Tm := wAwake_L1_T y_
def wAwake_L1_H1 (y_ : (List Sprite) × Int × Pic) : Heap := wAwake_L1_H y_
def wAwake_L1_ex (_ : (List Sprite) × Int × Pic) : Ex := .exit 0
theorem wAwake_L1_p1 (xd : (List Sprite) × Int × Pic) (d1 : (decide (xd.2.1 < 82183)) = true) (w1d : Pic.ok xd.2.2) (w2d : 0 ≤ xd.2.2.line) (w3d : (List.length xd.1) ≤ 8) : RunsM Try.prog 16 (bodyOf Try.f12 [1, 1, 0, 1, 0, 0]) 1001 (wAwake_L1_T xd) (wAwake_L1_H xd) 1002 .normal (wAwake_L1_T ((pClock xd.2.2 xd.1).2, (i64.wrap (xd.2.1 + 1)), (pClock xd.2.2 xd.1).1)) (wAwake_L1_H ((pClock xd.2.2 xd.1).2, (i64.wrap (xd.2.1 + 1)), (pClock xd.2.2 xd.1).1)) 1002 := by
  exact runsM_of_x hG hM 400 1001 [.yes, .call [(1000, 1000), (1001, 1001)] [(1002, 1002)] 1002 (.tuple ⟨[]⟩) [(1000, (Pic.bl ((pClock xd.2.2 xd.1).1) (.slice (some ⟨1002, 0, (some 0)⟩) (List.length ((pClock xd.2.2 xd.1).2)) 5) false)), (1002, ⟨[rowsL Sprite.cells Sprite.nil 5 ((pClock xd.2.2 xd.1).2)], 92, false⟩)]] [(1000, 1000), (1002, 1001)] (J d1 (J (pClock_ok xd.2.2 xd.1 w1d w2d w3d) trivial)) (by kernel_rfl)
theorem wAwake_L1_p2 (xd : (List Sprite) × Int × Pic) (d1 : (decide (xd.2.1 < 82183)) = false) : RunsM Try.prog 16 (bodyOf Try.f12 [1, 1, 0, 1, 0, 0]) 1001 (wAwake_L1_T xd) (wAwake_L1_H xd) 1002 (.exit 0) (wAwake_L1_T1 (xd.1, xd.2.1, xd.2.2)) (wAwake_L1_H1 (xd.1, xd.2.1, xd.2.2)) 1002 := by
  exact runsM_of_x hG hM 400 1001 [.no] [(1000, 1000), (1001, 1001)] (J d1 trivial) (by kernel_rfl)
theorem wAwake_L1_runs (x_ : (List Sprite) × Int × Pic) (y_ : (List Sprite) × Int × Pic) (h_ : LoopR (wAwake_L1) x_ y_) : RunsM Try.prog 16 (.block 0 (.loop (bodyOf Try.f12 [1, 1, 0, 1, 0, 0]))) 1001 (wAwake_L1_T x_) (wAwake_L1_H x_) 1002 (outOf 0 (wAwake_L1_ex y_)) (wAwake_L1_T1 y_) (wAwake_L1_H1 y_) 1002 := by
  refine block_loopM hG (wAwake_L1) (wAwake_L1_T) (wAwake_L1_H) wAwake_L1_ex (wAwake_L1_T1) (wAwake_L1_H1) ?_ ?_ ?_ x_ y_ h_
  · intro s r _ hr; cases hr
  · intro xd y_ hx
    cases hx with
    | p1 d1 w1d w2d w3d => exact wAwake_L1_p1 xd d1 w1d w2d w3d
  · intro xd y_ hx
    cases hx with
    | p2 d1 => exact wAwake_L1_p2 xd d1
theorem wAwake_p1  (r1 : (List Sprite) × Int × Pic) (l1 : LoopR (wAwake_L1) ([], 0, picZero) r1) (w1c : Pic.ok r1.2.2) (c1 : (((pGet r1.2.2 r1.1 2).2 : Int) == 128) = true) : FnSpec Try.prog 12 1000 [] [] (.bool (((pGet ((pGet r1.2.2 r1.1 2).1) r1.1 2).2 : Int) == 0)) [] := by
  exact fn_of_x hG hM Try.func12 (by kernel_rfl) (by kernel_rfl) 400 [.call [] [(1000, 1000)] 1000 (.pointer (some ⟨1000, 0, none⟩)) [(1000, (Pic.bl picZero (.slice none 0 0) false))], .segk 1 0 [0, 1, 3] [1000] .normal (wAwake_L1_T1 r1) (wAwake_L1_H1 r1) 1002, .call [(1000, 1000), (1001, 1001)] [] 1002 (.int .u8 ((pGet r1.2.2 r1.1 2).2)) [(1000, (Pic.bl ((pGet r1.2.2 r1.1 2).1) (.slice (some ⟨1001, 0, (some 0)⟩) (List.length r1.1) 5) false)), (1001, ⟨[rowsL Sprite.cells Sprite.nil 5 r1.1], 92, false⟩)], .yes, .yes, .call [(1000, 1000), (1001, 1001)] [] 1002 (.int .u8 ((pGet ((pGet r1.2.2 r1.1 2).1) r1.1 2).2)) [(1000, (Pic.bl ((pGet ((pGet r1.2.2 r1.1 2).1) r1.1 2).1) (.slice (some ⟨1001, 0, (some 0)⟩) (List.length r1.1) 5) false)), (1001, ⟨[rowsL Sprite.cells Sprite.nil 5 r1.1], 92, false⟩)], .yes, .yes] (J new_ok (J (runs_of_pre hG (wAwake_L1_runs ([], 0, picZero) r1 l1) [(1000, 1000)] (T := [(0, .bool false), (1, .pointer (some ⟨1000, 0, none⟩)), (3, .int .i64 0)]) (H := [(1000, (Pic.bl picZero (.slice none 0 0) false))]) (by kernel_rfl)) (J (pGet_ok r1.2.2 r1.1 2 w1c) (J c1 (J c1 (J (pGet_ok ((pGet r1.2.2 r1.1 2).1) r1.1 2 (pGet_w1 r1.2.2 r1.1 2 w1c (by decide : rng 256 2))) (J c1 (J c1 trivial)))))))) (by kernel_rfl)
theorem wAwake_p2  (r1 : (List Sprite) × Int × Pic) (l1 : LoopR (wAwake_L1) ([], 0, picZero) r1) (w1c : Pic.ok r1.2.2) (c1 : (((pGet r1.2.2 r1.1 2).2 : Int) == 128) = false) : FnSpec Try.prog 12 1000 [] [] (.bool false) [] := by
  exact fn_of_x hG hM Try.func12 (by kernel_rfl) (by kernel_rfl) 400 [.call [] [(1000, 1000)] 1000 (.pointer (some ⟨1000, 0, none⟩)) [(1000, (Pic.bl picZero (.slice none 0 0) false))], .segk 1 0 [0, 1, 3] [1000] .normal (wAwake_L1_T1 r1) (wAwake_L1_H1 r1) 1002, .call [(1000, 1000), (1001, 1001)] [] 1002 (.int .u8 ((pGet r1.2.2 r1.1 2).2)) [(1000, (Pic.bl ((pGet r1.2.2 r1.1 2).1) (.slice (some ⟨1001, 0, (some 0)⟩) (List.length r1.1) 5) false)), (1001, ⟨[rowsL Sprite.cells Sprite.nil 5 r1.1], 92, false⟩)], .no, .no, .no, .no] (J new_ok (J (runs_of_pre hG (wAwake_L1_runs ([], 0, picZero) r1 l1) [(1000, 1000)] (T := [(0, .bool false), (1, .pointer (some ⟨1000, 0, none⟩)), (3, .int .i64 0)]) (H := [(1000, (Pic.bl picZero (.slice none 0 0) false))]) (by kernel_rfl)) (J (pGet_ok r1.2.2 r1.1 2 w1c) (J c1 (J c1 (J c1 (J c1 trivial))))))) (by kernel_rfl)
end Go.Proofs.Ytgnhhnmpeklciaa
namespace Go.Proofs.Ytgnhhnmpeklciaa
open Go VX
open Go.IntKind (i64 u8 u16)
set_option linter.unusedVariables false
set_option linter.unusedSimpArgs false
set_option maxRecDepth 100000
def picS (l d : Int) (fr fl : Int) : Pic := { picZero with line := l, dot := d, frames := fr, flags := fl }
theorem m8 : ((bAnd .u8 0 8 : Int) == 0) = true := by kernel_rfl
theorem m16 : ((bAnd .u8 0 16 : Int) == 0) = true := by kernel_rfl
theorem shows_S (l d fr fl : Int) (L : List Sprite) : pShows (picS l d fr fl) L = false := by
  show (bAnd .u8 0 24 != 0) = false
  kernel_rfl
theorem upd_zero (k : Nat) : upd (fun _ => (0 : Int)) k 0 = fun _ => 0 := by
  funext j; unfold upd; cases Nat.beq j k <;> rfl
theorem tile_S (l d fr fl : Int) (L : List Sprite) (x : Int) : pTile (picS l d fr fl) L x = (0, 0) := by
  unfold pTile; rw [if_pos (show ((bAnd .u8 (picS l d fr fl).mask 8 : Int) == 0) = true from m8)]
theorem sprite_S (l d fr fl : Int) (L : List Sprite) (x : Int) : pSpriteF (picS l d fr fl) L x = (0, noMan) := by
  unfold pSpriteF; rw [if_pos (show ((bAnd .u8 (picS l d fr fl).mask 16 : Int) == 0) = true from m16)]
theorem peek_S (l d fr fl : Int) (L : List Sprite) (a : Int) : pPeek (picS l d fr fl) L a = 0 := by
  unfold pPeek; repeat' split
  all_goals rfl
theorem draw_S (l d fr fl : Int) (L : List Sprite) (x : Int) : pDraw (picS l d fr fl) L x = picS l d fr fl := by
  have j1 : pDraw_J1 (picS l d fr fl) L x = false := by unfold pDraw_J1; rw [tile_S]; rfl
  have j2 : pDraw_J2 (picS l d fr fl) L x (picS l d fr fl).flags = fl := by unfold pDraw_J2; rw [j1]; rfl
  have e : ({ (picS l d fr fl) with flags := pDraw_J2 (picS l d fr fl) L x (picS l d fr fl).flags } : Pic) = picS l d fr fl := by rw [j2]; rfl
  have j6 : ∀ b : Bool, pDraw_J6 x (0, b) = 0 := by intro b; unfold pDraw_J6; cases b <;> rfl
  unfold pDraw
  simp only [e, peek_S, j6]
  rw [j2, show (picS l d fr fl).screen = fun _ => 0 from rfl, upd_zero]; rfl
theorem choose_S (l d fr fl : Int) (seen : Bool) : pChooseF (picS l d fr fl) [] seen = (picS l d fr fl, []) := by
  unfold pChooseF; rw [shows_S]; cases seen <;> rfl
theorem i64_in2 {x : Int} (h0 : 0 ≤ x) (h : x < 1000000) : i64.wrap x = x := by rw [IntKind.wrap_i64]; omega
theorem next_S (l d fr fl : Int) (hl : 0 ≤ l) (hl2 : l < 261) (hd : 0 ≤ d) (hd2 : d < 341) : pNext (picS l d fr fl) [] = if d + 1 < 341 then picS l (d + 1) fr fl else picS (l + 1) 0 fr fl := by
  have e1 : i64.wrap ((picS l d fr fl).dot + 1) = d + 1 := i64_in2 (by show 0 ≤ d + 1; omega) (by show d + 1 < _; omega)
  have e2 : i64.wrap ((picS l d fr fl).line + 1) = l + 1 := i64_in2 (by show 0 ≤ l + 1; omega) (by show l + 1 < _; omega)
  unfold pNext
  rw [if_neg (show ¬ (((picS l d fr fl).line : Int) == 261) = true by show ¬ ((l : Int) == 261) = true; simp; omega)]
  simp only [e1, e2]
  by_cases h : d + 1 < 341
  · rw [if_pos (decide_eq_true h), if_pos h]; rfl
  · rw [if_neg (by simpa using h), if_neg h, if_neg (show ¬ ((l + 1 : Int) == 262) = true by simp; omega)]; rfl
theorem clock_S (l d fr fl : Int) (hl : 0 ≤ l) (hl2 : l < 261) (hd : 0 ≤ d) (hd2 : d < 341) (h : ¬ (l = 241 ∧ d = 1)) : pClock (picS l d fr fl) [] = (if d + 1 < 341 then picS l (d + 1) fr fl else picS (l + 1) 0 fr fl, []) := by
  have hs := shows_S l d fr fl []
  have hn := next_S l d fr fl hl hl2 hd hd2
  have hline : (picS l d fr fl).line = l := rfl
  have hdot : (picS l d fr fl).dot = d := rfl
  have h261 : ¬ ((l : Int) == 261) = true := by simp; omega
  unfold pClock
  simp only [draw_S, hs, choose_S, hline, hdot, hn, h261, if_false, Bool.false_eq_true]
  by_cases h241 : l = 241
  · have h1 : ¬ ((d : Int) == 1) = true := by simp; omega
    simp [h241, h1]
  · simp [h241]
end Go.Proofs.Ytgnhhnmpeklciaa
namespace Go.Proofs.Ytgnhhnmpeklciaa
open Go VX
open Go.IntKind (i64 u8 u16)
set_option linter.unusedVariables false
set_option linter.unusedSimpArgs false
set_option maxRecDepth 100000
theorem clock_B (fr fl : Int) (h0 : 0 ≤ fr) (h1 : fr < 900000) : pClock (picS 241 1 fr fl) [] = (picS 241 2 (fr + 1) (bOr .u8 fl 128), []) := by
  have e : i64.wrap (fr + 1) = fr + 1 := i64_in2 (by omega) (by omega)
  have eq : ({ (picS 241 1 fr fl) with flags := (bOr .u8 (picS 241 1 fr fl).flags 128), frames := (i64.wrap ((picS 241 1 fr fl).frames + 1)) } : Pic) = picS 241 1 (fr + 1) (bOr .u8 fl 128) := by
    show (⟨_, _, _, _, _, _, _, _, _, _, _, _, _, _, _, i64.wrap (fr + 1), _⟩ : Pic) = _
    rw [e]; rfl
  have hline : (picS 241 1 fr fl).line = 241 := rfl
  have hdot : (picS 241 1 fr fl).dot = 1 := rfl
  have hn := next_S 241 1 (fr + 1) (bOr .u8 fl 128) (by decide) (by decide) (by decide) (by decide)
  unfold pClock
  rw [if_pos (show (((picS 241 1 fr fl).line : Int) == 241) = true from rfl), if_pos (show (((picS 241 1 fr fl).dot : Int) == 1) = true from rfl)]
  simp only [eq, hn]
  split <;> rfl
theorem step_S (k : Nat) (hk : k < 82182) : pClock (picS ((k / 341 : Nat) : Int) ((k % 341 : Nat) : Int) 0 0) [] = (picS (((k + 1) / 341 : Nat) : Int) (((k + 1) % 341 : Nat) : Int) 0 0, []) := by
  have h := clock_S ((k / 341 : Nat) : Int) ((k % 341 : Nat) : Int) 0 0 (by omega) (by omega) (by omega) (by omega) (by omega)
  rw [h]
  by_cases hd : ((k % 341 : Nat) : Int) + 1 < 341
  · rw [if_pos hd, show (((k + 1) / 341 : Nat) : Int) = ((k / 341 : Nat) : Int) by omega, show (((k + 1) % 341 : Nat) : Int) = ((k % 341 : Nat) : Int) + 1 by omega]
  · rw [if_neg hd, show (((k + 1) / 341 : Nat) : Int) = ((k / 341 : Nat) : Int) + 1 by omega, show (((k + 1) % 341 : Nat) : Int) = 0 by omega]
theorem picS_ok (l d fr : Int) {fl : Int} (h : rng 256 fl) : Pic.ok (picS l d fr fl) :=
  ⟨zero_ok.tiles, zero_ok.names, zero_ok.colours, zero_ok.men, zero_ok.man, zero_ok.scroll, zero_ok.control, zero_ok.mask, h, zero_ok.waits, zero_ok.bus, zero_ok.screen⟩
theorem awake_loop : ∀ (n k : Nat), k + n = 82182 → LoopR wAwake_L1 ([], (k : Int), picS ((k / 341 : Nat) : Int) ((k % 341 : Nat) : Int) 0 0) ([], 82183, picS 241 2 1 (bOr .u8 0 128))
  | 0, k, h => by
    have : k = 82182 := by omega
    subst this
    have st := wAwake_L1.p1 (xd := ([], ((82182 : Nat) : Int), picS 241 1 0 0)) (decide_eq_true (by show ((82182 : Nat) : Int) < 82183; omega)) (picS_ok _ _ _ rng0) (by show (0 : Int) ≤ 241; decide) (Nat.zero_le _)
    simp only [clock_B 0 0 (by decide) (by decide)] at st
    rw [show i64.wrap (((82182 : Nat) : Int) + 1) = 82183 from i64_in2 (by omega) (by omega)] at st
    exact .more st (.last (.p2 (decide_eq_false (by show ¬ ((82183 : Int) < 82183); omega))))
  | n + 1, k, h => by
    have st := wAwake_L1.p1 (xd := ([], (k : Int), picS ((k / 341 : Nat) : Int) ((k % 341 : Nat) : Int) 0 0)) (decide_eq_true (by show (k : Int) < 82183; omega)) (picS_ok _ _ _ rng0) (by show 0 ≤ ((k / 341 : Nat) : Int); omega) (Nat.zero_le _)
    simp only [step_S k (by omega)] at st
    rw [show i64.wrap ((k : Int) + 1) = ((k + 1 : Nat) : Int) from by rw [i64_in2 (by omega) (by omega)]; omega] at st
    exact .more st (awake_loop n (k + 1) (by omega))
theorem awake_ok : FnSpec Try.prog 12 1000 [] [] (.bool true) [] := by
  have h := wAwake_p1 _ (awake_loop 82182 0 rfl) (picS_ok _ _ _ (rng_bOr_u8 _ _)) (by kernel_rfl)
  have e : (((pGet ((pGet (picS 241 2 1 (bOr .u8 0 128)) [] 2).1) [] 2).2 : Int) == 0) = true := by kernel_rfl
  simp only [e] at h
  exact h
end Go.Proofs.Ytgnhhnmpeklciaa
namespace Go.Proofs.Ytgnhhnmpeklciaa
open Go VX
open Go.IntKind (i64 u8 u16)
set_option linter.unusedVariables false
set_option linter.unusedSimpArgs false
set_option maxRecDepth 100000
structure Place where
  Column : Int
  Line : Int
  Across : Int
  Down : Int
  Row : Int
def Place.enc (s : Place) : Value := .agg ⟨[.int .i64 s.Column, .int .i64 s.Line, .int .i64 s.Across, .int .i64 s.Down, .int .i64 s.Row]⟩
def Place.blk (s : Place) : Blk := ⟨[.one (.int .i64 s.Column), .one (.int .i64 s.Line), .one (.int .i64 s.Across), .one (.int .i64 s.Down), .one (.int .i64 s.Row)], 54, false⟩
def Place.cells (s : Place) : List Value := [.int .i64 s.Column, .int .i64 s.Line, .int .i64 s.Across, .int .i64 s.Down, .int .i64 s.Row]
structure RScroll where
  V : Place
  T : Place
  X : Int
  W : Bool
def RScroll.enc (s : RScroll) : Value := .agg ⟨[.int .i64 s.V.Column, .int .i64 s.V.Line, .int .i64 s.V.Across, .int .i64 s.V.Down, .int .i64 s.V.Row, .int .i64 s.T.Column, .int .i64 s.T.Line, .int .i64 s.T.Across, .int .i64 s.T.Down, .int .i64 s.T.Row, .int .i64 s.X, .bool s.W]⟩
def RScroll.blk (s : RScroll) : Blk := ⟨[.one (.int .i64 s.V.Column), .one (.int .i64 s.V.Line), .one (.int .i64 s.V.Across), .one (.int .i64 s.V.Down), .one (.int .i64 s.V.Row), .one (.int .i64 s.T.Column), .one (.int .i64 s.T.Line), .one (.int .i64 s.T.Across), .one (.int .i64 s.T.Down), .one (.int .i64 s.T.Row), .one (.int .i64 s.X), .one (.bool s.W)], 56, false⟩
def RScroll.cells (s : RScroll) : List Value := [.int .i64 s.V.Column, .int .i64 s.V.Line, .int .i64 s.V.Across, .int .i64 s.V.Down, .int .i64 s.V.Row, .int .i64 s.T.Column, .int .i64 s.T.Line, .int .i64 s.T.Across, .int .i64 s.T.Down, .int .i64 s.T.Row, .int .i64 s.X, .bool s.W]
def rOf (n : Int) : Place :=
  ({ Column := (Int.tmod n 32), Line := (Int.tmod (i64.wrap (Int.tdiv n 32)) 32), Across := (Int.tmod (i64.wrap (Int.tdiv n 1024)) 2), Down := (Int.tmod (i64.wrap (Int.tdiv n 2048)) 2), Row := (Int.tmod (i64.wrap (Int.tdiv n 4096)) 8) } : Place)
theorem rOf_ok (n : Int) : FnSpec Try.prog 65 1000 [.int .i64 n] [] (Place.enc (rOf n)) [] := by
  unfold rOf
  exact fn_of_x hG hM Try.func65 (by kernel_rfl) (by kernel_rfl) 400 [] (J (by decide : ((32 : Int) ≠ 0)) (J (by decide : ((32 : Int) ≠ 0)) (J (by decide : ((32 : Int) ≠ 0)) (J (by decide : ((1024 : Int) ≠ 0)) (J (by decide : ((2 : Int) ≠ 0)) (J (by decide : ((2048 : Int) ≠ 0)) (J (by decide : ((2 : Int) ≠ 0)) (J (by decide : ((4096 : Int) ≠ 0)) (J (by decide : ((8 : Int) ≠ 0)) trivial))))))))) (by kernel_rfl)
def rBits (v : Place) : Int :=
  (i64.wrap ((i64.wrap ((i64.wrap ((i64.wrap (v.Column + (i64.wrap (32 * v.Line)))) + (i64.wrap (1024 * v.Across)))) + (i64.wrap (2048 * v.Down)))) + (i64.wrap (4096 * v.Row))))
theorem rBits_ok (v : Place) : FnSpec Try.prog 41 1000 [Place.enc v] [] (.int .i64 (rBits v)) [] := by
  unfold rBits
  exact fn_of_x hG hM Try.func41 (by kernel_rfl) (by kernel_rfl) 400 [] trivial (by kernel_rfl)
def rStep (s : RScroll) (far : Bool) : RScroll :=
  if far = true then
    ({ s with V := (rOf (Int.tmod (i64.wrap ((rBits s.V) + 32)) 32768)) } : RScroll)
  else
    ({ s with V := (rOf (Int.tmod (i64.wrap ((rBits s.V) + 1)) 32768)) } : RScroll)
theorem rStep_ok (s : RScroll) (far : Bool) : FnSpec Try.prog 42 1000 [RScroll.enc s, .bool far] [] (RScroll.enc (rStep s far)) [] := by
  unfold rStep
  rcases bt far with c1 | c1
  · rw [if_pos c1]
    exact fn_of_x hG hM Try.func42 (by kernel_rfl) (by kernel_rfl) 400 [.yes, .call [] [] 1000 (.int .i64 (rBits s.V)) [], .call [] [] 1000 (Place.enc (rOf (Int.tmod (i64.wrap ((rBits s.V) + 32)) 32768))) []] (J c1 (J (rBits_ok s.V) (J (by decide : ((32768 : Int) ≠ 0)) (J (rOf_ok (Int.tmod (i64.wrap ((rBits s.V) + 32)) 32768)) trivial)))) (by kernel_rfl)
  · rw [if_neg (nt c1)]
    exact fn_of_x hG hM Try.func42 (by kernel_rfl) (by kernel_rfl) 400 [.no, .call [] [] 1000 (.int .i64 (rBits s.V)) [], .call [] [] 1000 (Place.enc (rOf (Int.tmod (i64.wrap ((rBits s.V) + 1)) 32768))) []] (J c1 (J (rBits_ok s.V) (J (by decide : ((32768 : Int) ≠ 0)) (J (rOf_ok (Int.tmod (i64.wrap ((rBits s.V) + 1)) 32768)) trivial)))) (by kernel_rfl)
def rControl (s : RScroll) (b : Int) : RScroll :=
  ({ s with T := ({ s.T with Across := (Int.tmod b 2), Down := (Int.tmod (i64.wrap (Int.tdiv b 2)) 2) } : Place) } : RScroll)
theorem rControl_ok (s : RScroll) (b : Int) : FnSpec Try.prog 60 1000 [RScroll.enc s, .int .i64 b] [] (RScroll.enc (rControl s b)) [] := by
  unfold rControl
  exact fn_of_x hG hM Try.func60 (by kernel_rfl) (by kernel_rfl) 400 [] (J (by decide : ((2 : Int) ≠ 0)) (J (by decide : ((2 : Int) ≠ 0)) (J (by decide : ((2 : Int) ≠ 0)) trivial))) (by kernel_rfl)
def rOffset (s : RScroll) (b : Int) : RScroll :=
  if s.W = true then
    ({ s with T := ({ s.T with Line := (i64.wrap (Int.tdiv b 8)), Row := (Int.tmod b 8) } : Place), W := (!s.W) } : RScroll)
  else
    ({ V := s.V, T := ({ s.T with Column := (i64.wrap (Int.tdiv b 8)) } : Place), X := (Int.tmod b 8), W := (!s.W) } : RScroll)
theorem rOffset_ok (s : RScroll) (b : Int) : FnSpec Try.prog 61 1000 [RScroll.enc s, .int .i64 b] [] (RScroll.enc (rOffset s b)) [] := by
  unfold rOffset
  rcases bt s.W with c1 | c1
  · rw [if_pos c1]
    exact fn_of_x hG hM Try.func61 (by kernel_rfl) (by kernel_rfl) 400 [.yes] (J c1 (J (by decide : ((8 : Int) ≠ 0)) (J (by decide : ((8 : Int) ≠ 0)) trivial))) (by kernel_rfl)
  · rw [if_neg (nt c1)]
    exact fn_of_x hG hM Try.func61 (by kernel_rfl) (by kernel_rfl) 400 [.no] (J c1 (J (by decide : ((8 : Int) ≠ 0)) (J (by decide : ((8 : Int) ≠ 0)) trivial))) (by kernel_rfl)
def rAddress (s : RScroll) (b : Int) : RScroll :=
  if s.W = true then
    ({ V := (rOf (i64.wrap ((i64.wrap ((i64.wrap (Int.tdiv (rBits s.T) 256)) * 256)) + b))), T := (rOf (i64.wrap ((i64.wrap ((i64.wrap (Int.tdiv (rBits s.T) 256)) * 256)) + b))), X := s.X, W := (!s.W) } : RScroll)
  else
    ({ s with T := (rOf (i64.wrap ((Int.tmod (rBits s.T) 256) + (i64.wrap ((Int.tmod b 64) * 256))))), W := (!s.W) } : RScroll)
theorem rAddress_ok (s : RScroll) (b : Int) : FnSpec Try.prog 62 1000 [RScroll.enc s, .int .i64 b] [] (RScroll.enc (rAddress s b)) [] := by
  unfold rAddress
  rcases bt s.W with c1 | c1
  · rw [if_pos c1]
    exact fn_of_x hG hM Try.func62 (by kernel_rfl) (by kernel_rfl) 400 [.call [] [] 1000 (.int .i64 (rBits s.T)) [], .yes, .call [] [] 1000 (Place.enc (rOf (i64.wrap ((i64.wrap ((i64.wrap (Int.tdiv (rBits s.T) 256)) * 256)) + b)))) []] (J (rBits_ok s.T) (J c1 (J (by decide : ((256 : Int) ≠ 0)) (J (rOf_ok (i64.wrap ((i64.wrap ((i64.wrap (Int.tdiv (rBits s.T) 256)) * 256)) + b))) trivial)))) (by kernel_rfl)
  · rw [if_neg (nt c1)]
    exact fn_of_x hG hM Try.func62 (by kernel_rfl) (by kernel_rfl) 400 [.call [] [] 1000 (.int .i64 (rBits s.T)) [], .no, .call [] [] 1000 (Place.enc (rOf (i64.wrap ((Int.tmod (rBits s.T) 256) + (i64.wrap ((Int.tmod b 64) * 256)))))) []] (J (rBits_ok s.T) (J c1 (J (by decide : ((256 : Int) ≠ 0)) (J (by decide : ((64 : Int) ≠ 0)) (J (rOf_ok (i64.wrap ((Int.tmod (rBits s.T) 256) + (i64.wrap ((Int.tmod b 64) * 256))))) trivial))))) (by kernel_rfl)
def rRight (s : RScroll) : RScroll :=
  if ((i64.wrap (s.V.Column + 1)) == 32) = true then
    ({ s with V := ({ s.V with Column := 0, Across := (i64.wrap (1 - s.V.Across)) } : Place) } : RScroll)
  else
    ({ s with V := ({ s.V with Column := (i64.wrap (s.V.Column + 1)) } : Place) } : RScroll)
theorem rRight_ok (s : RScroll) : FnSpec Try.prog 79 1000 [RScroll.enc s] [] (RScroll.enc (rRight s)) [] := by
  unfold rRight
  rcases bt ((i64.wrap (s.V.Column + 1)) == 32) with c1 | c1
  · rw [if_pos c1]
    exact fn_of_x hG hM Try.func79 (by kernel_rfl) (by kernel_rfl) 400 [.yes] (J c1 trivial) (by kernel_rfl)
  · rw [if_neg (nt c1)]
    exact fn_of_x hG hM Try.func79 (by kernel_rfl) (by kernel_rfl) 400 [.no] (J c1 trivial) (by kernel_rfl)
def rDown (s : RScroll) : RScroll :=
  if (decide ((i64.wrap (s.V.Row + 1)) < 8)) = true then
    ({ s with V := ({ s.V with Row := (i64.wrap (s.V.Row + 1)) } : Place) } : RScroll)
  else
    if ((i64.wrap (s.V.Line + 1)) == 30) = true then
      ({ s with V := ({ Column := s.V.Column, Line := 0, Across := s.V.Across, Down := (i64.wrap (1 - s.V.Down)), Row := 0 } : Place) } : RScroll)
    else
      if ((i64.wrap (s.V.Line + 1)) == 32) = true then
        ({ s with V := ({ s.V with Line := 0, Row := 0 } : Place) } : RScroll)
      else
        ({ s with V := ({ s.V with Line := (i64.wrap (s.V.Line + 1)), Row := 0 } : Place) } : RScroll)
theorem rDown_ok (s : RScroll) : FnSpec Try.prog 80 1000 [RScroll.enc s] [] (RScroll.enc (rDown s)) [] := by
  unfold rDown
  rcases bt (decide ((i64.wrap (s.V.Row + 1)) < 8)) with c1 | c1
  · rw [if_pos c1]
    exact fn_of_x hG hM Try.func80 (by kernel_rfl) (by kernel_rfl) 400 [.yes] (J c1 trivial) (by kernel_rfl)
  · rw [if_neg (nt c1)]
    rcases bt ((i64.wrap (s.V.Line + 1)) == 30) with c2 | c2
    · rw [if_pos c2]
      exact fn_of_x hG hM Try.func80 (by kernel_rfl) (by kernel_rfl) 400 [.no, .yes, .no] (J c1 (J c2 (J T0 trivial))) (by kernel_rfl)
    · rw [if_neg (nt c2)]
      rcases bt ((i64.wrap (s.V.Line + 1)) == 32) with c3 | c3
      · rw [if_pos c3]
        exact fn_of_x hG hM Try.func80 (by kernel_rfl) (by kernel_rfl) 400 [.no, .no, .yes] (J c1 (J c2 (J c3 trivial))) (by kernel_rfl)
      · rw [if_neg (nt c3)]
        exact fn_of_x hG hM Try.func80 (by kernel_rfl) (by kernel_rfl) 400 [.no, .no, .no] (J c1 (J c2 (J c3 trivial))) (by kernel_rfl)
def rLine (s : RScroll) : RScroll :=
  ({ s with V := ({ s.V with Column := s.T.Column, Across := s.T.Across } : Place) } : RScroll)
theorem rLine_ok (s : RScroll) : FnSpec Try.prog 81 1000 [RScroll.enc s] [] (RScroll.enc (rLine s)) [] := by
  unfold rLine
  exact fn_of_x hG hM Try.func81 (by kernel_rfl) (by kernel_rfl) 400 [] trivial (by kernel_rfl)
def rTop (s : RScroll) : RScroll :=
  ({ s with V := ({ s.T with Column := s.V.Column, Across := s.V.Across } : Place) } : RScroll)
theorem rTop_ok (s : RScroll) : FnSpec Try.prog 82 1000 [RScroll.enc s] [] (RScroll.enc (rTop s)) [] := by
  unfold rTop
  exact fn_of_x hG hM Try.func82 (by kernel_rfl) (by kernel_rfl) 400 [] trivial (by kernel_rfl)
def rName (v : Place) : Int :=
  (i64.wrap ((i64.wrap ((i64.wrap ((i64.wrap (8192 + v.Column)) + (i64.wrap (32 * v.Line)))) + (i64.wrap (1024 * v.Across)))) + (i64.wrap (2048 * v.Down))))
theorem rName_ok (v : Place) : FnSpec Try.prog 84 1000 [Place.enc v] [] (.int .i64 (rName v)) [] := by
  unfold rName
  exact fn_of_x hG hM Try.func84 (by kernel_rfl) (by kernel_rfl) 400 [] trivial (by kernel_rfl)
def rShade (v : Place) : Int × Int :=
  ((i64.wrap ((i64.wrap ((i64.wrap (9152 + (i64.wrap (1024 * (i64.wrap (v.Across + (i64.wrap (2 * v.Down)))))))) + (i64.wrap (8 * (i64.wrap (Int.tdiv v.Line 4)))))) + (i64.wrap (Int.tdiv v.Column 4)))), (i64.wrap ((i64.wrap ((i64.wrap (Int.tdiv (Int.tmod v.Column 4) 2)) * 2)) + (i64.wrap ((i64.wrap (Int.tdiv (Int.tmod v.Line 4) 2)) * 4)))))
theorem rShade_ok (v : Place) : FnSpec Try.prog 85 1000 [Place.enc v] [] (.tuple ⟨[.int .i64 ((rShade v).1), .int .i64 ((rShade v).2)]⟩) [] := by
  unfold rShade
  exact fn_of_x hG hM Try.func85 (by kernel_rfl) (by kernel_rfl) 400 [] (J (by decide : ((4 : Int) ≠ 0)) (J (by decide : ((4 : Int) ≠ 0)) (J (by decide : ((4 : Int) ≠ 0)) (J (by decide : ((2 : Int) ≠ 0)) (J (by decide : ((4 : Int) ≠ 0)) (J (by decide : ((2 : Int) ≠ 0)) trivial)))))) (by kernel_rfl)
def rMirror (a : Int) (u : Bool) : Int :=
  if u = true then
    (i64.wrap ((Int.tmod a 1024) + (i64.wrap (1024 * (Int.tmod (i64.wrap (Int.tdiv a 1024)) 2)))))
  else
    (i64.wrap ((Int.tmod a 1024) + (i64.wrap (1024 * (Int.tmod (i64.wrap (Int.tdiv a 2048)) 2)))))
theorem rMirror_ok (a : Int) (u : Bool) : FnSpec Try.prog 67 1000 [.int .i64 a, .bool u] [] (.int .i64 (rMirror a u)) [] := by
  unfold rMirror
  rcases bt u with c1 | c1
  · rw [if_pos c1]
    exact fn_of_x hG hM Try.func67 (by kernel_rfl) (by kernel_rfl) 400 [.yes] (J (by decide : ((2048 : Int) ≠ 0)) (J (by decide : ((2 : Int) ≠ 0)) (J c1 (J (by decide : ((1024 : Int) ≠ 0)) (J (by decide : ((2 : Int) ≠ 0)) (J (by decide : ((1024 : Int) ≠ 0)) trivial)))))) (by kernel_rfl)
  · rw [if_neg (nt c1)]
    exact fn_of_x hG hM Try.func67 (by kernel_rfl) (by kernel_rfl) 400 [.no] (J (by decide : ((2048 : Int) ≠ 0)) (J (by decide : ((2 : Int) ≠ 0)) (J c1 (J (by decide : ((1024 : Int) ≠ 0)) trivial)))) (by kernel_rfl)
def rColour (a : Int) : Int :=
  if (decide ((Int.tmod a 32) ≥ 16)) = true then
    if ((Int.tmod (Int.tmod a 32) 4) == 0) = true then
      (i64.wrap ((Int.tmod a 32) - 16))
    else
      (Int.tmod a 32)
  else
    (Int.tmod a 32)
theorem rColour_ok (a : Int) : FnSpec Try.prog 68 1000 [.int .i64 a] [] (.int .i64 (rColour a)) [] := by
  unfold rColour
  rcases bt (decide ((Int.tmod a 32) ≥ 16)) with c1 | c1
  · rw [if_pos c1]
    rcases bt ((Int.tmod (Int.tmod a 32) 4) == 0) with c2 | c2
    · rw [if_pos c2]
      exact fn_of_x hG hM Try.func68 (by kernel_rfl) (by kernel_rfl) 400 [.yes, .yes, .yes, .yes, .yes] (J (by decide : ((32 : Int) ≠ 0)) (J c1 (J c1 (J (by decide : ((4 : Int) ≠ 0)) (J c1 (J c1 (J c2 trivial))))))) (by kernel_rfl)
    · rw [if_neg (nt c2)]
      exact fn_of_x hG hM Try.func68 (by kernel_rfl) (by kernel_rfl) 400 [.yes, .yes, .yes, .yes, .no] (J (by decide : ((32 : Int) ≠ 0)) (J c1 (J c1 (J (by decide : ((4 : Int) ≠ 0)) (J c1 (J c1 (J c2 trivial))))))) (by kernel_rfl)
  · rw [if_neg (nt c1)]
    exact fn_of_x hG hM Try.func68 (by kernel_rfl) (by kernel_rfl) 400 [.no, .no, .no, .no, .no] (J (by decide : ((32 : Int) ≠ 0)) (J c1 (J c1 (J c1 (J c1 (J T0 trivial)))))) (by kernel_rfl)
def rBit (n : Int) (of : Int) : Bool :=
  ((Int.tmod (i64.wrap (Int.tdiv n of)) 2) == 1)
theorem rBit_ok (n : Int) (of : Int) (ho : of ≠ 0) : FnSpec Try.prog 43 1000 [.int .i64 n, .int .i64 of] [] (.bool (rBit n of)) [] := by
  unfold rBit
  exact fn_of_x hG hM Try.func43 (by kernel_rfl) (by kernel_rfl) 400 [] (J ho (J (by decide : ((2 : Int) ≠ 0)) trivial)) (by kernel_rfl)
theorem tm_e {a : Int} (n : Int) (h : 0 ≤ a) : Int.tmod a n = a % n := Int.tmod_eq_emod_of_nonneg h
theorem td_e {a : Int} (n : Int) (h : 0 ≤ a) : Int.tdiv a n = a / n := Int.tdiv_eq_ediv_of_nonneg h
theorem w64 {x : Int} (h0 : -1000000000 ≤ x) (h : x < 1000000000) : i64.wrap x = x := by rw [IntKind.wrap_i64]; omega
theorem rMirror_eq {a : Int} (u : Bool) (h0 : 0 ≤ a) (h1 : a < 65536) : rMirror a u = if u then a % 2048 else a % 1024 + 1024 * (a / 2048 % 2) := by
  unfold rMirror
  rw [tm_e 1024 h0, td_e 1024 h0, td_e 2048 h0, w64 (x := a / 1024) (by omega) (by omega), w64 (x := a / 2048) (by omega) (by omega), tm_e 2 (by omega), tm_e 2 (by omega), w64 (x := 1024 * (a / 1024 % 2)) (by omega) (by omega), w64 (x := 1024 * (a / 2048 % 2)) (by omega) (by omega), w64 (by omega) (by omega), w64 (by omega) (by omega)]
  cases u
  · rfl
  · show a % 1024 + 1024 * (a / 1024 % 2) = a % 2048; omega
theorem rColour_eq {a : Int} (h0 : 0 ≤ a) : rColour a = if a % 32 ≥ 16 ∧ a % 4 = 0 then a % 32 - 16 else a % 32 := by
  unfold rColour
  rw [tm_e 32 h0, tm_e 4 (by omega), w64 (by omega) (by omega)]
  by_cases c : a % 32 ≥ 16
  · rw [if_pos (decide_eq_true c)]
    by_cases d : a % 4 = 0
    · rw [if_pos (by simp; omega), if_pos ⟨c, d⟩]
    · rw [if_neg (by simp; omega), if_neg (fun h => d h.2)]
  · rw [if_neg (by simpa using c), if_neg (fun h => c h.1)]
end Go.Proofs.Ytgnhhnmpeklciaa
namespace Go.Proofs.Ytgnhhnmpeklciaa
open Go VX
set_option linter.unusedVariables false
set_option linter.unusedSimpArgs false
set_option maxRecDepth 100000
theorem behind_ints {k : IntKind} {m : Nat} (f : Nat → Int) (off : Nat) : Behind [] (winL (fun o => .int k (f (off + o))) 0 m) [.ints k m (fun j => f (off + j))] := by
  refine ⟨by simp [segsSize, Seg.size, winL_len], fun o v h => .inr ⟨Nat.zero_le _, ?_⟩⟩
  simp only [segsGet?, Seg.size, segsSize] at h ⊢
  cases e : Nat.blt o m with
  | false => rw [e] at h; simp at h
  | true =>
    rw [e] at h
    simp only [cond_true, Seg.get?, e, Option.some.injEq] at h
    subst h
    have : o < m := by rw [Nat.blt_eq] at e; exact e
    rw [Nat.sub_zero, winL_get, if_pos this, Nat.zero_add]
theorem y256 {y : Int} (h : Int.toNat y < 240) : Int.toNat y * 256 + 0 + 256 ≤ 61440 := by omega
theorem cloneRow_ok (p : Pic) (L : List Sprite) (y : Int) (hy : Int.toNat y < 240) :
    FnSpec Try.prog 54 1002 [.slice (some ⟨1000, Int.toNat y * 256 + 0, (some 10544)⟩) 256 0] [(1000, (Pic.bl p (.slice (some ⟨1001, 0, (some 0)⟩) (List.length L) 5) true)), (1001, ⟨[rowsL Sprite.cells Sprite.nil 5 L], 92, true⟩)]
      (.slice (some ⟨1002, 0, (some 0)⟩) 256 1) [(1002, ⟨[.ints .u8 256 (fun j => p.screen (Int.toNat y * 256 + j))], 5, false⟩)] := by
  exact fn_of_x hG hM Try.func54 (by kernel_rfl) (by kernel_rfl) 400 [.no, .born, .win [.ints .u8 256 (fun j => p.screen (Int.toNat y * 256 + j))]]
    (J (by decide : (256 : Nat) ≠ 0) (J (Eq.refl false) (J (Eq.refl true) (J (behind_ints (k := .u8) (m := 256) p.screen (Int.toNat y * 256)) (J (by decide : 256 ≤ 1048576) (J (y256 hy) trivial)))))) (by kernel_rfl)
theorem row_in (p : Pic) (L : List Sprite) (y : Int) (h0 : 0 ≤ y) (h1 : y < 240) :
    FnSpec Try.prog 26 1002 [.pointer (some ⟨1000, 0, none⟩), .int .i64 y] [(1000, (Pic.bl p (.slice (some ⟨1001, 0, (some 0)⟩) (List.length L) 5) true)), (1001, ⟨[rowsL Sprite.cells Sprite.nil 5 L], 92, true⟩)]
      (.slice (some ⟨1002, 0, (some 0)⟩) 256 1) [(1002, ⟨[.ints .u8 256 (fun j => p.screen (Int.toNat y * 256 + j))], 5, false⟩)] := by
  have c1 : (decide ((y : Int) < 0)) = false := decide_eq_false (by omega)
  have c2 : (decide ((y : Int) ≥ 240)) = false := decide_eq_false (by omega)
  exact fn_of_x hG hM Try.func26 (by kernel_rfl) (by kernel_rfl) 400 [.no, .no, .no, .no, .no, .no, .no, .sym, .cut 0 256, .callr [(1000, 1000), (1001, 1001)] [] [(1002, 1002)] 1002 (.slice (some ⟨1002, 0, (some 0)⟩) 256 1) [(1002, ⟨[.ints .u8 256 (fun j => p.screen (Int.toNat y * 256 + j))], 5, false⟩)]]
    (J (Eq.refl false) (J (Eq.refl false) (J (Eq.refl false) (J c1 (J c1 (J c1 (J c2 (J (show 0 ≤ y ∧ y < ((240 : Nat) : Int) from ⟨h0, h1⟩) (J (cloneRow_ok p L y (by omega)) trivial))))))))) (by kernel_rfl)
theorem row_low (p : Pic) (L : List Sprite) (y : Int) (h0 : y < 0) :
    FnSpec Try.prog 26 1002 [.pointer (some ⟨1000, 0, none⟩), .int .i64 y] [(1000, (Pic.bl p (.slice (some ⟨1001, 0, (some 0)⟩) (List.length L) 5) true)), (1001, ⟨[rowsL Sprite.cells Sprite.nil 5 L], 92, true⟩)] (.slice none 0 0) [] := by
  have c1 : (decide ((y : Int) < 0)) = true := decide_eq_true (by omega)
  exact fn_of_x hG hM Try.func26 (by kernel_rfl) (by kernel_rfl) 400 [.no, .no, .no, .yes, .yes, .yes, .yes]
    (J (Eq.refl false) (J (Eq.refl false) (J (Eq.refl false) (J c1 (J c1 (J c1 (J (Eq.refl true) trivial))))))) (by kernel_rfl)
theorem row_high (p : Pic) (L : List Sprite) (y : Int) (h0 : y ≥ 240) :
    FnSpec Try.prog 26 1002 [.pointer (some ⟨1000, 0, none⟩), .int .i64 y] [(1000, (Pic.bl p (.slice (some ⟨1001, 0, (some 0)⟩) (List.length L) 5) true)), (1001, ⟨[rowsL Sprite.cells Sprite.nil 5 L], 92, true⟩)] (.slice none 0 0) [] := by
  have c1 : (decide ((y : Int) < 0)) = false := decide_eq_false (by omega)
  have c2 : (decide ((y : Int) ≥ 240)) = true := decide_eq_true (by omega)
  exact fn_of_x hG hM Try.func26 (by kernel_rfl) (by kernel_rfl) 400 [.no, .no, .no, .no, .no, .no, .yes]
    (J (Eq.refl false) (J (Eq.refl false) (J (Eq.refl false) (J c1 (J c1 (J c1 (J c2 trivial))))))) (by kernel_rfl)
end Go.Proofs.Ytgnhhnmpeklciaa
namespace Go.Proofs.Ytgnhhnmpeklciaa
open Go VX
set_option linter.unusedVariables false
set_option linter.unusedSimpArgs false
set_option maxRecDepth 100000
def rowL (f : Nat → Int) : Nat → Nat → List Int
  | _, 0 => []
  | o, m + 1 => f o :: rowL f (o + 1) m
theorem rowL_len (f : Nat → Int) : ∀ (m o : Nat), (rowL f o m).length = m
  | 0, _ => rfl
  | m + 1, o => by simp [rowL, rowL_len f m]
theorem rowL_get (f : Nat → Int) : ∀ (m o j : Nat), j < m → (rowL f o m).getD j 0 = f (o + j)
  | 0, o, j, h => by omega
  | m + 1, o, 0, h => rfl
  | m + 1, o, j + 1, h => by
    show (rowL f (o + 1) m).getD j 0 = _
    rw [rowL_get f m (o + 1) j (by omega)]; congr 1; omega
theorem getD_app (L M : List Int) (j : Nat) : (L ++ M).getD j 0 = if j < L.length then L.getD j 0 else M.getD (j - L.length) 0 := by
  by_cases h : j < L.length
  · rw [if_pos h, List.getD_eq_getElem?_getD, List.getD_eq_getElem?_getD, List.getElem?_append_left h]
  · rw [if_neg h, List.getD_eq_getElem?_getD, List.getD_eq_getElem?_getD, List.getElem?_append_right (by omega)]
theorem behind_row {k : IntKind} (L : List Int) (f : Nat → Int) (off m : Nat) : Behind [intsL k L] (winL (fun o => .int k (f (off + o))) 0 m) [intsL k (L ++ rowL f off m)] := by
  refine ⟨by simp [intsL, segsSize, Seg.size, winL_len, rowL_len], fun o v h => ?_⟩
  have e : ∀ M : List Int, segsGet? [intsL k M] o = (bif Nat.blt o M.length then (bif Nat.blt o M.length then some (Value.int k (M.getD o 0)) else none) else none) := fun _ => rfl
  rw [e] at h
  cases hb : Nat.blt o (L ++ rowL f off m).length with
  | false => rw [hb] at h; simp at h
  | true =>
    rw [hb] at h
    simp only [cond_true, Option.some.injEq] at h
    have hlt : o < (L ++ rowL f off m).length := by rw [Nat.blt_eq] at hb; exact hb
    rw [List.length_append, rowL_len] at hlt
    have hs : segsSize [intsL k L] = L.length := by simp [intsL, segsSize, Seg.size]
    rw [getD_app] at h
    by_cases c : o < L.length
    · rw [if_pos c] at h
      refine .inl ⟨by omega, ?_⟩
      have : Nat.blt o L.length = true := by rw [Nat.blt_eq]; exact c
      rw [e, this]; simp only [cond_true]; rw [h]
    · rw [if_neg c, rowL_get f m off _ (by omega)] at h
      refine .inr ⟨by omega, ?_⟩
      rw [hs, winL_get, if_pos (by omega), Nat.zero_add, ← h]
theorem sl_row (n z : Nat) (L : List Int) (f : Nat → Int) (off m : Nat) : Value.slice (some ⟨n, 0, some 0⟩) (List.length L + m) z = .slice (some ⟨n, 0, some 0⟩) (List.length (L ++ rowL f off m)) z := by
  rw [List.length_append, rowL_len]
theorem noughts_nil (k : IntKind) (C : Nat) : Noughts k C [intsL k []] := by
  refine ⟨by simp [intsL, segsSize, Seg.size], fun o v h => ?_⟩
  have e : segsGet? [intsL k []] o = (bif Nat.blt o 0 then (bif Nat.blt o 0 then some (Value.int k (([] : List Int).getD o 0)) else none) else none) := rfl
  rw [e] at h
  have : Nat.blt o 0 = false := by cases hb : Nat.blt o 0; rfl; rw [Nat.blt_eq] at hb; omega
  rw [this] at h; simp at h
end Go.Proofs.Ytgnhhnmpeklciaa
namespace Go.Proofs.Ytgnhhnmpeklciaa
open Go VX
open Go.IntKind (i64 u8 u16)
set_option linter.unusedVariables false
set_option linter.unusedSimpArgs false
set_option maxRecDepth 100000
structure Man where
  X : Int
  Look : Int
  First : Bool
  Dots : Nat → Int
def Man.enc (s : Man) : Value := .agg ⟨[.int .i64 s.X, .int .i64 s.Look, .bool s.First, .func (.yield 1) ⟨[.int .i64 (s.Dots 0), .int .i64 (s.Dots 1), .int .i64 (s.Dots 2), .int .i64 (s.Dots 3), .int .i64 (s.Dots 4), .int .i64 (s.Dots 5), .int .i64 (s.Dots 6), .int .i64 (s.Dots 7)]⟩ ⟨[.bool true]⟩]⟩
def Man.blk (s : Man) : Blk := ⟨[.one (.int .i64 s.X), .one (.int .i64 s.Look), .one (.bool s.First), .one (.func (.yield 1) ⟨[.int .i64 (s.Dots 0), .int .i64 (s.Dots 1), .int .i64 (s.Dots 2), .int .i64 (s.Dots 3), .int .i64 (s.Dots 4), .int .i64 (s.Dots 5), .int .i64 (s.Dots 6), .int .i64 (s.Dots 7)]⟩ ⟨[.bool true]⟩)], 119, false⟩
def Man.cells (s : Man) : List Value := [.int .i64 s.X, .int .i64 s.Look, .bool s.First, .func (.yield 1) ⟨[.int .i64 (s.Dots 0), .int .i64 (s.Dots 1), .int .i64 (s.Dots 2), .int .i64 (s.Dots 3), .int .i64 (s.Dots 4), .int .i64 (s.Dots 5), .int .i64 (s.Dots 6), .int .i64 (s.Dots 7)]⟩ ⟨[.bool true]⟩]
def Man.nil : Man := ⟨0, 0, false, fun _ => 0⟩
theorem Man_snoc (L : List Man) (x : Man) : addSegs [rowsL Man.cells Man.nil 4 L] (Man.cells x) = [rowsL Man.cells Man.nil 4 (L ++ [x])] := rowsL_snoc L x rfl
theorem Man_of (L : List Man) : SegsOk [rowsL Man.cells Man.nil 4 L] (L.flatMap Man.cells) := rowsL_of L (fun _ => rfl) (by decide)
structure RPic where
  At : Int
  S : RScroll
  Control : Int
  Mask : Int
  Blank : Bool
  Hit : Bool
  Many : Bool
  Waits : Int
  Bus : Int
  Upright : Bool
  Line : Int
  Dot : Int
  Begun : Int
  Done : Int
def RPic.bl (s : RPic) (v0 : Value) (v1 : Value) (v2 : Value) (v3 : Value) (ro : Bool) : Blk := ⟨[.one v0, .one v1, .one (.int .i64 s.At), .one (.int .i64 s.S.V.Column), .one (.int .i64 s.S.V.Line), .one (.int .i64 s.S.V.Across), .one (.int .i64 s.S.V.Down), .one (.int .i64 s.S.V.Row), .one (.int .i64 s.S.T.Column), .one (.int .i64 s.S.T.Line), .one (.int .i64 s.S.T.Across), .one (.int .i64 s.S.T.Down), .one (.int .i64 s.S.T.Row), .one (.int .i64 s.S.X), .one (.bool s.S.W), .one (.int .i64 s.Control), .one (.int .i64 s.Mask), .one (.bool s.Blank), .one (.bool s.Hit), .one (.bool s.Many), .one (.int .i64 s.Waits), .one (.int .i64 s.Bus), .one (.bool s.Upright), .one (.int .i64 s.Line), .one (.int .i64 s.Dot), .one (.int .i64 s.Begun), .one (.int .i64 s.Done), .one v2, .one v3], 59, ro⟩
def rWhere (r : RPic) (r_Mem : Nat → Int) (r_Men : Nat → Int) (r_Screen : Nat → Int) (r_Chosen : List Man) (a : Int) : Int :=
  if (decide ((Int.tmod a 16384) < 8192)) = true then
    (Int.tmod a 16384)
  else
    if (decide ((Int.tmod a 16384) < 16128)) = true then
      (i64.wrap (8192 + (rMirror (Int.tmod a 16384) r.Upright)))
    else
      (i64.wrap (16128 + (rColour (Int.tmod a 16384))))
theorem rWhere_ok (r : RPic) (r_Mem : Nat → Int) (r_Men : Nat → Int) (r_Screen : Nat → Int) (r_Chosen : List Man) (a : Int) : FnSpec Try.prog 45 1005 [.pointer (some ⟨1000, 0, none⟩), .int .i64 a] [(1000, (RPic.bl r (.slice (some ⟨1001, 0, (some 0)⟩) 16384 1) (.slice (some ⟨1002, 0, (some 0)⟩) 256 1) (.slice (some ⟨1004, 0, (some 0)⟩) (List.length r_Chosen) 4) (.slice (some ⟨1003, 0, (some 0)⟩) 61440 1) true)), (1001, ⟨[.ints .u8 16384 r_Mem], 5, true⟩), (1002, ⟨[.ints .u8 256 r_Men], 5, true⟩), (1003, ⟨[.ints .u8 61440 r_Screen], 5, true⟩), (1004, ⟨[rowsL Man.cells Man.nil 4 r_Chosen], 119, true⟩)] (.int .i64 (rWhere r r_Mem r_Men r_Screen r_Chosen a)) [] := by
  unfold rWhere
  rcases bt (decide ((Int.tmod a 16384) < 8192)) with c1 | c1
  · rw [if_pos c1]
    exact fn_of_x hG hM Try.func45 (by kernel_rfl) (by kernel_rfl) 400 [.yes] (J (by decide : ((16384 : Int) ≠ 0)) (J c1 trivial)) (by kernel_rfl)
  · rw [if_neg (nt c1)]
    rcases bt (decide ((Int.tmod a 16384) < 16128)) with c2 | c2
    · rw [if_pos c2]
      exact fn_of_x hG hM Try.func45 (by kernel_rfl) (by kernel_rfl) 400 [.no, .yes, .call [] [] 1000 (.int .i64 (rMirror (Int.tmod a 16384) r.Upright)) []] (J (by decide : ((16384 : Int) ≠ 0)) (J c1 (J c2 (J (rMirror_ok (Int.tmod a 16384) r.Upright) trivial)))) (by kernel_rfl)
    · rw [if_neg (nt c2)]
      exact fn_of_x hG hM Try.func45 (by kernel_rfl) (by kernel_rfl) 400 [.no, .no, .call [] [] 1000 (.int .i64 (rColour (Int.tmod a 16384))) []] (J (by decide : ((16384 : Int) ≠ 0)) (J c1 (J c2 (J (rColour_ok (Int.tmod a 16384)) trivial)))) (by kernel_rfl)
theorem rWhere_eq (r : RPic) (r_Mem : Nat → Int) (r_Men : Nat → Int) (r_Screen : Nat → Int) (r_Chosen : List Man) (a : Int) (ha : 0 ≤ a) : rWhere r r_Mem r_Men r_Screen r_Chosen a = if a % 16384 < 8192 then a % 16384 else if a % 16384 < 16128 then 8192 + rMirror (a % 16384) r.Upright else 16128 + rColour (a % 16384) := by
  have h1 := rMirror_eq (a := a % 16384) r.Upright (by omega) (by omega)
  have h2 := rColour_eq (a := a % 16384) (by omega)
  unfold rWhere
  rw [tm_e 16384 ha, w64 (x := 8192 + _) (by rw [h1]; split <;> omega) (by rw [h1]; split <;> omega), w64 (x := 16128 + _) (by rw [h2]; split <;> omega) (by rw [h2]; split <;> omega)]
  simp only [decide_eq_true_eq]
theorem rWhere_lt (r : RPic) (r_Mem : Nat → Int) (r_Men : Nat → Int) (r_Screen : Nat → Int) (r_Chosen : List Man) (a : Int) (ha : 0 ≤ a) : 0 ≤ rWhere r r_Mem r_Men r_Screen r_Chosen a ∧ rWhere r r_Mem r_Men r_Screen r_Chosen a < ((16384 : Nat) : Int) := by
  have h1 := rMirror_eq (a := a % 16384) r.Upright (by omega) (by omega)
  have h2 := rColour_eq (a := a % 16384) (by omega)
  rw [rWhere_eq _ _ _ _ _ _ ha]
  split
  · omega
  · split
    · rw [h1]; split <;> omega
    · rw [h2]; split <;> omega
def rPeek (r : RPic) (r_Mem : Nat → Int) (r_Men : Nat → Int) (r_Screen : Nat → Int) (r_Chosen : List Man) (a : Int) : Int :=
  (i64.wrap (r_Mem (Int.toNat (rWhere r r_Mem r_Men r_Screen r_Chosen a))))
theorem rPeek_ok (r : RPic) (r_Mem : Nat → Int) (r_Men : Nat → Int) (r_Screen : Nat → Int) (r_Chosen : List Man) (a : Int) (ha : 0 ≤ a) : FnSpec Try.prog 20 1005 [.pointer (some ⟨1000, 0, none⟩), .int .i64 a] [(1000, (RPic.bl r (.slice (some ⟨1001, 0, (some 0)⟩) 16384 1) (.slice (some ⟨1002, 0, (some 0)⟩) 256 1) (.slice (some ⟨1004, 0, (some 0)⟩) (List.length r_Chosen) 4) (.slice (some ⟨1003, 0, (some 0)⟩) 61440 1) true)), (1001, ⟨[.ints .u8 16384 r_Mem], 5, true⟩), (1002, ⟨[.ints .u8 256 r_Men], 5, true⟩), (1003, ⟨[.ints .u8 61440 r_Screen], 5, true⟩), (1004, ⟨[rowsL Man.cells Man.nil 4 r_Chosen], 119, true⟩)] (.int .i64 (rPeek r r_Mem r_Men r_Screen r_Chosen a)) [] := by
  unfold rPeek
  exact fn_of_x hG hM Try.func20 (by kernel_rfl) (by kernel_rfl) 400 [.call [(1000, 1000), (1001, 1001), (1002, 1002), (1003, 1003), (1004, 1004)] [] 1005 (.int .i64 (rWhere r r_Mem r_Men r_Screen r_Chosen a)) [], .sym] (J (rWhere_ok r r_Mem r_Men r_Screen r_Chosen a) (J (rWhere_lt r r_Mem r_Men r_Screen r_Chosen a ha) (J (show (Int.toNat (rWhere r r_Mem r_Men r_Screen r_Chosen a)) < 16384 from by have q_ := rWhere_lt r r_Mem r_Men r_Screen r_Chosen a ha; omega) trivial))) (by kernel_rfl)
def rPoke (r : RPic) (r_Mem : Nat → Int) (r_Men : Nat → Int) (r_Screen : Nat → Int) (r_Chosen : List Man) (a : Int) (b : Int) : (Nat → Int) :=
  if (decide ((Int.tmod a 16384) ≥ 16128)) = true then
    (upd r_Mem (Int.toNat (rWhere r r_Mem r_Men r_Screen r_Chosen a)) (u8.wrap (Int.tmod b 64)))
  else
    (upd r_Mem (Int.toNat (rWhere r r_Mem r_Men r_Screen r_Chosen a)) (u8.wrap b))
theorem rPoke_ok (r : RPic) (r_Mem : Nat → Int) (r_Men : Nat → Int) (r_Screen : Nat → Int) (r_Chosen : List Man) (a : Int) (b : Int) (ha : 0 ≤ a) : FnSpec Try.prog 30 1005 [.pointer (some ⟨1000, 0, none⟩), .int .i64 a, .int .i64 b] [(1000, (RPic.bl r (.slice (some ⟨1001, 0, (some 0)⟩) 16384 1) (.slice (some ⟨1002, 0, (some 0)⟩) 256 1) (.slice (some ⟨1004, 0, (some 0)⟩) (List.length r_Chosen) 4) (.slice (some ⟨1003, 0, (some 0)⟩) 61440 1) false)), (1001, ⟨[.ints .u8 16384 r_Mem], 5, false⟩), (1002, ⟨[.ints .u8 256 r_Men], 5, false⟩), (1003, ⟨[.ints .u8 61440 r_Screen], 5, false⟩), (1004, ⟨[rowsL Man.cells Man.nil 4 r_Chosen], 119, false⟩)] (.tuple ⟨[]⟩) [(1000, (RPic.bl r (.slice (some ⟨1001, 0, (some 0)⟩) 16384 1) (.slice (some ⟨1002, 0, (some 0)⟩) 256 1) (.slice (some ⟨1004, 0, (some 0)⟩) (List.length r_Chosen) 4) (.slice (some ⟨1003, 0, (some 0)⟩) 61440 1) false)), (1001, ⟨[.ints .u8 16384 (rPoke r r_Mem r_Men r_Screen r_Chosen a b)], 5, false⟩), (1002, ⟨[.ints .u8 256 r_Men], 5, false⟩), (1003, ⟨[.ints .u8 61440 r_Screen], 5, false⟩), (1004, ⟨[rowsL Man.cells Man.nil 4 r_Chosen], 119, false⟩)] := by
  unfold rPoke
  rcases bt (decide ((Int.tmod a 16384) ≥ 16128)) with c1 | c1
  · rw [if_pos c1]
    exact fn_of_x hG hM Try.func30 (by kernel_rfl) (by kernel_rfl) 400 [.yes, .callr [(1000, 1000), (1001, 1001), (1002, 1002), (1003, 1003), (1004, 1004)] [1000, 1001, 1002, 1003, 1004] [] 1005 (.int .i64 (rWhere r r_Mem r_Men r_Screen r_Chosen a)) [], .sym] (J (by decide : ((16384 : Int) ≠ 0)) (J c1 (J (by decide : ((64 : Int) ≠ 0)) (J (rWhere_ok r r_Mem r_Men r_Screen r_Chosen a) (J (rWhere_lt r r_Mem r_Men r_Screen r_Chosen a ha) (J (show (Int.toNat (rWhere r r_Mem r_Men r_Screen r_Chosen a)) < 16384 from by have q_ := rWhere_lt r r_Mem r_Men r_Screen r_Chosen a ha; omega) trivial)))))) (by kernel_rfl)
  · rw [if_neg (nt c1)]
    exact fn_of_x hG hM Try.func30 (by kernel_rfl) (by kernel_rfl) 400 [.no, .callr [(1000, 1000), (1001, 1001), (1002, 1002), (1003, 1003), (1004, 1004)] [1000, 1001, 1002, 1003, 1004] [] 1005 (.int .i64 (rWhere r r_Mem r_Men r_Screen r_Chosen a)) [], .sym] (J (by decide : ((16384 : Int) ≠ 0)) (J c1 (J (rWhere_ok r r_Mem r_Men r_Screen r_Chosen a) (J (rWhere_lt r r_Mem r_Men r_Screen r_Chosen a ha) (J (show (Int.toNat (rWhere r r_Mem r_Men r_Screen r_Chosen a)) < 16384 from by have q_ := rWhere_lt r r_Mem r_Men r_Screen r_Chosen a ha; omega) trivial))))) (by kernel_rfl)
end Go.Proofs.Ytgnhhnmpeklciaa
namespace Go.Proofs.Ytgnhhnmpeklciaa
open Go VX
open Go.IntKind (i64 u8 u16)
set_option linter.unusedVariables false
set_option linter.unusedSimpArgs false
set_option maxRecDepth 100000
set_option maxHeartbeats 4000000
theorem at_lt {x : Int} (h : 0 ≤ x ∧ x < ((256 : Nat) : Int)) : Int.toNat x < 256 := by omega
theorem tm_pos {x : Int} (n : Int) (h : 0 ≤ x) : 0 ≤ Int.tmod x n := Int.tmod_nonneg n h
theorem tm_less {x : Int} (h : 0 ≤ x) (c : (decide ((Int.tmod x 16384) < 16128)) = false) : 0 ≤ i64.wrap ((Int.tmod x 16384) - 4096) := by
  have c := of_decide_eq_false c
  rw [tm_e 16384 h] at c ⊢
  rw [w64 (by omega) (by omega)]; omega
theorem noughts_all (k : IntKind) (C : Nat) : Noughts k C [.ints k C (fun _ => 0)] := by
  refine ⟨by simp [segsSize, Seg.size], fun o v h => ?_⟩
  have e : segsGet? [.ints k C (fun _ => 0)] o = (bif Nat.blt o C then (bif Nat.blt o C then some (Value.int k 0) else none) else none) := rfl
  rw [e] at h
  cases hb : Nat.blt o C with
  | false => rw [hb] at h; simp at h
  | true =>
    rw [hb] at h
    simp only [cond_true, Option.some.injEq] at h
    exact ⟨by rw [Nat.blt_eq] at hb; exact hb, h.symm⟩
def rZero : RPic := { At := 0, S := { V := ⟨0, 0, 0, 0, 0⟩, T := ⟨0, 0, 0, 0, 0⟩, X := 0, W := false }, Control := 0, Mask := 0, Blank := false, Hit := false, Many := false, Waits := 0, Bus := 0, Upright := false, Line := 0, Dot := 0, Begun := 1, Done := 0 }
theorem rnew_ok : FnSpec Try.prog 15 1000 [] [] (.pointer (some ⟨1003, 0, none⟩)) [(1000, ⟨[.ints .u8 16384 (fun _ => 0)], 5, false⟩), (1001, ⟨[.ints .u8 256 (fun _ => 0)], 5, false⟩), (1002, ⟨[.ints .u8 61440 (fun _ => 0)], 5, false⟩), (1003, RPic.bl rZero (.slice (some ⟨1000, 0, (some 0)⟩) 16384 1) (.slice (some ⟨1001, 0, (some 0)⟩) 256 1) (.slice none 0 0) (.slice (some ⟨1002, 0, (some 0)⟩) 61440 1) false)] := by
  exact fn_of_x hG hM Try.func15 (by kernel_rfl) (by kernel_rfl) 400 [.cut 16384 16384, .list [.ints .u8 16384 (fun _ => 0)], .cut 256 256, .list [.ints .u8 256 (fun _ => 0)], .cut 61440 61440, .list [.ints .u8 61440 (fun _ => 0)]]
    (J (Eq.refl (16384 : Int)) (J (Eq.refl (16384 : Int)) (J (noughts_all .u8 16384) (J (Eq.refl (256 : Int)) (J (Eq.refl (256 : Int)) (J (noughts_all .u8 256) (J (Eq.refl (61440 : Int)) (J (Eq.refl (61440 : Int)) (J (noughts_all .u8 61440) trivial))))))))) (by kernel_rfl)
def rPut (r : RPic) (r_Mem : Nat → Int) (r_Men : Nat → Int) (r_Screen : Nat → Int) (r_Chosen : List Man) (reg : Int) (b : Int) : RPic × (Nat → Int) × (Nat → Int) :=
  if ((Int.tmod reg 8) == 0) = true then
    (({ r with S := (rControl r.S b), Control := b, Bus := b } : RPic), r_Mem, r_Men)
  else
    if ((Int.tmod reg 8) == 1) = true then
      (({ r with Mask := b, Bus := b } : RPic), r_Mem, r_Men)
    else
      if ((Int.tmod reg 8) == 3) = true then
        (({ r with At := b, Bus := b } : RPic), r_Mem, r_Men)
      else
        if ((Int.tmod reg 8) == 4) = true then
          (({ r with At := (Int.tmod (i64.wrap (r.At + 1)) 256), Bus := b } : RPic), r_Mem, (upd r_Men (Int.toNat r.At) (u8.wrap b)))
        else
          if ((Int.tmod reg 8) == 5) = true then
            (({ r with S := (rOffset r.S b), Bus := b } : RPic), r_Mem, r_Men)
          else
            if ((Int.tmod reg 8) == 6) = true then
              (({ r with S := (rAddress r.S b), Bus := b } : RPic), r_Mem, r_Men)
            else
              if ((Int.tmod reg 8) == 7) = true then
                (({ ({ r with Bus := b } : RPic) with S := (rStep (({ r with Bus := b } : RPic).S) (rBit (({ r with Bus := b } : RPic).Control) 4)) } : RPic), (rPoke ({ r with Bus := b } : RPic) r_Mem r_Men r_Screen r_Chosen (rBits r.S.V) b), r_Men)
              else
                (({ r with Bus := b } : RPic), r_Mem, r_Men)
theorem rPut_ok (r : RPic) (r_Mem : Nat → Int) (r_Men : Nat → Int) (r_Screen : Nat → Int) (r_Chosen : List Man) (reg : Int) (b : Int) (hA : 0 ≤ r.At ∧ r.At < ((256 : Nat) : Int)) (hV : 0 ≤ rBits r.S.V) : FnSpec Try.prog 37 1005 [.pointer (some ⟨1000, 0, none⟩), .int .i64 reg, .int .i64 b] [(1000, (RPic.bl r (.slice (some ⟨1001, 0, (some 0)⟩) 16384 1) (.slice (some ⟨1002, 0, (some 0)⟩) 256 1) (.slice (some ⟨1004, 0, (some 0)⟩) (List.length r_Chosen) 4) (.slice (some ⟨1003, 0, (some 0)⟩) 61440 1) false)), (1001, ⟨[.ints .u8 16384 r_Mem], 5, false⟩), (1002, ⟨[.ints .u8 256 r_Men], 5, false⟩), (1003, ⟨[.ints .u8 61440 r_Screen], 5, false⟩), (1004, ⟨[rowsL Man.cells Man.nil 4 r_Chosen], 119, false⟩)] (.tuple ⟨[]⟩) [(1000, (RPic.bl ((rPut r r_Mem r_Men r_Screen r_Chosen reg b).1) (.slice (some ⟨1001, 0, (some 0)⟩) 16384 1) (.slice (some ⟨1002, 0, (some 0)⟩) 256 1) (.slice (some ⟨1004, 0, (some 0)⟩) (List.length r_Chosen) 4) (.slice (some ⟨1003, 0, (some 0)⟩) 61440 1) false)), (1001, ⟨[.ints .u8 16384 ((rPut r r_Mem r_Men r_Screen r_Chosen reg b).2.1)], 5, false⟩), (1002, ⟨[.ints .u8 256 ((rPut r r_Mem r_Men r_Screen r_Chosen reg b).2.2)], 5, false⟩), (1003, ⟨[.ints .u8 61440 r_Screen], 5, false⟩), (1004, ⟨[rowsL Man.cells Man.nil 4 r_Chosen], 119, false⟩)] := by
  unfold rPut
  rcases bt ((Int.tmod reg 8) == 0) with c1 | c1
  · rw [if_pos c1]
    exact fn_of_x hG hM Try.func37 (by kernel_rfl) (by kernel_rfl) 400 [.yes, .call [] [] 1000 (RScroll.enc (rControl r.S b)) []] (J (by decide : ((8 : Int) ≠ 0)) (J c1 (J (rControl_ok r.S b) trivial))) (by kernel_rfl)
  · rw [if_neg (nt c1)]
    rcases bt ((Int.tmod reg 8) == 1) with c2 | c2
    · rw [if_pos c2]
      exact fn_of_x hG hM Try.func37 (by kernel_rfl) (by kernel_rfl) 400 [.no, .yes] (J (by decide : ((8 : Int) ≠ 0)) (J c1 (J c2 trivial))) (by kernel_rfl)
    · rw [if_neg (nt c2)]
      rcases bt ((Int.tmod reg 8) == 3) with c3 | c3
      · rw [if_pos c3]
        exact fn_of_x hG hM Try.func37 (by kernel_rfl) (by kernel_rfl) 400 [.no, .no, .yes] (J (by decide : ((8 : Int) ≠ 0)) (J c1 (J c2 (J c3 trivial)))) (by kernel_rfl)
      · rw [if_neg (nt c3)]
        rcases bt ((Int.tmod reg 8) == 4) with c4 | c4
        · rw [if_pos c4]
          exact fn_of_x hG hM Try.func37 (by kernel_rfl) (by kernel_rfl) 400 [.no, .no, .no, .yes, .sym] (J (by decide : ((8 : Int) ≠ 0)) (J c1 (J c2 (J c3 (J c4 (J hA (J (show (Int.toNat r.At) < 256 from at_lt hA) (J (by decide : ((256 : Int) ≠ 0)) trivial)))))))) (by kernel_rfl)
        · rw [if_neg (nt c4)]
          rcases bt ((Int.tmod reg 8) == 5) with c5 | c5
          · rw [if_pos c5]
            exact fn_of_x hG hM Try.func37 (by kernel_rfl) (by kernel_rfl) 400 [.no, .no, .no, .no, .yes, .call [] [] 1000 (RScroll.enc (rOffset r.S b)) []] (J (by decide : ((8 : Int) ≠ 0)) (J c1 (J c2 (J c3 (J c4 (J c5 (J (rOffset_ok r.S b) trivial))))))) (by kernel_rfl)
          · rw [if_neg (nt c5)]
            rcases bt ((Int.tmod reg 8) == 6) with c6 | c6
            · rw [if_pos c6]
              exact fn_of_x hG hM Try.func37 (by kernel_rfl) (by kernel_rfl) 400 [.no, .no, .no, .no, .no, .yes, .call [] [] 1000 (RScroll.enc (rAddress r.S b)) []] (J (by decide : ((8 : Int) ≠ 0)) (J c1 (J c2 (J c3 (J c4 (J c5 (J c6 (J (rAddress_ok r.S b) trivial)))))))) (by kernel_rfl)
            · rw [if_neg (nt c6)]
              rcases bt ((Int.tmod reg 8) == 7) with c7 | c7
              · rw [if_pos c7]
                exact fn_of_x hG hM Try.func37 (by kernel_rfl) (by kernel_rfl) 400 [.no, .no, .no, .no, .no, .no, .yes, .call [] [] 1000 (.int .i64 (rBits r.S.V)) [], .call [(1000, 1000), (1001, 1001), (1002, 1002), (1003, 1003), (1004, 1004)] [] 1005 (.tuple ⟨[]⟩) [(1000, (RPic.bl ({ r with Bus := b } : RPic) (.slice (some ⟨1001, 0, (some 0)⟩) 16384 1) (.slice (some ⟨1002, 0, (some 0)⟩) 256 1) (.slice (some ⟨1004, 0, (some 0)⟩) (List.length r_Chosen) 4) (.slice (some ⟨1003, 0, (some 0)⟩) 61440 1) false)), (1001, ⟨[.ints .u8 16384 (rPoke ({ r with Bus := b } : RPic) r_Mem r_Men r_Screen r_Chosen (rBits r.S.V) b)], 5, false⟩), (1002, ⟨[.ints .u8 256 r_Men], 5, false⟩), (1003, ⟨[.ints .u8 61440 r_Screen], 5, false⟩), (1004, ⟨[rowsL Man.cells Man.nil 4 r_Chosen], 119, false⟩)], .call [] [] 1000 (.bool (rBit (({ r with Bus := b } : RPic).Control) 4)) [], .call [] [] 1000 (RScroll.enc (rStep (({ r with Bus := b } : RPic).S) (rBit (({ r with Bus := b } : RPic).Control) 4))) []] (J (by decide : ((8 : Int) ≠ 0)) (J c1 (J c2 (J c3 (J c4 (J c5 (J c6 (J c7 (J (rBits_ok r.S.V) (J (rPoke_ok ({ r with Bus := b } : RPic) r_Mem r_Men r_Screen r_Chosen (rBits r.S.V) b (show 0 ≤ (rBits r.S.V) from hV)) (J (rBit_ok (({ r with Bus := b } : RPic).Control) 4 (by decide : (4 : Int) ≠ 0)) (J (rStep_ok (({ r with Bus := b } : RPic).S) (rBit (({ r with Bus := b } : RPic).Control) 4)) trivial)))))))))))) (by kernel_rfl)
              · rw [if_neg (nt c7)]
                exact fn_of_x hG hM Try.func37 (by kernel_rfl) (by kernel_rfl) 400 [.no, .no, .no, .no, .no, .no, .no] (J (by decide : ((8 : Int) ≠ 0)) (J c1 (J c2 (J c3 (J c4 (J c5 (J c6 (J c7 trivial)))))))) (by kernel_rfl)
def rGet (r : RPic) (r_Mem : Nat → Int) (r_Men : Nat → Int) (r_Screen : Nat → Int) (r_Chosen : List Man) (reg : Int) : RPic × Int :=
  if ((Int.tmod reg 8) == 2) = true then
    if r.Blank = true then
      if r.Hit = true then
        if r.Many = true then
          (({ r with S := ({ r.S with W := false } : RScroll), Blank := false, Bus := (i64.wrap ((i64.wrap ((i64.wrap ((Int.tmod r.Bus 32) + 128)) + 64)) + 32)) } : RPic), (i64.wrap ((i64.wrap ((i64.wrap ((Int.tmod r.Bus 32) + 128)) + 64)) + 32)))
        else
          (({ r with S := ({ r.S with W := false } : RScroll), Blank := false, Bus := (i64.wrap ((i64.wrap ((Int.tmod r.Bus 32) + 128)) + 64)) } : RPic), (i64.wrap ((i64.wrap ((Int.tmod r.Bus 32) + 128)) + 64)))
      else
        if r.Many = true then
          (({ r with S := ({ r.S with W := false } : RScroll), Blank := false, Bus := (i64.wrap ((i64.wrap ((Int.tmod r.Bus 32) + 128)) + 32)) } : RPic), (i64.wrap ((i64.wrap ((Int.tmod r.Bus 32) + 128)) + 32)))
        else
          (({ r with S := ({ r.S with W := false } : RScroll), Blank := false, Bus := (i64.wrap ((Int.tmod r.Bus 32) + 128)) } : RPic), (i64.wrap ((Int.tmod r.Bus 32) + 128)))
    else
      if r.Hit = true then
        if r.Many = true then
          (({ r with S := ({ r.S with W := false } : RScroll), Blank := false, Bus := (i64.wrap ((i64.wrap ((Int.tmod r.Bus 32) + 64)) + 32)) } : RPic), (i64.wrap ((i64.wrap ((Int.tmod r.Bus 32) + 64)) + 32)))
        else
          (({ r with S := ({ r.S with W := false } : RScroll), Blank := false, Bus := (i64.wrap ((Int.tmod r.Bus 32) + 64)) } : RPic), (i64.wrap ((Int.tmod r.Bus 32) + 64)))
      else
        if r.Many = true then
          (({ r with S := ({ r.S with W := false } : RScroll), Blank := false, Bus := (i64.wrap ((Int.tmod r.Bus 32) + 32)) } : RPic), (i64.wrap ((Int.tmod r.Bus 32) + 32)))
        else
          (({ r with S := ({ r.S with W := false } : RScroll), Blank := false, Bus := (Int.tmod r.Bus 32) } : RPic), (Int.tmod r.Bus 32))
  else
    if ((Int.tmod reg 8) == 4) = true then
      if ((Int.tmod r.At 4) == 2) = true then
        (({ r with Bus := (i64.wrap ((i64.wrap ((i64.wrap (Int.tdiv (i64.wrap (r_Men (Int.toNat r.At))) 32)) * 32)) + (Int.tmod (i64.wrap (r_Men (Int.toNat r.At))) 4))) } : RPic), (i64.wrap ((i64.wrap ((i64.wrap (Int.tdiv (i64.wrap (r_Men (Int.toNat r.At))) 32)) * 32)) + (Int.tmod (i64.wrap (r_Men (Int.toNat r.At))) 4))))
      else
        (({ r with Bus := (i64.wrap (r_Men (Int.toNat r.At))) } : RPic), (i64.wrap (r_Men (Int.toNat r.At))))
    else
      if ((Int.tmod reg 8) == 7) = true then
        if (decide ((Int.tmod (rBits r.S.V) 16384) < 16128)) = true then
          (({ r with S := (rStep r.S (rBit r.Control 4)), Waits := (rPeek r r_Mem r_Men r_Screen r_Chosen (Int.tmod (rBits r.S.V) 16384)), Bus := r.Waits } : RPic), r.Waits)
        else
          (({ r with S := (rStep r.S (rBit r.Control 4)), Waits := (rPeek r r_Mem r_Men r_Screen r_Chosen (i64.wrap ((Int.tmod (rBits r.S.V) 16384) - 4096))), Bus := (i64.wrap ((i64.wrap ((i64.wrap (Int.tdiv r.Bus 64)) * 64)) + (rPeek r r_Mem r_Men r_Screen r_Chosen (Int.tmod (rBits r.S.V) 16384)))) } : RPic), (i64.wrap ((i64.wrap ((i64.wrap (Int.tdiv r.Bus 64)) * 64)) + (rPeek r r_Mem r_Men r_Screen r_Chosen (Int.tmod (rBits r.S.V) 16384)))))
      else
        (r, r.Bus)
theorem rGet_ok (r : RPic) (r_Mem : Nat → Int) (r_Men : Nat → Int) (r_Screen : Nat → Int) (r_Chosen : List Man) (reg : Int) (hA : 0 ≤ r.At ∧ r.At < ((256 : Nat) : Int)) (hV : 0 ≤ rBits r.S.V) : FnSpec Try.prog 18 1005 [.pointer (some ⟨1000, 0, none⟩), .int .i64 reg] [(1000, (RPic.bl r (.slice (some ⟨1001, 0, (some 0)⟩) 16384 1) (.slice (some ⟨1002, 0, (some 0)⟩) 256 1) (.slice (some ⟨1004, 0, (some 0)⟩) (List.length r_Chosen) 4) (.slice (some ⟨1003, 0, (some 0)⟩) 61440 1) false)), (1001, ⟨[.ints .u8 16384 r_Mem], 5, false⟩), (1002, ⟨[.ints .u8 256 r_Men], 5, false⟩), (1003, ⟨[.ints .u8 61440 r_Screen], 5, false⟩), (1004, ⟨[rowsL Man.cells Man.nil 4 r_Chosen], 119, false⟩)] (.int .i64 ((rGet r r_Mem r_Men r_Screen r_Chosen reg).2)) [(1000, (RPic.bl ((rGet r r_Mem r_Men r_Screen r_Chosen reg).1) (.slice (some ⟨1001, 0, (some 0)⟩) 16384 1) (.slice (some ⟨1002, 0, (some 0)⟩) 256 1) (.slice (some ⟨1004, 0, (some 0)⟩) (List.length r_Chosen) 4) (.slice (some ⟨1003, 0, (some 0)⟩) 61440 1) false)), (1001, ⟨[.ints .u8 16384 r_Mem], 5, false⟩), (1002, ⟨[.ints .u8 256 r_Men], 5, false⟩), (1003, ⟨[.ints .u8 61440 r_Screen], 5, false⟩), (1004, ⟨[rowsL Man.cells Man.nil 4 r_Chosen], 119, false⟩)] := by
  unfold rGet
  rcases bt ((Int.tmod reg 8) == 2) with c1 | c1
  · rw [if_pos c1]
    rcases bt r.Blank with c2 | c2
    · rw [if_pos c2]
      rcases bt r.Hit with c3 | c3
      · rw [if_pos c3]
        rcases bt r.Many with c4 | c4
        · rw [if_pos c4]
          exact fn_of_x hG hM Try.func18 (by kernel_rfl) (by kernel_rfl) 400 [.yes, .yes, .yes, .yes] (J (by decide : ((8 : Int) ≠ 0)) (J c1 (J (by decide : ((32 : Int) ≠ 0)) (J c2 (J c3 (J c4 trivial)))))) (by kernel_rfl)
        · rw [if_neg (nt c4)]
          exact fn_of_x hG hM Try.func18 (by kernel_rfl) (by kernel_rfl) 400 [.yes, .yes, .yes, .no] (J (by decide : ((8 : Int) ≠ 0)) (J c1 (J (by decide : ((32 : Int) ≠ 0)) (J c2 (J c3 (J c4 trivial)))))) (by kernel_rfl)
      · rw [if_neg (nt c3)]
        rcases bt r.Many with c4 | c4
        · rw [if_pos c4]
          exact fn_of_x hG hM Try.func18 (by kernel_rfl) (by kernel_rfl) 400 [.yes, .yes, .no, .yes] (J (by decide : ((8 : Int) ≠ 0)) (J c1 (J (by decide : ((32 : Int) ≠ 0)) (J c2 (J c3 (J c4 trivial)))))) (by kernel_rfl)
        · rw [if_neg (nt c4)]
          exact fn_of_x hG hM Try.func18 (by kernel_rfl) (by kernel_rfl) 400 [.yes, .yes, .no, .no] (J (by decide : ((8 : Int) ≠ 0)) (J c1 (J (by decide : ((32 : Int) ≠ 0)) (J c2 (J c3 (J c4 trivial)))))) (by kernel_rfl)
    · rw [if_neg (nt c2)]
      rcases bt r.Hit with c3 | c3
      · rw [if_pos c3]
        rcases bt r.Many with c4 | c4
        · rw [if_pos c4]
          exact fn_of_x hG hM Try.func18 (by kernel_rfl) (by kernel_rfl) 400 [.yes, .no, .yes, .yes] (J (by decide : ((8 : Int) ≠ 0)) (J c1 (J (by decide : ((32 : Int) ≠ 0)) (J c2 (J c3 (J c4 trivial)))))) (by kernel_rfl)
        · rw [if_neg (nt c4)]
          exact fn_of_x hG hM Try.func18 (by kernel_rfl) (by kernel_rfl) 400 [.yes, .no, .yes, .no] (J (by decide : ((8 : Int) ≠ 0)) (J c1 (J (by decide : ((32 : Int) ≠ 0)) (J c2 (J c3 (J c4 trivial)))))) (by kernel_rfl)
      · rw [if_neg (nt c3)]
        rcases bt r.Many with c4 | c4
        · rw [if_pos c4]
          exact fn_of_x hG hM Try.func18 (by kernel_rfl) (by kernel_rfl) 400 [.yes, .no, .no, .yes] (J (by decide : ((8 : Int) ≠ 0)) (J c1 (J (by decide : ((32 : Int) ≠ 0)) (J c2 (J c3 (J c4 trivial)))))) (by kernel_rfl)
        · rw [if_neg (nt c4)]
          exact fn_of_x hG hM Try.func18 (by kernel_rfl) (by kernel_rfl) 400 [.yes, .no, .no, .no] (J (by decide : ((8 : Int) ≠ 0)) (J c1 (J (by decide : ((32 : Int) ≠ 0)) (J c2 (J c3 (J c4 trivial)))))) (by kernel_rfl)
  · rw [if_neg (nt c1)]
    rcases bt ((Int.tmod reg 8) == 4) with c2 | c2
    · rw [if_pos c2]
      rcases bt ((Int.tmod r.At 4) == 2) with c3 | c3
      · rw [if_pos c3]
        exact fn_of_x hG hM Try.func18 (by kernel_rfl) (by kernel_rfl) 400 [.no, .yes, .sym, .yes] (J (by decide : ((8 : Int) ≠ 0)) (J c1 (J c2 (J hA (J (show (Int.toNat r.At) < 256 from at_lt hA) (J (by decide : ((4 : Int) ≠ 0)) (J c3 (J (by decide : ((32 : Int) ≠ 0)) (J (by decide : ((4 : Int) ≠ 0)) trivial))))))))) (by kernel_rfl)
      · rw [if_neg (nt c3)]
        exact fn_of_x hG hM Try.func18 (by kernel_rfl) (by kernel_rfl) 400 [.no, .yes, .sym, .no] (J (by decide : ((8 : Int) ≠ 0)) (J c1 (J c2 (J hA (J (show (Int.toNat r.At) < 256 from at_lt hA) (J (by decide : ((4 : Int) ≠ 0)) (J c3 trivial))))))) (by kernel_rfl)
    · rw [if_neg (nt c2)]
      rcases bt ((Int.tmod reg 8) == 7) with c3 | c3
      · rw [if_pos c3]
        rcases bt (decide ((Int.tmod (rBits r.S.V) 16384) < 16128)) with c4 | c4
        · rw [if_pos c4]
          exact fn_of_x hG hM Try.func18 (by kernel_rfl) (by kernel_rfl) 400 [.no, .no, .yes, .call [] [] 1000 (.int .i64 (rBits r.S.V)) [], .yes, .callr [(1000, 1000), (1001, 1001), (1002, 1002), (1003, 1003), (1004, 1004)] [1000, 1001, 1002, 1003, 1004] [] 1005 (.int .i64 (rPeek r r_Mem r_Men r_Screen r_Chosen (Int.tmod (rBits r.S.V) 16384))) [], .call [] [] 1000 (.bool (rBit r.Control 4)) [], .call [] [] 1000 (RScroll.enc (rStep r.S (rBit r.Control 4))) []] (J (by decide : ((8 : Int) ≠ 0)) (J c1 (J c2 (J c3 (J (rBits_ok r.S.V) (J (by decide : ((16384 : Int) ≠ 0)) (J c4 (J (rPeek_ok r r_Mem r_Men r_Screen r_Chosen (Int.tmod (rBits r.S.V) 16384) (show 0 ≤ (Int.tmod (rBits r.S.V) 16384) from tm_pos 16384 hV)) (J (rBit_ok r.Control 4 (by decide : (4 : Int) ≠ 0)) (J (rStep_ok r.S (rBit r.Control 4)) trivial)))))))))) (by kernel_rfl)
        · rw [if_neg (nt c4)]
          exact fn_of_x hG hM Try.func18 (by kernel_rfl) (by kernel_rfl) 400 [.no, .no, .yes, .call [] [] 1000 (.int .i64 (rBits r.S.V)) [], .no, .callr [(1000, 1000), (1001, 1001), (1002, 1002), (1003, 1003), (1004, 1004)] [1000, 1001, 1002, 1003, 1004] [] 1005 (.int .i64 (rPeek r r_Mem r_Men r_Screen r_Chosen (Int.tmod (rBits r.S.V) 16384))) [], .callr [(1000, 1000), (1001, 1001), (1002, 1002), (1003, 1003), (1004, 1004)] [1000, 1001, 1002, 1003, 1004] [] 1005 (.int .i64 (rPeek r r_Mem r_Men r_Screen r_Chosen (i64.wrap ((Int.tmod (rBits r.S.V) 16384) - 4096)))) [], .call [] [] 1000 (.bool (rBit r.Control 4)) [], .call [] [] 1000 (RScroll.enc (rStep r.S (rBit r.Control 4))) []] (J (by decide : ((8 : Int) ≠ 0)) (J c1 (J c2 (J c3 (J (rBits_ok r.S.V) (J (by decide : ((16384 : Int) ≠ 0)) (J c4 (J (by decide : ((64 : Int) ≠ 0)) (J (rPeek_ok r r_Mem r_Men r_Screen r_Chosen (Int.tmod (rBits r.S.V) 16384) (show 0 ≤ (Int.tmod (rBits r.S.V) 16384) from tm_pos 16384 hV)) (J (rPeek_ok r r_Mem r_Men r_Screen r_Chosen (i64.wrap ((Int.tmod (rBits r.S.V) 16384) - 4096)) (show 0 ≤ (i64.wrap ((Int.tmod (rBits r.S.V) 16384) - 4096)) from tm_less hV c4)) (J (rBit_ok r.Control 4 (by decide : (4 : Int) ≠ 0)) (J (rStep_ok r.S (rBit r.Control 4)) trivial)))))))))))) (by kernel_rfl)
      · rw [if_neg (nt c3)]
        exact fn_of_x hG hM Try.func18 (by kernel_rfl) (by kernel_rfl) 400 [.no, .no, .no] (J (by decide : ((8 : Int) ≠ 0)) (J c1 (J c2 (J c3 trivial)))) (by kernel_rfl)
end Go.Proofs.Ytgnhhnmpeklciaa
namespace Go.Proofs.Ytgnhhnmpeklciaa
open Go VX
open Go.IntKind (i64 u8 u16)
set_option linter.unusedVariables false
set_option linter.unusedSimpArgs false
set_option maxRecDepth 100000
set_option maxHeartbeats 4000000
def both (p : Pic) (r : RPic) (r_Mem : Nat → Int) (r_Men : Nat → Int) (r_Screen : Nat → Int) (reg : Int) (b : Int) (p_chosen : List Sprite) (r_Chosen : List Man) : Pic × RPic × (Nat → Int) × (Nat → Int) :=
  ((pPut p p_chosen reg b), (rPut r r_Mem r_Men r_Screen r_Chosen (i64.wrap reg) (i64.wrap b)).1, (rPut r r_Mem r_Men r_Screen r_Chosen (i64.wrap reg) (i64.wrap b)).2.1, (rPut r r_Mem r_Men r_Screen r_Chosen (i64.wrap reg) (i64.wrap b)).2.2)
theorem both_ok (p : Pic) (r : RPic) (r_Mem : Nat → Int) (r_Men : Nat → Int) (r_Screen : Nat → Int) (reg : Int) (b : Int) (p_chosen : List Sprite) (r_Chosen : List Man) (w_p : Pic.ok p) (hA : 0 ≤ r.At ∧ r.At < ((256 : Nat) : Int)) (hV : 0 ≤ rBits r.S.V) : FnSpec Try.prog 16 1007 [.pointer (some ⟨1000, 0, none⟩), .pointer (some ⟨1001, 0, none⟩), .int .u8 reg, .int .u8 b] [(1000, (Pic.bl p (.slice (some ⟨1005, 0, (some 0)⟩) (List.length p_chosen) 5) false)), (1001, (RPic.bl r (.slice (some ⟨1002, 0, (some 0)⟩) 16384 1) (.slice (some ⟨1003, 0, (some 0)⟩) 256 1) (.slice (some ⟨1006, 0, (some 0)⟩) (List.length r_Chosen) 4) (.slice (some ⟨1004, 0, (some 0)⟩) 61440 1) false)), (1002, ⟨[.ints .u8 16384 r_Mem], 5, false⟩), (1003, ⟨[.ints .u8 256 r_Men], 5, false⟩), (1004, ⟨[.ints .u8 61440 r_Screen], 5, false⟩), (1005, ⟨[rowsL Sprite.cells Sprite.nil 5 p_chosen], 92, false⟩), (1006, ⟨[rowsL Man.cells Man.nil 4 r_Chosen], 119, false⟩)] (.tuple ⟨[]⟩) [(1000, (Pic.bl ((both p r r_Mem r_Men r_Screen reg b p_chosen r_Chosen).1) (.slice (some ⟨1005, 0, (some 0)⟩) (List.length p_chosen) 5) false)), (1001, (RPic.bl ((both p r r_Mem r_Men r_Screen reg b p_chosen r_Chosen).2.1) (.slice (some ⟨1002, 0, (some 0)⟩) 16384 1) (.slice (some ⟨1003, 0, (some 0)⟩) 256 1) (.slice (some ⟨1006, 0, (some 0)⟩) (List.length r_Chosen) 4) (.slice (some ⟨1004, 0, (some 0)⟩) 61440 1) false)), (1002, ⟨[.ints .u8 16384 ((both p r r_Mem r_Men r_Screen reg b p_chosen r_Chosen).2.2.1)], 5, false⟩), (1003, ⟨[.ints .u8 256 ((both p r r_Mem r_Men r_Screen reg b p_chosen r_Chosen).2.2.2)], 5, false⟩), (1004, ⟨[.ints .u8 61440 r_Screen], 5, false⟩), (1005, ⟨[rowsL Sprite.cells Sprite.nil 5 p_chosen], 92, false⟩), (1006, ⟨[rowsL Man.cells Man.nil 4 r_Chosen], 119, false⟩)] := by
  unfold both
  exact fn_of_x hG hM Try.func16 (by kernel_rfl) (by kernel_rfl) 400 [.call [(1000, 1000), (1005, 1001)] [] 1002 (.tuple ⟨[]⟩) [(1000, (Pic.bl (pPut p p_chosen reg b) (.slice (some ⟨1001, 0, (some 0)⟩) (List.length p_chosen) 5) false)), (1001, ⟨[rowsL Sprite.cells Sprite.nil 5 p_chosen], 92, false⟩)], .call [(1001, 1000), (1002, 1001), (1003, 1002), (1004, 1003), (1006, 1004)] [] 1005 (.tuple ⟨[]⟩) [(1000, (RPic.bl ((rPut r r_Mem r_Men r_Screen r_Chosen (i64.wrap reg) (i64.wrap b)).1) (.slice (some ⟨1001, 0, (some 0)⟩) 16384 1) (.slice (some ⟨1002, 0, (some 0)⟩) 256 1) (.slice (some ⟨1004, 0, (some 0)⟩) (List.length r_Chosen) 4) (.slice (some ⟨1003, 0, (some 0)⟩) 61440 1) false)), (1001, ⟨[.ints .u8 16384 ((rPut r r_Mem r_Men r_Screen r_Chosen (i64.wrap reg) (i64.wrap b)).2.1)], 5, false⟩), (1002, ⟨[.ints .u8 256 ((rPut r r_Mem r_Men r_Screen r_Chosen (i64.wrap reg) (i64.wrap b)).2.2)], 5, false⟩), (1003, ⟨[.ints .u8 61440 r_Screen], 5, false⟩), (1004, ⟨[rowsL Man.cells Man.nil 4 r_Chosen], 119, false⟩)]] (J (pPut_ok p p_chosen reg b w_p) (J (rPut_ok r r_Mem r_Men r_Screen r_Chosen (i64.wrap reg) (i64.wrap b) hA hV) trivial)) (by kernel_rfl)
theorem both_w1 (p : Pic) (r : RPic) (r_Mem : Nat → Int) (r_Men : Nat → Int) (r_Screen : Nat → Int) (reg : Int) (b : Int) (p_chosen : List Sprite) (r_Chosen : List Man) (w_p : Pic.ok p) (w_r_Mem : ∀ j, rng 256 (r_Mem j)) (w_r_Men : ∀ j, rng 256 (r_Men j)) (w_r_Screen : ∀ j, rng 256 (r_Screen j)) (w_reg : rng 256 reg) (w_b : rng 256 b) (hA : 0 ≤ r.At ∧ r.At < ((256 : Nat) : Int)) (hV : 0 ≤ rBits r.S.V) : Pic.ok (both p r r_Mem r_Men r_Screen reg b p_chosen r_Chosen).1 := by
  unfold both
  exact (pPut_w p p_chosen reg b w_p w_reg w_b)
end Go.Proofs.Ytgnhhnmpeklciaa
namespace Go.Proofs.Ytgnhhnmpeklciaa
open Go VX
open Go.IntKind (i64 u8 u16)
set_option linter.unusedVariables false
set_option linter.unusedSimpArgs false
set_option maxRecDepth 100000
inductive cutW_L1 (N_p : Nat) (d_p : Nat) (p : Nat → Int) (most : Int) (xd : (List Int) × Int) : ((List Int) × Int) ⊕ ((List Int) × Int) → Prop
  | p1 (d1 : (decide (xd.2 < ((N_p : Nat) : Int))) = true) (w1d : 0 ≤ xd.2) (d2 : (decide (xd.2 < most)) = true) (w2d : (List.length xd.1) + 1 ≤ 1048576) : cutW_L1 N_p d_p p most xd (.inl ((xd.1 ++ [(p (Int.toNat xd.2))]), (i64.wrap (xd.2 + 1))))
  | p2 (d1 : (decide (xd.2 < ((N_p : Nat) : Int))) = true) (w1d : 0 ≤ xd.2) (d2 : (decide (xd.2 < most)) = false) : cutW_L1 N_p d_p p most xd (.inl (xd.1, (i64.wrap (xd.2 + 1))))
  | p3 (d1 : (decide (xd.2 < ((N_p : Nat) : Int))) = false) : cutW_L1 N_p d_p p most xd (.inr (xd.1, xd.2))
def cutW_L1_T (N_p : Nat) (d_p : Nat) (p : Nat → Int) (most : Int) (xd : (List Int) × Int) : Tm := [(1, .int .i64 most), (4, .slice none 0 0), (5, .slice (some ⟨1001, 0, (some 0)⟩) (List.length xd.1) 1), (8, .slice (some ⟨1000, 0, (some d_p)⟩) N_p 0), (9, .int .i64 ((N_p : Nat) : Int)), (10, .int .i64 xd.2)]
def cutW_L1_H (N_p : Nat) (d_p : Nat) (p : Nat → Int) (most : Int) (xd : (List Int) × Int) : Heap := [(1000, ⟨[.gap d_p, .ints .u8 N_p p], 5, true⟩), (1001, ⟨[intsL .u8 xd.1], 5, false⟩)]
def cutW_L1_T1 (N_p : Nat) (d_p : Nat) (p : Nat → Int) (most : Int) (y_ : (List Int) × Int) : Tm := cutW_L1_T N_p d_p p most y_
def cutW_L1_H1 (N_p : Nat) (d_p : Nat) (p : Nat → Int) (most : Int) (y_ : (List Int) × Int) : Heap := cutW_L1_H N_p d_p p most y_
def cutW_L1_ex (_ : (List Int) × Int) : Ex := .exit 0
theorem cutW_L1_p1 (N_p : Nat) (d_p : Nat) (p : Nat → Int) (most : Int) (xd : (List Int) × Int) (d1 : (decide (xd.2 < ((N_p : Nat) : Int))) = true) (w1d : 0 ≤ xd.2) (d2 : (decide (xd.2 < most)) = true) (w2d : (List.length xd.1) + 1 ≤ 1048576) : RunsM Try.prog 24 (bodyOf Try.f13 [1, 1, 0, 1, 0, 0]) 1001 (cutW_L1_T N_p d_p p most xd) (cutW_L1_H N_p d_p p most xd) 1002 .normal (cutW_L1_T N_p d_p p most ((xd.1 ++ [(p (Int.toNat xd.2))]), (i64.wrap (xd.2 + 1)))) (cutW_L1_H N_p d_p p most ((xd.1 ++ [(p (Int.toNat xd.2))]), (i64.wrap (xd.2 + 1)))) 1002 := by
  have o1 : 0 ≤ xd.2 ∧ xd.2 < ((N_p : Nat) : Int) := by first | decide | omega | (simp only [decide_eq_true_eq, decide_eq_false_iff_not, rng, IntKind.wrap_i64, IntKind.wrap_u8, IntKind.wrap_u16] at *; omega)
  have o2 : (Int.toNat xd.2) < N_p := by first | decide | omega | (simp only [decide_eq_true_eq, decide_eq_false_iff_not, rng, IntKind.wrap_i64, IntKind.wrap_u8, IntKind.wrap_u16] at *; omega)
  exact runsM_of_x hG hM 400 1001 [.yes, .sym, .yes, .eq 21 (.slice (some ⟨1003, 0, (some 0)⟩) (List.length (xd.1 ++ [(p (Int.toNat xd.2))])) 1), .list [intsL .u8 (xd.1 ++ [(p (Int.toNat xd.2))])]] [(1000, 1000), (1003, 1001)] (J d1 (J o1 (J (Eq.refl d_p) (J o2 (J d2 (J (sl_snoc 1003 1 xd.1 (p (Int.toNat xd.2))) (J (intsL_snoc (k := .u8) xd.1 (p (Int.toNat xd.2))) (J w2d (J (ints_size .u8 5 false xd.1) trivial))))))))) (by kernel_rfl)
theorem cutW_L1_p2 (N_p : Nat) (d_p : Nat) (p : Nat → Int) (most : Int) (xd : (List Int) × Int) (d1 : (decide (xd.2 < ((N_p : Nat) : Int))) = true) (w1d : 0 ≤ xd.2) (d2 : (decide (xd.2 < most)) = false) : RunsM Try.prog 24 (bodyOf Try.f13 [1, 1, 0, 1, 0, 0]) 1001 (cutW_L1_T N_p d_p p most xd) (cutW_L1_H N_p d_p p most xd) 1002 .normal (cutW_L1_T N_p d_p p most (xd.1, (i64.wrap (xd.2 + 1)))) (cutW_L1_H N_p d_p p most (xd.1, (i64.wrap (xd.2 + 1)))) 1002 := by
  have o1 : 0 ≤ xd.2 ∧ xd.2 < ((N_p : Nat) : Int) := by first | decide | omega | (simp only [decide_eq_true_eq, decide_eq_false_iff_not, rng, IntKind.wrap_i64, IntKind.wrap_u8, IntKind.wrap_u16] at *; omega)
  have o2 : (Int.toNat xd.2) < N_p := by first | decide | omega | (simp only [decide_eq_true_eq, decide_eq_false_iff_not, rng, IntKind.wrap_i64, IntKind.wrap_u8, IntKind.wrap_u16] at *; omega)
  exact runsM_of_x hG hM 400 1001 [.yes, .sym, .no] [(1000, 1000), (1001, 1001)] (J d1 (J o1 (J (Eq.refl d_p) (J o2 (J d2 trivial))))) (by kernel_rfl)
theorem cutW_L1_p3 (N_p : Nat) (d_p : Nat) (p : Nat → Int) (most : Int) (xd : (List Int) × Int) (d1 : (decide (xd.2 < ((N_p : Nat) : Int))) = false) : RunsM Try.prog 24 (bodyOf Try.f13 [1, 1, 0, 1, 0, 0]) 1001 (cutW_L1_T N_p d_p p most xd) (cutW_L1_H N_p d_p p most xd) 1002 (.exit 0) (cutW_L1_T1 N_p d_p p most (xd.1, xd.2)) (cutW_L1_H1 N_p d_p p most (xd.1, xd.2)) 1002 := by
  exact runsM_of_x hG hM 400 1001 [.no] [(1000, 1000), (1001, 1001)] (J d1 trivial) (by kernel_rfl)
theorem cutW_L1_runs (N_p : Nat) (d_p : Nat) (p : Nat → Int) (most : Int) (x_ : (List Int) × Int) (y_ : (List Int) × Int) (h_ : LoopR (cutW_L1 N_p d_p p most) x_ y_) : RunsM Try.prog 24 (.block 0 (.loop (bodyOf Try.f13 [1, 1, 0, 1, 0, 0]))) 1001 (cutW_L1_T N_p d_p p most x_) (cutW_L1_H N_p d_p p most x_) 1002 (outOf 0 (cutW_L1_ex y_)) (cutW_L1_T1 N_p d_p p most y_) (cutW_L1_H1 N_p d_p p most y_) 1002 := by
  refine block_loopM hG (cutW_L1 N_p d_p p most) (cutW_L1_T N_p d_p p most) (cutW_L1_H N_p d_p p most) cutW_L1_ex (cutW_L1_T1 N_p d_p p most) (cutW_L1_H1 N_p d_p p most) ?_ ?_ ?_ x_ y_ h_
  · intro s r _ hr; cases hr
  · intro xd y_ hx
    cases hx with
    | p1 d1 w1d d2 w2d => exact cutW_L1_p1 N_p d_p p most xd d1 w1d d2 w2d
    | p2 d1 w1d d2 => exact cutW_L1_p2 N_p d_p p most xd d1 w1d d2
  · intro xd y_ hx
    cases hx with
    | p3 d1 => exact cutW_L1_p3 N_p d_p p most xd d1
theorem cutW_p1 (N_p : Nat) (d_p : Nat) (p : Nat → Int) (most : Int) (r1 : (List Int) × Int) (l1 : LoopR (cutW_L1 N_p d_p p most) ([], 0) r1) : FnSpec Try.prog 13 1001 [.slice (some ⟨1000, 0, (some d_p)⟩) N_p 0, .int .i64 most] [(1000, ⟨[.gap d_p, .ints .u8 N_p p], 5, true⟩)] (.slice (some ⟨1001, 0, (some 0)⟩) (List.length r1.1) 1) [(1001, ⟨[intsL .u8 r1.1], 5, false⟩)] := by
  exact fn_ren (v := .slice (some ⟨1001, 0, (some 0)⟩) (List.length r1.1) 1) (H1 := [(1001, ⟨[intsL .u8 r1.1], 5, false⟩)]) (fn_of_x hG hM Try.func13 (by kernel_rfl) (by kernel_rfl) 400 [.segk 1 0 [1, 4, 5, 8, 9, 10] [1000] .normal (cutW_L1_T1 N_p d_p p most r1) (cutW_L1_H1 N_p d_p p most r1) 1002] (J (runs_of_pre hG (cutW_L1_runs N_p d_p p most ([], 0) r1 l1) [(1000, 1000)] (T := [(1, .int .i64 most), (4, .slice none 0 0), (5, .slice none 0 0), (8, .slice (some ⟨1000, 0, (some d_p)⟩) N_p 0), (9, .int .i64 ((N_p : Nat) : Int)), (10, .int .i64 0)]) (H := [(1000, ⟨[.gap d_p, .ints .u8 N_p p], 5, true⟩)]) (by kernel_rfl)) trivial) (by kernel_rfl)) [(1001, 1001)] 1002 (by kernel_rfl)
end Go.Proofs.Ytgnhhnmpeklciaa
