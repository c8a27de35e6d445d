/-
  The laws of layer 12, begun: the document's example. Written by gen_sound.py. No condition.
-/
import Derived.Test.YtgpcfjokmonlgaaDoorSQ
namespace Go.Proofs.YtgpcfjokmonlgaaDoor
open Go VX
set_option linter.unusedVariables false
set_option linter.unusedSimpArgs false
set_option maxRecDepth 100000

/-- kotatsu/kotatsulaw12.awake -/
def awake  : Bool :=
  (((sOut sNew) : Int) == 12765)
theorem awake_p1  : FnSpec Tryd.prog 10 1000 [] [tb0, tb3] (.bool (((sOut sNew) : Int) == 12765)) [] := by
  exact fn_of_x hG hM Tryd.func10 (by kernel_rfl) (by kernel_rfl) 400 [.call [(0, 0)] [(1000, 1000), (1001, 1001), (1002, 1002), (1003, 1003), (1004, 1004)] 1000 (.pointer (some ⟨1000, 0, none⟩)) (Snd.H 1000 1001 1002 1003 1004 sNew), .callr [(3, 3), (1000, 1000), (1001, 1001), (1002, 1002), (1003, 1003), (1004, 1004)] [1000, 1001, 1002, 1003, 1004] [] 1005 (.int .i64 (sOut sNew)) []] (J (sNew_ok) (J (sOut_ok sNew (sNew_w)) trivial)) (by kernel_rfl)
theorem awake_ok  : FnSpec Tryd.prog 10 1000 [] [tb0, tb3] (.bool awake) [] := by
  exact awake_p1 

/-- kotatsu/kotatsuref11.Length -/
def rLength (n : Int) : Int :=
  if (((Int.tmod n 2) : Int) == 1) = true then
    (List.getD ([254, 2, 4, 6, 8, 10, 12, 14, 16, 18, 20, 22, 24, 26, 28, 30] : List Int) (Int.toNat (IntKind.i64.wrap (Int.tdiv n 2))) 0)
  else
    if (decide ((n : Int) < 16)) = true then
      (List.getD ([10, 20, 40, 80, 160, 60, 14, 26] : List Int) (Int.toNat (IntKind.i64.wrap (Int.tdiv n 2))) 0)
    else
      (List.getD ([12, 24, 48, 96, 192, 72, 16, 32] : List Int) (Int.toNat (IntKind.i64.wrap ((IntKind.i64.wrap (Int.tdiv n 2)) - 8))) 0)
theorem rLength_p1 (n : Int) (hn : 0 ≤ n ∧ n < 32) (c1 : (((Int.tmod n 2) : Int) == 1) = true) : FnSpec Tryd.prog 13 1000 [.int .i64 n] [] (.int .i64 (List.getD ([254, 2, 4, 6, 8, 10, 12, 14, 16, 18, 20, 22, 24, 26, 28, 30] : List Int) (Int.toNat (IntKind.i64.wrap (Int.tdiv n 2))) 0)) [] := by
  have o1 : 0 ≤ (IntKind.i64.wrap (Int.tdiv n 2)) ∧ (IntKind.i64.wrap (Int.tdiv n 2)) < ((16 : Nat) : Int) := by have e := Int.tdiv_eq_ediv_of_nonneg (b := 2) hn.1; simp only [decide_eq_true_eq, decide_eq_false_iff_not, e, IntKind.wrap_i64] at *; omega
  have o2 : (Int.toNat (IntKind.i64.wrap (Int.tdiv n 2))) < 16 := by have e := Int.tdiv_eq_ediv_of_nonneg (b := 2) hn.1; simp only [decide_eq_true_eq, decide_eq_false_iff_not, e, IntKind.wrap_i64] at *; omega
  exact fn_of_x hG hM Tryd.func13 (by kernel_rfl) (by kernel_rfl) 400 [.yes, .sym, .among 16] (J (by decide : ((2 : Int) ≠ 0)) (J c1 (J (by decide : ((2 : Int) ≠ 0)) (J o1 (J o2 trivial))))) (by kernel_rfl)
theorem rLength_p2 (n : Int) (hn : 0 ≤ n ∧ n < 32) (c1 : (((Int.tmod n 2) : Int) == 1) = false) (c2 : (decide ((n : Int) < 16)) = true) : FnSpec Tryd.prog 13 1000 [.int .i64 n] [] (.int .i64 (List.getD ([10, 20, 40, 80, 160, 60, 14, 26] : List Int) (Int.toNat (IntKind.i64.wrap (Int.tdiv n 2))) 0)) [] := by
  have o1 : 0 ≤ (IntKind.i64.wrap (Int.tdiv n 2)) ∧ (IntKind.i64.wrap (Int.tdiv n 2)) < ((8 : Nat) : Int) := by have e := Int.tdiv_eq_ediv_of_nonneg (b := 2) hn.1; simp only [decide_eq_true_eq, decide_eq_false_iff_not, e, IntKind.wrap_i64] at *; omega
  have o2 : (Int.toNat (IntKind.i64.wrap (Int.tdiv n 2))) < 8 := by have e := Int.tdiv_eq_ediv_of_nonneg (b := 2) hn.1; simp only [decide_eq_true_eq, decide_eq_false_iff_not, e, IntKind.wrap_i64] at *; omega
  exact fn_of_x hG hM Tryd.func13 (by kernel_rfl) (by kernel_rfl) 400 [.no, .yes, .sym, .among 8] (J (by decide : ((2 : Int) ≠ 0)) (J c1 (J c2 (J (by decide : ((2 : Int) ≠ 0)) (J o1 (J o2 trivial)))))) (by kernel_rfl)
theorem rLength_p3 (n : Int) (hn : 0 ≤ n ∧ n < 32) (c1 : (((Int.tmod n 2) : Int) == 1) = false) (c2 : (decide ((n : Int) < 16)) = false) : FnSpec Tryd.prog 13 1000 [.int .i64 n] [] (.int .i64 (List.getD ([12, 24, 48, 96, 192, 72, 16, 32] : List Int) (Int.toNat (IntKind.i64.wrap ((IntKind.i64.wrap (Int.tdiv n 2)) - 8))) 0)) [] := by
  have o1 : 0 ≤ (IntKind.i64.wrap ((IntKind.i64.wrap (Int.tdiv n 2)) - 8)) ∧ (IntKind.i64.wrap ((IntKind.i64.wrap (Int.tdiv n 2)) - 8)) < ((8 : Nat) : Int) := by have e := Int.tdiv_eq_ediv_of_nonneg (b := 2) hn.1; simp only [decide_eq_true_eq, decide_eq_false_iff_not, e, IntKind.wrap_i64] at *; omega
  have o2 : (Int.toNat (IntKind.i64.wrap ((IntKind.i64.wrap (Int.tdiv n 2)) - 8))) < 8 := by have e := Int.tdiv_eq_ediv_of_nonneg (b := 2) hn.1; simp only [decide_eq_true_eq, decide_eq_false_iff_not, e, IntKind.wrap_i64] at *; omega
  exact fn_of_x hG hM Tryd.func13 (by kernel_rfl) (by kernel_rfl) 400 [.no, .no, .sym, .among 8] (J (by decide : ((2 : Int) ≠ 0)) (J c1 (J c2 (J (by decide : ((2 : Int) ≠ 0)) (J o1 (J o2 trivial)))))) (by kernel_rfl)
theorem rLength_ok (n : Int) (hn : 0 ≤ n ∧ n < 32) : FnSpec Tryd.prog 13 1000 [.int .i64 n] [] (.int .i64 (rLength n)) [] := by
  rcases bt (((Int.tmod n 2) : Int) == 1) with c1 | c1
  ·
    rw [rLength, if_pos c1]
    exact rLength_p1 n hn c1
  ·
    rcases bt (decide ((n : Int) < 16)) with c2 | c2
    ·
      rw [rLength, if_neg (nt c1), if_pos c2]
      exact rLength_p2 n hn c1 c2
    ·
      rw [rLength, if_neg (nt c1), if_neg (nt c2)]
      exact rLength_p3 n hn c1 c2

end Go.Proofs.YtgpcfjokmonlgaaDoor
