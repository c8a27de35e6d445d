/-
  The picture: all its lines: the Go function comes to this. No condition.
-/
import Derived.Test.YtgnhhnmpeklciaaRB
import Derived.Test.YtgnhhnmpeklciaaQB
namespace Go.Proofs.Ytgnhhnmpeklciaa
open Go VX
set_option linter.unusedVariables false
set_option linter.unusedSimpArgs false
set_option maxRecDepth 100000

def scrL (f : Nat → Int) : Nat → List Int
  | 0 => []
  | n + 1 => scrL f n ++ rowL f (n * 256 + 0) 256
theorem scrL_len (f : Nat → Int) : ∀ n, (scrL f n).length = 256 * n
  | 0 => rfl
  | n + 1 => by show (scrL f n ++ rowL f (n * 256 + 0) 256).length = _; rw [List.length_append, rowL_len, scrL_len f n]; omega
def pScreenF (p : Pic) (L : List Sprite) : List Int := scrL p.screen 240
theorem scrL_succ (f : Nat → Int) (k : Nat) : scrL f (k + 1) = scrL f k ++ rowL f (Int.toNat (k : Int) * 256 + 0) 256 := by rw [Int.toNat_natCast]; rfl
theorem screen_loop (p : Pic) (L : List Sprite) : ∀ (c k : Nat), k + c = 240 → ∃ r, LoopR (wScreen_L1 p L) (scrL p.screen k, (k : Int)) r ∧ r.1 = scrL p.screen (k + c)
  | 0, k, h => ⟨_, .last (.p2 (decide_eq_false (by show ¬ ((k : Int) < 240); omega))), rfl⟩
  | c + 1, k, h => by
    obtain ⟨r, t, e⟩ := screen_loop p L c (k + 1) (by omega)
    refine ⟨r, .more (s' := (scrL p.screen (k + 1), ((k + 1 : Nat) : Int))) ?_ t, by rw [e, show k + 1 + c = k + (c + 1) by omega]⟩
    have st := wScreen_L1.p1 (p := p) (p_chosen := L) (xd := (scrL p.screen k, (k : Int))) (decide_eq_true (by show (k : Int) < 240; omega)) (by show 0 ≤ (k : Int); omega) (by show (scrL p.screen k).length + 256 ≤ _; rw [scrL_len]; omega)
    rw [show IntKind.i64.wrap (((scrL p.screen k, (k : Int)) : List Int × Int).2 + 1) = ((k + 1 : Nat) : Int) from by show IntKind.i64.wrap ((k : Int) + 1) = _; rw [i64_in2 (by omega) (by omega)]; omega] at st
    rw [scrL_succ]
    exact st
theorem pScreenF_ok (p : Pic) (p_chosen : List Sprite) : FnSpec Try.prog 33 1002 [.pointer (some ⟨1000, 0, none⟩)] [(1000, (Pic.bl p (.slice (some ⟨1001, 0, (some 0)⟩) (List.length p_chosen) 5) false)), (1001, ⟨[rowsL Sprite.cells Sprite.nil 5 p_chosen], 92, false⟩)] (.slice (some ⟨1002, 0, (some 0)⟩) (List.length (pScreenF p p_chosen)) 1) [(1000, (Pic.bl p (.slice (some ⟨1001, 0, (some 0)⟩) (List.length p_chosen) 5) false)), (1001, ⟨[rowsL Sprite.cells Sprite.nil 5 p_chosen], 92, false⟩), (1002, ⟨[intsL .u8 (pScreenF p p_chosen)], 5, false⟩)] :=
  by
  obtain ⟨r, t, e⟩ := screen_loop p p_chosen 240 0 (by omega)
  have h := wScreen_p1 p p_chosen r t
  rw [e] at h
  exact h
theorem screen_pos (p : Pic) (L : List Sprite) : 0 < List.length (pScreenF p L) := by show 0 < (scrL p.screen 240).length; rw [scrL_len]; omega
end Go.Proofs.Ytgnhhnmpeklciaa
