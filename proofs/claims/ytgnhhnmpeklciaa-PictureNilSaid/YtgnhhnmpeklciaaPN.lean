/-
  The picture: awake. No condition.
-/
import Derived.Test.YtgnhhnmpeklciaaPL
import Derived.Test.YtgnhhnmpeklciaaPM
namespace Go.Proofs.Ytgnhhnmpeklciaa
open Go VX
set_option linter.unusedVariables false
set_option linter.unusedSimpArgs false
set_option maxRecDepth 100000

/-- The dot at which it becomes blank. -/
theorem clock_B (fr fl : Int) (h0 : 0 ≤ fr) (h1 : fr < 900000) : pClock (picS 241 1 fr fl) [] = (picS 241 2 (fr + 1) (bOr .u8 fl 128), []) := by
  have e : IntKind.i64.wrap (fr + 1) = fr + 1 := i64_in2 (by omega) (by omega)
  have eq : ({ (picS 241 1 fr fl) with flags := (bOr .u8 (picS 241 1 fr fl).flags 128), frames := (IntKind.i64.wrap ((picS 241 1 fr fl).frames + 1)) } : Pic) = picS 241 1 (fr + 1) (bOr .u8 fl 128) := by
    show (⟨_, _, _, _, _, _, _, _, _, _, _, _, _, _, _, IntKind.i64.wrap (fr + 1), _⟩ : Pic) = _
    rw [e]; rfl
  have hline : (picS 241 1 fr fl).line = 241 := rfl
  have hdot : (picS 241 1 fr fl).dot = 1 := rfl
  have hn := next_S 241 1 (fr + 1) (bOr .u8 fl 128) (by decide) (by decide) (by decide) (by decide)
  unfold pClock
  rw [if_pos (show (((picS 241 1 fr fl).line : Int) == 241) = true from rfl), if_pos (show (((picS 241 1 fr fl).dot : Int) == 1) = true from rfl)]
  simp only [eq, hn]
  split <;> rfl

/-- A picture that shows nothing, after so many dots. -/
theorem step_S (k : Nat) (hk : k < 82182) : pClock (picS ((k / 341 : Nat) : Int) ((k % 341 : Nat) : Int) 0 0) [] = (picS (((k + 1) / 341 : Nat) : Int) (((k + 1) % 341 : Nat) : Int) 0 0, []) := by
  have h := clock_S ((k / 341 : Nat) : Int) ((k % 341 : Nat) : Int) 0 0 (by omega) (by omega) (by omega) (by omega) (by omega)
  rw [h]
  by_cases hd : ((k % 341 : Nat) : Int) + 1 < 341
  · rw [if_pos hd, show (((k + 1) / 341 : Nat) : Int) = ((k / 341 : Nat) : Int) by omega, show (((k + 1) % 341 : Nat) : Int) = ((k % 341 : Nat) : Int) + 1 by omega]
  · rw [if_neg hd, show (((k + 1) / 341 : Nat) : Int) = ((k / 341 : Nat) : Int) + 1 by omega, show (((k + 1) % 341 : Nat) : Int) = 0 by omega]

theorem picS_ok (l d fr : Int) {fl : Int} (h : rng 256 fl) : Pic.ok (picS l d fr fl) :=
  ⟨zero_ok.tiles, zero_ok.names, zero_ok.colours, zero_ok.men, zero_ok.man, zero_ok.scroll, zero_ok.control, zero_ok.mask, h, zero_ok.waits, zero_ok.bus, zero_ok.screen⟩

theorem awake_loop : ∀ (n k : Nat), k + n = 82182 → LoopR wAwake_L1 ([], (k : Int), picS ((k / 341 : Nat) : Int) ((k % 341 : Nat) : Int) 0 0) ([], 82183, picS 241 2 1 (bOr .u8 0 128))
  | 0, k, h => by
    have : k = 82182 := by omega
    subst this
    have st := wAwake_L1.p1 (xd := ([], ((82182 : Nat) : Int), picS 241 1 0 0)) (decide_eq_true (by show ((82182 : Nat) : Int) < 82183; omega)) (picS_ok _ _ _ rng0) (by show (0 : Int) ≤ 241; decide) (Nat.zero_le _)
    simp only [clock_B 0 0 (by decide) (by decide)] at st
    rw [show IntKind.i64.wrap (((82182 : Nat) : Int) + 1) = 82183 from i64_in2 (by omega) (by omega)] at st
    exact .more st (.last (.p2 (decide_eq_false (by show ¬ ((82183 : Int) < 82183); omega))))
  | n + 1, k, h => by
    have st := wAwake_L1.p1 (xd := ([], (k : Int), picS ((k / 341 : Nat) : Int) ((k % 341 : Nat) : Int) 0 0)) (decide_eq_true (by show (k : Int) < 82183; omega)) (picS_ok _ _ _ rng0) (by show 0 ≤ ((k / 341 : Nat) : Int); omega) (Nat.zero_le _)
    simp only [step_S k (by omega)] at st
    rw [show IntKind.i64.wrap ((k : Int) + 1) = ((k + 1 : Nat) : Int) from by rw [i64_in2 (by omega) (by omega)]; omega] at st
    exact .more st (awake_loop n (k + 1) (by omega))

theorem awake_ok : FnSpec Try.prog 12 1000 [] [] (.bool true) [] := by
  have h := wAwake_p1 _ (awake_loop 82182 0 rfl) (picS_ok _ _ _ (rng_bOr_u8 _ _)) (by kernel_rfl)
  have e : (((pGet ((pGet (picS 241 2 1 (bOr .u8 0 128)) [] 2).1) [] 2).2 : Int) == 0) = true := by kernel_rfl
  simp only [e] at h
  exact h
end Go.Proofs.Ytgnhhnmpeklciaa
