/-
  PictureBlanks: when it is blank, and when an NMI is asked for. No condition.
-/
import Derived.Test.YtgnhhnmpeklciaaPO
import Derived.Test.YtgnhhnmpeklciaaPP
namespace Go.Proofs.Ytgnhhnmpeklciaa
open Go VX
set_option linter.unusedVariables false
set_option linter.unusedSimpArgs false
set_option maxRecDepth 100000

def frN (k : Nat) : Int := if 82183 ≤ k then 1 else 0
def flN (k : Nat) : Int := if 82183 ≤ k ∧ k < 89003 then 128 else 0
theorem or128 : bOr .u8 0 128 = 128 := by kernel_rfl

theorem q_step {p : Pic} {c : Int} {k : Nat} (hk : k < 89006) (h : Qt p [] ((k / 341 : Nat) : Int) ((k % 341 : Nat) : Int) (frN k) (flN k) c) :
    (pClock p []).2 = [] ∧ Qt (pClock p []).1 [] (((k + 1) / 341 : Nat) : Int) (((k + 1) % 341 : Nat) : Int) (frN (k + 1)) (flN (k + 1)) c := by
  have f0 : 0 ≤ frN k ∧ frN k < 900000 := by unfold frN; split <;> decide
  have q := clock_Q h (by omega) (by omega) f0 (by omega)
  have hn := q.nil
  rw [hn] at q
  refine ⟨hn, ?_⟩
  have e1 : (if ((k % 341 : Nat) : Int) + 1 < 341 then ((k / 341 : Nat) : Int) else ((k / 341 : Nat) : Int) + 1) = (((k + 1) / 341 : Nat) : Int) := by split <;> omega
  have e2 : (if ((k % 341 : Nat) : Int) + 1 < 341 then ((k % 341 : Nat) : Int) + 1 else 0) = (((k + 1) % 341 : Nat) : Int) := by split <;> omega
  have e3 : (if ((k / 341 : Nat) : Int) = 241 ∧ ((k % 341 : Nat) : Int) = 1 then frN k + 1 else frN k) = frN (k + 1) := by
    unfold frN
    repeat' split
    all_goals omega
  have e4 : (if ((k / 341 : Nat) : Int) = 241 ∧ ((k % 341 : Nat) : Int) = 1 then bOr .u8 (flN k) 128 else if ((k / 341 : Nat) : Int) = 261 ∧ ((k % 341 : Nat) : Int) = 1 then 0 else flN k) = flN (k + 1) := by
    by_cases c1 : k = 82182
    · subst c1
      rw [if_pos (by omega)]
      show bOr .u8 (if 82183 ≤ 82182 ∧ 82182 < 89003 then 128 else 0) 128 = if 82183 ≤ 82182 + 1 ∧ 82182 + 1 < 89003 then 128 else 0
      rw [if_neg (by omega), if_pos (by omega)]; exact or128
    · rw [if_neg (by omega)]
      unfold flN
      repeat' split
      all_goals first | rfl | (exfalso; omega)
  rw [e1, e2, e3, e4] at q
  exact q

theorem q_run {rel : (List Sprite) × Int × Pic → ((List Sprite) × Int × Pic) ⊕ ((List Sprite) × Int × Pic) → Prop} {T : Nat} {c : Int} (hT : T ≤ 89006)
    (st : ∀ (i : Nat) (p : Pic), i < T → Pic.ok p → 0 ≤ p.line → rel ([], (i : Int), p) (.inl ((pClock p []).2, ((i + 1 : Nat) : Int), (pClock p []).1)))
    (la : ∀ p : Pic, rel ([], (T : Int), p) (.inr ([], (T : Int), p))) : ∀ (n k : Nat) (p : Pic), k + n = T → Qt p [] ((k / 341 : Nat) : Int) ((k % 341 : Nat) : Int) (frN k) (flN k) c →
    ∃ p' : Pic, LoopR rel ([], (k : Int), p) ([], (T : Int), p') ∧ Qt p' [] ((T / 341 : Nat) : Int) ((T % 341 : Nat) : Int) (frN T) (flN T) c
  | 0, k, p, h, q => by
    have : k = T := by omega
    subst this
    exact ⟨p, .last (la p), q⟩
  | n + 1, k, p, h, q => by
    obtain ⟨h1, h2⟩ := q_step (by omega) q
    obtain ⟨p', t, q'⟩ := q_run hT st la n (k + 1) _ (by omega) h2
    have s := st k p (by omega) q.ok (by rw [q.line]; omega)
    rw [h1] at s
    exact ⟨p', .more s t, q'⟩

def getB (b : Nat) : Bool := ((bAnd .u8 (bOr .u8 128 (bAnd .u8 (b : Int) 31)) 128) != 0) && ((bAnd .u8 (bOr .u8 0 (bAnd .u8 (b : Int) 31)) 128) == 0) && ((((bAnd .u8 (b : Int) 128) != 0) != ((bAnd .u8 (bXor .u8 (b : Int) 128) 128) != 0)))
theorem get_all : allN getB 8 0 = true := by kernel_rfl
theorem get_of {b : Int} (w : rng 256 b) : (bAnd .u8 (bOr .u8 128 (bAnd .u8 b 31)) 128 ≠ 0) ∧ (bAnd .u8 (bOr .u8 0 (bAnd .u8 b 31)) 128 = 0) ∧ (((bAnd .u8 b 128) != 0) = !((bAnd .u8 (bXor .u8 b 128) 128) != 0)) := by
  have h := allN_int get_all b w.1 (by have := w.2; simpa using this)
  unfold getB at h
  rw [Int.toNat_of_nonneg w.1] at h
  simp only [Bool.and_eq_true, bne_iff_ne, beq_iff_eq] at h
  refine ⟨h.1.1, h.1.2, ?_⟩
  cases h1 : ((bAnd .u8 b 128) != 0) <;> cases h2 : ((bAnd .u8 (bXor .u8 b 128) 128) != 0)
  all_goals first | rfl | (exfalso; apply h.2; rw [h1, h2])
theorem x128 : bAndNot .u8 128 128 = 0 ∧ bAndNot .u8 0 128 = 0 ∧ ((bAnd .u8 128 128 : Int) != 0) = true ∧ ((bAnd .u8 0 128 : Int) != 0) = false := by decide +kernel
end Go.Proofs.Ytgnhhnmpeklciaa
