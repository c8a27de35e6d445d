/-
  Checks at every number below a power of two, done by the kernel; helpers for the plain laws. No condition.
-/
import Derived.Test.YtgnhhnmpeklciaaVM
namespace Go.Proofs.Ytgnhhnmpeklciaa.VX
open Go

/-- 'f' holds at each number from b * 2^k on, below (b + 1) * 2^k. -/
noncomputable def allN (f : Nat → Bool) (k : Nat) : Nat → Bool :=
  Nat.rec (motive := fun _ => Nat → Bool) f (fun _ ih b => Bool.rec false (ih (2 * b + 1)) (ih (2 * b))) k

theorem allN_spec {f : Nat → Bool} : ∀ {k b : Nat}, allN f k b = true → ∀ i, b * 2 ^ k ≤ i → i < (b + 1) * 2 ^ k → f i = true
  | 0, b, h, i, h1, h2 => by
    have : i = b := by simp at h1 h2; omega
    subst this; exact h
  | k + 1, b, h, i, h1, h2 => by
    have e : allN f (k + 1) b = Bool.rec false (allN f k (2 * b + 1)) (allN f k (2 * b)) := rfl
    rw [e] at h
    cases ha : allN f k (2 * b) with
    | false => rw [ha] at h; cases h
    | true =>
      rw [ha] at h
      have h : allN f k (2 * b + 1) = true := h
      rw [Nat.pow_succ] at h1 h2
      rcases Nat.lt_or_ge i ((2 * b + 1) * 2 ^ k) with h3 | h3
      · refine allN_spec ha i ?_ h3
        have : 2 * b * 2 ^ k = b * (2 ^ k * 2) := by rw [Nat.mul_comm 2 b, Nat.mul_assoc, Nat.mul_comm 2]
        omega
      · refine allN_spec h i h3 ?_
        have : (2 * b + 1 + 1) * 2 ^ k = (b + 1) * (2 ^ k * 2) := by
          rw [show 2 * b + 1 + 1 = (b + 1) * 2 by omega, Nat.mul_assoc, Nat.mul_comm 2]
        omega

theorem allN_nat {f : Nat → Bool} {k : Nat} (h : allN f k 0 = true) (i : Nat) (hi : i < 2 ^ k) : f i = true := allN_spec h i (by simp) (by simpa using hi)

/-- The same of an integer. -/
theorem allN_int {f : Nat → Bool} {k : Nat} (h : allN f k 0 = true) (x : Int) (h0 : 0 ≤ x) (hx : x < 2 ^ k) : f x.toNat = true := by
  refine allN_nat h _ ?_
  have : (x.toNat : Int) < ((2 ^ k : Nat) : Int) := by rw [Int.toNat_of_nonneg h0]; simpa using hx
  exact_mod_cast this

theorem wf_u8 {n : Int} (h : (Lit.int .u8 n).wf = true) : 0 ≤ n ∧ n < 256 := by
  simp only [Lit.wf, Bool.and_eq_true, decide_eq_true_eq] at h; exact ⟨h.1, Int.lt_of_le_of_lt h.2 (by decide)⟩
theorem wf_u16 {n : Int} (h : (Lit.int .u16 n).wf = true) : 0 ≤ n ∧ n < 65536 := by
  simp only [Lit.wf, Bool.and_eq_true, decide_eq_true_eq] at h; exact ⟨h.1, Int.lt_of_le_of_lt h.2 (by decide)⟩

end Go.Proofs.Ytgnhhnmpeklciaa.VX
