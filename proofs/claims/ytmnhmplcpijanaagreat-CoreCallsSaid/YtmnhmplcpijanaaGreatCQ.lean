/-
  A code's byte, as one function. No condition.
-/
import Derived.Test.YtmnhmplcpijanaaGreatCP
namespace Go.Proofs.YtmnhmplcpijanaaGreat
open Go VX
set_option linter.unusedVariables false
set_option linter.unusedSimpArgs false
set_option maxRecDepth 100000

def isCode (k : Code) (i : Int) : Bool := ((((codeF (IntKind.u8.wrap i)).Op : Int) == k.Op) && ((((codeF (IntKind.u8.wrap i)).Mode : Int) == k.Mode) && true))
def byteFrom (k : Code) : Nat → Int → Int × Bool
  | 0, _ => (0, false)
  | n + 1, i => if isCode k i = true then (IntKind.u8.wrap i, true) else byteFrom k n (i + 1)
def byteF (k : Code) : Int × Bool := if (((k.Op : Int) == 0) && (((k.Mode : Int) == 0) && true)) = true then (234, true) else byteFrom k 256 0

theorem byte_loop (k : Code) : ∀ (n : Nat) (i : Int), 0 ≤ i → i + n = 256 → (∃ m r, iter (byteW_L1n k) m (i, 0, false) = some (.inl r) ∧ byteFrom k n i = (0, false)) ∨ (∃ m r, iter (byteW_L1n k) m (i, 0, false) = some (.inr r) ∧ byteFrom k n i = (r.2.1, r.2.2))
  | 0, i, h0, h => by
    refine .inl ⟨1, (i, 0, false), ?_, rfl⟩
    simp only [iter, byteW_L1n]
    rw [if_neg (by simp; omega)]
  | n + 1, i, h0, h => by
    have hd : (decide ((i : Int) < 256)) = true := decide_eq_true (by omega)
    by_cases hc : isCode k i = true
    · refine .inr ⟨1, (i, IntKind.u8.wrap i, true), ?_, ?_⟩
      · have h2 := hc; unfold isCode at h2
        simp only [iter, byteW_L1n]
        rw [if_pos hd, if_pos h2]
      · simp only [byteFrom]; rw [if_pos hc]
    · have hw : IntKind.i64.wrap (i + 1) = i + 1 := by rw [IntKind.wrap_i64]; omega
      have hs : ∀ m, iter (byteW_L1n k) (m + 1) (i, 0, false) = iter (byteW_L1n k) m (i + 1, 0, false) := by
        intro m
        have h2 := hc; unfold isCode at h2
        simp only [iter, byteW_L1n]
        rw [if_pos hd, if_neg h2]
        simp only [hw]
      have e : byteFrom k (n + 1) i = byteFrom k n (i + 1) := by simp only [byteFrom]; rw [if_neg hc]
      rw [e]
      rcases byte_loop k n (i + 1) (by omega) (by omega) with ⟨m, r, h1, h2⟩ | ⟨m, r, h1, h2⟩
      · exact .inl ⟨m + 1, r, by rw [hs]; exact h1, h2⟩
      · exact .inr ⟨m + 1, r, by rw [hs]; exact h1, h2⟩

theorem byteF_ok (k : Code) : FnSpec Tryz.prog 52 1000 [Code.enc k] [] (.tuple ⟨[.int .u8 ((byteF k).1), .bool ((byteF k).2)]⟩) [] := by
  unfold byteF
  rcases bt ((((k.Op : Int) == 0) && (((k.Mode : Int) == 0) && true))) with c | c
  · rw [if_pos c]; exact byteW_p1 k c
  · rw [if_neg (nt c)]
    rcases byte_loop k 256 0 (by omega) (by omega) with ⟨m, r, h1, h2⟩ | ⟨m, r, h1, h2⟩
    · rw [h2]; exact byteW_p2 k c m r h1
    · rw [h2]; exact byteW_p3 k c m r h1

/-- A code of a byte has a byte. -/
theorem byte_some (b : Int) (w : rng 256 b) : (byteF (codeF b)).2 = true := by
  unfold byteF
  split
  · rfl
  · have key : ∀ (n : Nat) (i : Int), 0 ≤ i → i ≤ b → b < i + n → i + n = 256 → (byteFrom (codeF b) n i).2 = true := by
      intro n
      induction n with
      | zero => intro i _ h1 h2; omega
      | succ n ih =>
        intro i h0 h1 h2 h3
        simp only [byteFrom]
        by_cases hc : isCode (codeF b) i = true
        · rw [if_pos hc]
        · rw [if_neg hc]
          have hne : i ≠ b := by
            rintro rfl
            apply hc
            have : IntKind.u8.wrap i = i := by rw [IntKind.wrap_u8]; omega
            unfold isCode
            rw [this]; simp
          exact ih (i + 1) (by omega) (by omega) (by omega) (by omega)
    exact key 256 0 (by omega) w.1 (by have := w.2; omega) (by omega)
end Go.Proofs.YtmnhmplcpijanaaGreat
