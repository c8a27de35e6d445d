/-
  The picture: its lines, laid one behind the other. No condition.
-/
import Derived.Test.YtgnhhnmpeklciaaPY
namespace Go.Proofs.Ytgnhhnmpeklciaa
open Go VX
set_option linter.unusedVariables false
set_option linter.unusedSimpArgs false
set_option maxRecDepth 100000

/-- Numbers from a place on. -/
def rowL (f : Nat → Int) : Nat → Nat → List Int
  | _, 0 => []
  | o, m + 1 => f o :: rowL f (o + 1) m
theorem rowL_len (f : Nat → Int) : ∀ (m o : Nat), (rowL f o m).length = m
  | 0, _ => rfl
  | m + 1, o => by simp [rowL, rowL_len f m]
theorem rowL_get (f : Nat → Int) : ∀ (m o j : Nat), j < m → (rowL f o m).getD j 0 = f (o + j)
  | 0, o, j, h => by omega
  | m + 1, o, 0, h => rfl
  | m + 1, o, j + 1, h => by
    show (rowL f (o + 1) m).getD j 0 = _
    rw [rowL_get f m (o + 1) j (by omega)]; congr 1; omega
theorem getD_app (L M : List Int) (j : Nat) : (L ++ M).getD j 0 = if j < L.length then L.getD j 0 else M.getD (j - L.length) 0 := by
  by_cases h : j < L.length
  · rw [if_pos h, List.getD_eq_getElem?_getD, List.getD_eq_getElem?_getD, List.getElem?_append_left h]
  · rw [if_neg h, List.getD_eq_getElem?_getD, List.getD_eq_getElem?_getD, List.getElem?_append_right (by omega)]
theorem behind_row {k : IntKind} (L : List Int) (f : Nat → Int) (off m : Nat) : Behind [intsL k L] (winL (fun o => .int k (f (off + o))) 0 m) [intsL k (L ++ rowL f off m)] := by
  refine ⟨by simp [intsL, segsSize, Seg.size, winL_len, rowL_len], fun o v h => ?_⟩
  have e : ∀ M : List Int, segsGet? [intsL k M] o = (bif Nat.blt o M.length then (bif Nat.blt o M.length then some (Value.int k (M.getD o 0)) else none) else none) := fun _ => rfl
  rw [e] at h
  cases hb : Nat.blt o (L ++ rowL f off m).length with
  | false => rw [hb] at h; simp at h
  | true =>
    rw [hb] at h
    simp only [cond_true, Option.some.injEq] at h
    have hlt : o < (L ++ rowL f off m).length := by rw [Nat.blt_eq] at hb; exact hb
    rw [List.length_append, rowL_len] at hlt
    have hs : segsSize [intsL k L] = L.length := by simp [intsL, segsSize, Seg.size]
    rw [getD_app] at h
    by_cases c : o < L.length
    · rw [if_pos c] at h
      refine .inl ⟨by omega, ?_⟩
      have : Nat.blt o L.length = true := by rw [Nat.blt_eq]; exact c
      rw [e, this]; simp only [cond_true]; rw [h]
    · rw [if_neg c, rowL_get f m off _ (by omega)] at h
      refine .inr ⟨by omega, ?_⟩
      rw [hs, winL_get, if_pos (by omega), Nat.zero_add, ← h]
theorem sl_row (n z : Nat) (L : List Int) (f : Nat → Int) (off m : Nat) : Value.slice (some ⟨n, 0, some 0⟩) (List.length L + m) z = .slice (some ⟨n, 0, some 0⟩) (List.length (L ++ rowL f off m)) z := by
  rw [List.length_append, rowL_len]
theorem noughts_nil (k : IntKind) (C : Nat) : Noughts k C [intsL k []] := by
  refine ⟨by simp [intsL, segsSize, Seg.size], fun o v h => ?_⟩
  have e : segsGet? [intsL k []] o = (bif Nat.blt o 0 then (bif Nat.blt o 0 then some (Value.int k (([] : List Int).getD o 0)) else none) else none) := rfl
  rw [e] at h
  have : Nat.blt o 0 = false := by cases hb : Nat.blt o 0; rfl; rw [Nat.blt_eq] at hb; omega
  rw [this] at h; simp at h
end Go.Proofs.Ytgnhhnmpeklciaa
