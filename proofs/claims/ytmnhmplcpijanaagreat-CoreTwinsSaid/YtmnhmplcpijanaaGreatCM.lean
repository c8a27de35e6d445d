/-
  What is read of a memory, as one function. No condition.
-/
import Derived.Test.YtmnhmplcpijanaaGreatCL
namespace Go.Proofs.YtmnhmplcpijanaaGreat
open Go VX
set_option linter.unusedVariables false
set_option linter.unusedSimpArgs false
set_option maxRecDepth 100000

/-- What was written last at a place. -/
def lastAt (a : Int) : List RAcc → Option Int
  | [] => none
  | x :: r => match lastAt a r with
    | some b => some b
    | none => if x.At = a then some x.B else none
/-- A byte of the memory. -/
def getF (P : List Int) (L : List RAcc) (a : Int) : Int := match lastAt a L with
  | some b => b
  | none => if P.length = 0 then 0 else IntKind.i64.wrap (P.getD (Int.toNat (Int.tmod a (P.length : Int))) 0)

theorem lastAt_snoc (a : Int) (x : RAcc) : ∀ L : List RAcc, lastAt a (L ++ [x]) = if x.At = a then some x.B else lastAt a L
  | [] => by simp only [List.nil_append, lastAt]
  | y :: L => by
    simp only [List.cons_append, lastAt, lastAt_snoc a x L]
    by_cases h : x.At = a
    · simp [h]
    · simp [h]

theorem get_loop (P : List Int) (L : List RAcc) (a : Int) (hL : L.length ≤ 1048576) : ∀ (k : Nat), k ≤ L.length → match lastAt a (L.take k) with
    | some b => ∃ i, LoopR (getW_L1 P L a) ((k : Int), 0) (.inr (i, b))
    | none => ∃ i, LoopR (getW_L1 P L a) ((k : Int), 0) (.inl (i, 0))
  | 0, _ => by
    simp only [List.take_zero, lastAt]
    exact ⟨0, .last (getW_L1.p3 (by decide))⟩
  | k + 1, hk => by
    have hlt : k < L.length := by omega
    have e : L.take (k + 1) = L.take k ++ [L.getD k RAcc.nil] := by
      rw [List.take_add_one, List.getElem?_eq_getElem hlt]
      simp [hlt]
    rw [e, lastAt_snoc]
    have hw : IntKind.i64.wrap (((k + 1 : Nat) : Int) - 1) = (k : Int) := by rw [IntKind.wrap_i64]; omega
    have hin : 0 ≤ IntKind.i64.wrap (((k + 1 : Nat) : Int) - 1) ∧ IntKind.i64.wrap (((k + 1 : Nat) : Int) - 1) < (((List.length L) : Nat) : Int) := by rw [hw]; omega
    have hd : (decide ((((k + 1 : Nat) : Int) : Int) > 0)) = true := decide_eq_true (by omega)
    have hg : List.getD L (Int.toNat (IntKind.i64.wrap (((k + 1 : Nat) : Int) - 1))) RAcc.nil = L.getD k RAcc.nil := by rw [hw]; rfl
    by_cases h : (L.getD k RAcc.nil).At = a
    · simp only [h, if_true]
      refine ⟨((k + 1 : Nat) : Int), .last ?_⟩
      have := getW_L1.p1 (m_P := P) (m_L := L) (a := a) (xd := (((k + 1 : Nat) : Int), 0)) hd hin (by simp only [hg, h]; simp)
      simp only [hg] at this
      exact this
    · simp only [h, if_false]
      have step := getW_L1.p2 (m_P := P) (m_L := L) (a := a) (xd := (((k + 1 : Nat) : Int), 0)) hd hin (by simp only [hg]; simpa using h)
      simp only [hw] at step
      have ih := get_loop P L a hL k (by omega)
      revert ih
      cases lastAt a (L.take k) with
      | some b => exact fun ⟨i, hi⟩ => ⟨i, .more step hi⟩
      | none => exact fun ⟨i, hi⟩ => ⟨i, .more step hi⟩

theorem getF_ok (m_P : List Int) (m_L : List RAcc) (a : Int) (ha : 0 ≤ a) (hL : (List.length m_L) ≤ 1048576) : FnSpec Tryz.prog 13 1003 [.pointer (some ⟨1000, 0, none⟩), .int .i64 a] [(1000, ⟨[.one (.slice (some ⟨1001, 0, (some 0)⟩) (List.length m_P) 1), .one (.slice (some ⟨1002, 0, (some 0)⟩) (List.length m_L) 3)], 33, true⟩), (1001, ⟨[intsL .u8 m_P], 5, true⟩), (1002, ⟨[rowsL RAcc.cells RAcc.nil 3 m_L], 47, true⟩)] (.int .i64 (getF m_P m_L a)) [] := by
  have h := get_loop m_P m_L a hL m_L.length (Nat.le_refl _)
  rw [List.take_length] at h
  unfold getF
  revert h
  cases lastAt a m_L with
  | some b => exact fun ⟨i, hi⟩ => getW_p3 m_P m_L a ha _ hi
  | none =>
    rintro ⟨i, hi⟩
    simp only
    by_cases hP : m_P.length = 0
    · rw [if_pos hP]
      exact getW_p1 m_P m_L a ha _ hi (by simp [hP])
    · rw [if_neg hP]
      exact getW_p2 m_P m_L a ha _ hi (by simpa using hP)
end Go.Proofs.YtmnhmplcpijanaaGreat
