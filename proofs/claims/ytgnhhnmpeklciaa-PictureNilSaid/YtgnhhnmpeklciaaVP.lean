/-
  Loops by a relation: for a loop within which others run. No condition.
-/
import Derived.Test.YtgnhhnmpeklciaaVL
namespace Go.Proofs.Ytgnhhnmpeklciaa.VX
open Go

/-- Rounds of a relation, till one ends. -/
inductive LoopR {S R : Type} (rel : S → S ⊕ R → Prop) : S → R → Prop
  | last {s : S} {r : R} (h : rel s (.inr r)) : LoopR rel s r
  | more {s s' : S} {r : R} (h : rel s (.inl s')) (t : LoopR rel s' r) : LoopR rel s r

theorem LoopR.of_iter {S R : Type} {step : S → S ⊕ R} : ∀ {m : Nat} {s : S} {r : R}, iter step m s = some r → LoopR (fun x y => step x = y) s r
  | 0, s, r, h => by simp [iter] at h
  | m + 1, s, r, h => by
    simp only [iter] at h
    cases hs : step s with
    | inl s' => rw [hs] at h; exact .more hs (LoopR.of_iter h)
    | inr r' => rw [hs] at h; simp at h; subst h; exact .last hs

theorem block_loop {P : Program} {N id n : Nat} {body : Code} {S R : Type} (rel : S → S ⊕ R → Prop) (T0 : S → Tm) (H0 : S → Heap) (ex : R → Ex) (T1 : R → Tm) (H1 : R → Heap) (hex : ∀ r, ex r ≠ .normal)
    (hgo : ∀ s s', rel s (.inl s') → Runs P N body (T0 s) (H0 s) n .normal (T0 s') (H0 s') n) (hout : ∀ s r, rel s (.inr r) → Runs P N body (T0 s) (H0 s) n (ex r) (T1 r) (H1 r) n)
    (s : S) (r : R) (h : LoopR rel s r) : Runs P N (.block id (.loop body)) (T0 s) (H0 s) n (outOf id (ex r)) (T1 r) (H1 r) n := by
  have key : ∃ k, LRuns P N body k (T0 s) (H0 s) n (ex r) (T1 r) (H1 r) n := by
    induction h with
    | last h => exact ⟨1, LRuns.last (hex _) (hout _ _ h) 0⟩
    | more h t ih =>
      obtain ⟨k, hk⟩ := ih
      exact ⟨k + 1, LRuns.more (hgo _ _ h) hk⟩
  obtain ⟨k, hk⟩ := key
  exact Runs.block (id := id) hk.loop

end Go.Proofs.Ytgnhhnmpeklciaa.VX
