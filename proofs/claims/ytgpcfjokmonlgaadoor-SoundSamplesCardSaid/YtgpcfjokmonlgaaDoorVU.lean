/-
  Counting loops: a step done again and again. No condition.
-/
import Derived.Test.YtgpcfjokmonlgaaDoorVP
import Derived.Test.YtgpcfjokmonlgaaDoorVT
namespace Go.Proofs.YtgpcfjokmonlgaaDoor.VX
open Go IntWalk

def iterS {S : Type} (g : S → S) : Nat → S → S
  | 0, s => s
  | k + 1, s => iterS g k (g s)

theorem iterS_add {S : Type} (g : S → S) : ∀ (a b : Nat) (s : S), iterS g (a + b) s = iterS g b (iterS g a s)
  | 0, b, s => by simp [iterS]
  | a + 1, b, s => by rw [show a + 1 + b = (a + b) + 1 by omega]; simp only [iterS]; exact iterS_add g a b (g s)

theorem iterS_succ {S : Type} (g : S → S) (k : Nat) (s : S) : iterS g (k + 1) s = g (iterS g k s) := by rw [iterS_add g k 1 s]; rfl

theorem iterS_inv {S : Type} {g : S → S} {p : S → Prop} (h : ∀ s, p s → p (g s)) : ∀ (k : Nat) (s : S), p s → p (iterS g k s)
  | 0, _, hs => hs
  | k + 1, s, hs => iterS_inv h k (g s) (h s hs)

/-- A loop that counts to N and does g each time. -/
theorem iter_for {S R : Type} (g : S → S) (f : Int × S → (Int × S) ⊕ R) (N : Int) (w : Int → Int) (hw : ∀ i, 0 ≤ i → i < N → w (i + 1) = i + 1) (out : S → R)
    (hf : ∀ i s, 0 ≤ i → i < N → f (i, s) = .inl (w (i + 1), g s)) (ho : ∀ s, f (N, s) = .inr (out s)) : ∀ (k : Nat) (i : Int) (s : S), 0 ≤ i → i + k = N → iter f (k + 1) (i, s) = some (out (iterS g k s))
  | 0, i, s, h0, h => by
    have : i = N := by simpa using h
    subst this
    simp [iter, ho, iterS]
  | k + 1, i, s, h0, h => by
    have hlt : i < N := by omega
    rw [iter, hf i s h0 hlt]
    simp only
    rw [hw i h0 hlt]
    exact iter_for g f N w hw out hf ho k (i + 1) (g s) (by omega) (by omega)

/-- The same as a relation, with what holds all along. -/
theorem loop_for {S R : Type} {rel : Int × S → (Int × S) ⊕ R → Prop} (g : S → S) (N : Int) (p : Int → S → Prop) (hp : ∀ i s, 0 ≤ i → i < N → p i s → p (i + 1) (g s)) (out : S → R)
    (hf : ∀ i s, 0 ≤ i → i < N → p i s → rel (i, s) (.inl (i + 1, g s))) (ho : ∀ s, p N s → rel (N, s) (.inr (out s))) : ∀ (k : Nat) (i : Int) (s : S), 0 ≤ i → i + k = N → p i s → LoopR rel (i, s) (out (iterS g k s))
  | 0, i, s, h0, h, hs => by
    have : i = N := by simpa using h
    subst this
    exact .last (ho s hs)
  | k + 1, i, s, h0, h, hs => by
    have hlt : i < N := by omega
    exact .more (hf i s h0 hlt hs) (loop_for g N p hp out hf ho k (i + 1) (g s) (by omega) (by omega) (hp i s h0 hlt hs))

/-- Where each step may be another one: state by state. -/
theorem loop_seq {S R : Type} {rel : S → S ⊕ R → Prop} (st : Nat → S) (n : Nat) (r : R) (hf : ∀ k, k < n → rel (st k) (.inl (st (k + 1)))) (ho : rel (st n) (.inr r)) : LoopR rel (st 0) r := by
  have : ∀ (j k : Nat), k + j = n → LoopR rel (st k) r := by
    intro j
    induction j with
    | zero => intro k h; have : k = n := by omega
              subst this; exact .last ho
    | succ j ih => intro k h; exact .more (hf k (by omega)) (ih (k + 1) (by omega))
  exact this n 0 (by omega)

theorem iter_seq {S R : Type} {f : S → S ⊕ R} (st : Nat → S) (n : Nat) (r : R) (hf : ∀ k, k < n → f (st k) = .inl (st (k + 1))) (ho : f (st n) = .inr r) : iter f (n + 1) (st 0) = some r := by
  have : ∀ (j k : Nat), k + j = n → iter f (j + 1) (st k) = some r := by
    intro j
    induction j with
    | zero => intro k h; have : k = n := by omega
              subst this; simp [iter, ho]
    | succ j ih => intro k h; rw [iter, hf k (by omega)]; exact ih (k + 1) (by omega)
  exact this n 0 (by omega)

-- ---------------------------------------------------------------- bits of bytes as quotients


section
variable {a : Int} (h : 0 ≤ a ∧ a < 256)
include h
theorem and8_1 : bAnd .u8 a 1 = a % 2 := by have := bAnd_field (k := .u8) rfl 0 1 (m := 1) rfl h.1 h.2 (by decide); simpa using this
theorem and8_3 : bAnd .u8 a 3 = a % 4 := by have := bAnd_field (k := .u8) rfl 0 2 (m := 3) rfl h.1 h.2 (by decide); simpa using this
theorem and8_7 : bAnd .u8 a 7 = a % 8 := by have := bAnd_field (k := .u8) rfl 0 3 (m := 7) rfl h.1 h.2 (by decide); simpa using this
theorem and8_15 : bAnd .u8 a 15 = a % 16 := by have := bAnd_field (k := .u8) rfl 0 4 (m := 15) rfl h.1 h.2 (by decide); simpa using this
theorem and8_127 : bAnd .u8 a 127 = a % 128 := by have := bAnd_field (k := .u8) rfl 0 7 (m := 127) rfl h.1 h.2 (by decide); simpa using this
theorem and8_8 : bAnd .u8 a 8 = a / 8 % 2 * 8 := by have := bAnd_field (k := .u8) rfl 3 1 (m := 8) rfl h.1 h.2 (by decide); simpa using this
theorem and8_16 : bAnd .u8 a 16 = a / 16 % 2 * 16 := by have := bAnd_field (k := .u8) rfl 4 1 (m := 16) rfl h.1 h.2 (by decide); simpa using this
theorem and8_32 : bAnd .u8 a 32 = a / 32 % 2 * 32 := by have := bAnd_field (k := .u8) rfl 5 1 (m := 32) rfl h.1 h.2 (by decide); simpa using this
theorem and8_64 : bAnd .u8 a 64 = a / 64 % 2 * 64 := by have := bAnd_field (k := .u8) rfl 6 1 (m := 64) rfl h.1 h.2 (by decide); simpa using this
theorem and8_128 : bAnd .u8 a 128 = a / 128 % 2 * 128 := by have := bAnd_field (k := .u8) rfl 7 1 (m := 128) rfl h.1 h.2 (by decide); simpa using this
theorem not8_128 : bAndNot .u8 a 128 = a % 128 := by
  rw [bAndNot_eq (k := .u8) rfl h.1 h.2 (by decide) (by decide), and8_128 h]; omega
end
theorem shr8 {k : IntKind} {a : Int} (s : Nat) (hs : s ≤ k.bits) : bShr k a (s : Int) = a / 2 ^ s := by
  unfold bShr
  rw [Int.toNat_natCast, Nat.min_eq_left hs, Int.fdiv_eq_ediv_of_nonneg _ (Int.le_of_lt (Int.pow_pos (by decide)))]
theorem shr8_1 (a : Int) : bShr .u8 a 1 = a / 2 := shr8 (k := .u8) 1 (by decide)
theorem shr8_3 (a : Int) : bShr .u8 a 3 = a / 8 := shr8 (k := .u8) 3 (by decide)
theorem shr8_4 (a : Int) : bShr .u8 a 4 = a / 16 := shr8 (k := .u8) 4 (by decide)
theorem shr8_6 (a : Int) : bShr .u8 a 6 = a / 64 := shr8 (k := .u8) 6 (by decide)
theorem shr16_1 (a : Int) : bShr .u16 a 1 = a / 2 := shr8 (k := .u16) 1 (by decide)
theorem shr16_6 (a : Int) : bShr .u16 a 6 = a / 64 := shr8 (k := .u16) 6 (by decide)
theorem shr16_8 (a : Int) : bShr .u16 a 8 = a / 256 := shr8 (k := .u16) 8 (by decide)
theorem and16_1 {a : Int} (h : 0 ≤ a ∧ a < 65536) : bAnd .u16 a 1 = a % 2 := by have := bAnd_field (k := .u16) rfl 0 1 (m := 1) rfl h.1 h.2 (by decide); simpa using this
theorem and16_255 {a : Int} (h : 0 ≤ a ∧ a < 65536) : bAnd .u16 a 255 = a % 256 := by have := bAnd_field (k := .u16) rfl 0 8 (m := 255) rfl h.1 h.2 (by decide); simpa using this

end Go.Proofs.YtgpcfjokmonlgaaDoor.VX
