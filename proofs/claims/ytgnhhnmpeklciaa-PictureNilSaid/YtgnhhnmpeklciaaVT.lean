/-
  Ranges of numbers. No condition.
-/
import Derived.Test.YtgnhhnmpeklciaaVO
namespace Go.Proofs.Ytgnhhnmpeklciaa.VX
open Go

/-- From 0 to n, n left out. -/
def rng (n : Nat) (x : Int) : Prop := 0 ≤ x ∧ x < (n : Int)
instance (n : Nat) (x : Int) : Decidable (rng n x) := inferInstanceAs (Decidable (_ ∧ _))

theorem rng_le {m n : Nat} {x : Int} (h : rng m x) (hmn : m ≤ n) : rng n x := ⟨h.1, by have := h.2; omega⟩
theorem toNat_lt {n : Nat} {x : Int} (h : rng n x) : x.toNat < n := by obtain ⟨h1, h2⟩ := h; omega
theorem rng_wrap_u8 (e : Int) : rng 256 (IntKind.u8.wrap e) := by
  have h : IntKind.u8.wrap e = e % 256 := by simp [IntKind.wrap, IntKind.signed, IntKind.bits]
  rw [h]; exact ⟨by omega, by omega⟩
theorem rng_wrap_u16 (e : Int) : rng 65536 (IntKind.u16.wrap e) := by
  have h : IntKind.u16.wrap e = e % 65536 := by simp [IntKind.wrap, IntKind.signed, IntKind.bits]
  rw [h]; exact ⟨by omega, by omega⟩
theorem rng_bAnd_u8 (a b : Int) : rng 256 (bAnd .u8 a b) := rng_wrap_u8 _
theorem rng_bOr_u8 (a b : Int) : rng 256 (bOr .u8 a b) := rng_wrap_u8 _
theorem rng_bXor_u8 (a b : Int) : rng 256 (bXor .u8 a b) := rng_wrap_u8 _
theorem rng_bAndNot_u8 (a b : Int) : rng 256 (bAndNot .u8 a b) := rng_wrap_u8 _
theorem rng_bShl_u8 (a b : Int) : rng 256 (bShl .u8 a b) := rng_wrap_u8 _
theorem rng_bAnd_u16 (a b : Int) : rng 65536 (bAnd .u16 a b) := rng_wrap_u16 _
theorem rng_bOr_u16 (a b : Int) : rng 65536 (bOr .u16 a b) := rng_wrap_u16 _
theorem rng_bXor_u16 (a b : Int) : rng 65536 (bXor .u16 a b) := rng_wrap_u16 _
theorem rng_bAndNot_u16 (a b : Int) : rng 65536 (bAndNot .u16 a b) := rng_wrap_u16 _
theorem rng_bShl_u16 (a b : Int) : rng 65536 (bShl .u16 a b) := rng_wrap_u16 _
theorem rng_bShr {n : Nat} {a : Int} (h : rng n a) (k : IntKind) (b : Int) : rng n (bShr k a b) := by
  obtain ⟨h1, h2⟩ := h
  unfold bShr
  generalize min b.toNat k.bits = s
  have hp : (0 : Int) < 2 ^ s := Int.pow_pos (by decide)
  rw [Int.fdiv_eq_ediv_of_nonneg _ (Int.le_of_lt hp)]
  exact ⟨Int.ediv_nonneg h1 (Int.le_of_lt hp), Int.lt_of_le_of_lt (Int.ediv_le_self _ h1) h2⟩
theorem rng_shr_lit {m n : Nat} {a : Int} (h : rng m a) {k : IntKind} {b : Int} (hb : m ≤ n * 2 ^ b.toNat ∧ b.toNat ≤ k.bits) : rng n (bShr k a b) := by
  obtain ⟨h1, h2⟩ := h
  unfold bShr
  rw [Nat.min_eq_left hb.2]
  have hp : (0 : Int) < 2 ^ b.toNat := Int.pow_pos (by decide)
  rw [Int.fdiv_eq_ediv_of_nonneg _ (Int.le_of_lt hp)]
  refine ⟨Int.ediv_nonneg h1 (Int.le_of_lt hp), Int.ediv_lt_of_lt_mul hp ?_⟩
  have : ((m : Nat) : Int) ≤ ((n * 2 ^ b.toNat : Nat) : Int) := by exact_mod_cast hb.1
  rw [Int.natCast_mul, Int.natCast_pow] at this
  exact Int.lt_of_lt_of_le h2 this
theorem and_lit {k : IntKind} (hk : small k = true) {n : Nat} {m : Int} (a : Int) (h : 0 ≤ m ∧ m.toNat < 2 ^ k.bits ∧ m.toNat < n) : rng n (bAnd k a m) := by
  obtain ⟨h0, h1, h2⟩ := h
  obtain ⟨m, rfl⟩ : ∃ q : Nat, m = q := ⟨m.toNat, by omega⟩
  rw [Int.toNat_natCast] at h1 h2
  unfold bAnd
  rw [BitVec.toNat_and, ofInt_nat h1]
  have hle : (BitVec.ofInt k.bits a).toNat &&& m ≤ m := Nat.and_le_right
  rw [wrap_nat hk (Nat.lt_of_le_of_lt hle h1)]
  exact ⟨by omega, by omega⟩
theorem rng_and_lit_u8 {n : Nat} {m : Int} (a : Int) (h : 0 ≤ m ∧ m.toNat < 2 ^ IntKind.u8.bits ∧ m.toNat < n) : rng n (bAnd .u8 a m) := and_lit rfl a h
theorem rng_and_lit_u16 {n : Nat} {m : Int} (a : Int) (h : 0 ≤ m ∧ m.toNat < 2 ^ IntKind.u16.bits ∧ m.toNat < n) : rng n (bAnd .u16 a m) := and_lit rfl a h
theorem rng_tmod {n : Nat} {a : Int} (h : rng n a) (b : Int) : rng n (Int.tmod a b) := by
  obtain ⟨h1, h2⟩ := h
  refine ⟨Int.tmod_nonneg _ h1, ?_⟩
  rw [Int.tmod_eq_emod_of_nonneg h1]
  rcases Int.lt_trichotomy b 0 with hb | hb | hb
  · rw [← Int.emod_neg]
    have hb' : 0 < -b := by omega
    rcases Int.lt_or_le a (-b) with h | h
    · rw [Int.emod_eq_of_lt h1 h]; exact h2
    · have := Int.emod_lt_of_pos a hb'; omega
  · subst hb; simpa using h2
  · rcases Int.lt_or_le a b with h | h
    · rw [Int.emod_eq_of_lt h1 h]; exact h2
    · have := Int.emod_lt_of_pos a hb; omega
theorem rng_tmod_lit {m n : Nat} {a b : Int} (h : rng m a) (hb : 0 < b ∧ b.toNat ≤ n) : rng n (Int.tmod a b) := by
  obtain ⟨h1, h2⟩ := h
  refine ⟨Int.tmod_nonneg _ h1, ?_⟩
  have := Int.tmod_lt_of_pos a hb.1
  omega
theorem rng_ite {n : Nat} {c : Prop} [Decidable c] {a b : Int} (p : rng n a) (q : rng n b) : rng n (if c then a else b) := by split <;> assumption
theorem rng_upd {n : Nat} {f : Nat → Int} (p : ∀ j, rng n (f j)) (o : Nat) {x : Int} (q : rng n x) : ∀ j, rng n (upd f o x j) := by
  intro j
  unfold upd
  cases Nat.beq j o
  · exact p j
  · exact q
def allR (n : Nat) : List Int → Prop
  | [] => True
  | x :: r => rng n x ∧ allR n r
theorem rng_list {n : Nat} (h0 : 0 < n) : ∀ (l : List Int) (_ : allR n l) (j : Nat), rng n (l.getD j 0)
  | [], _, j => by simp; exact ⟨by omega, by omega⟩
  | x :: r, h, 0 => by simpa using h.1
  | x :: r, h, j + 1 => by simpa using rng_list h0 r h.2 j

theorem lit_e_e {x a b : Int} (h : (x == a) = true) (n : a ≠ b) : (x == b) = false := by simp at h ⊢; omega
theorem lit_e_n {x a b : Int} (h : (x == a) = true) (n : a ≠ b) : (x != b) = true := by simp at h ⊢; omega
theorem lit_n_e {x a b : Int} (h : (x != a) = false) (n : a ≠ b) : (x == b) = false := by simp at h ⊢; omega
theorem lit_n_n {x a b : Int} (h : (x != a) = false) (n : a ≠ b) : (x != b) = true := by simp at h ⊢; omega

end Go.Proofs.Ytgnhhnmpeklciaa.VX
