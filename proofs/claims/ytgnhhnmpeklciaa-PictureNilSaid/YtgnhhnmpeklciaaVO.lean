/-
  Bits of unsigned numbers as quotients and remainders. No condition.
-/
import Derived.Test.YtgnhhnmpeklciaaVN
import Derived.IntWalk
namespace Go.Proofs.Ytgnhhnmpeklciaa.VX
open Go

/-- An unsigned kind of at most 16 bits. -/
def small : IntKind → Bool
  | .u8 | .u16 => true
  | _ => false

theorem ofInt_nat {w a : Nat} (h : a < 2 ^ w) : (BitVec.ofInt w (a : Int)).toNat = a := by
  rw [BitVec.toNat_ofInt]
  have : ((a : Int) % ((2 ^ w : Nat) : Int)) = ((a % 2 ^ w : Nat) : Int) := by norm_cast
  rw [this, Int.toNat_natCast, Nat.mod_eq_of_lt h]

theorem wrap_nat {k : IntKind} (hk : small k = true) {a : Nat} (h : a < 2 ^ k.bits) : k.wrap (a : Int) = a := by
  cases k <;> simp [small] at hk
  · exact IntWalk.u8_in _ (by simp [IntKind.bits] at h; omega)
  · exact IntWalk.u16_in _ (by simp [IntKind.bits] at h; omega)

theorem and_nat {k : IntKind} (hk : small k = true) {a b : Nat} (ha : a < 2 ^ k.bits) (hb : b < 2 ^ k.bits) : bAnd k a b = ((a &&& b : Nat) : Int) := by
  unfold bAnd
  rw [BitVec.toNat_and, ofInt_nat ha, ofInt_nat hb]
  exact wrap_nat hk (Nat.lt_of_le_of_lt Nat.and_le_left ha)
theorem or_nat {k : IntKind} (hk : small k = true) {a b : Nat} (ha : a < 2 ^ k.bits) (hb : b < 2 ^ k.bits) : bOr k a b = ((a ||| b : Nat) : Int) := by
  unfold bOr
  rw [BitVec.toNat_or, ofInt_nat ha, ofInt_nat hb]
  exact wrap_nat hk (Nat.or_lt_two_pow ha hb)
theorem xor_nat {k : IntKind} (hk : small k = true) {a b : Nat} (ha : a < 2 ^ k.bits) (hb : b < 2 ^ k.bits) : bXor k a b = ((a ^^^ b : Nat) : Int) := by
  unfold bXor
  rw [BitVec.toNat_xor, ofInt_nat ha, ofInt_nat hb]
  exact wrap_nat hk (Nat.xor_lt_two_pow ha hb)

theorem or_add {x y : Nat} (h : x &&& y = 0) : x ||| y = x + y := by
  have hx : x < 2 ^ (x + y + 1) := Nat.lt_of_lt_of_le Nat.lt_two_pow_self (Nat.pow_le_pow_right (by omega) (by omega))
  have hy : y < 2 ^ (x + y + 1) := Nat.lt_of_lt_of_le Nat.lt_two_pow_self (Nat.pow_le_pow_right (by omega) (by omega))
  have hz : x + y < 2 ^ (x + y + 1) := Nat.lt_of_lt_of_le Nat.lt_two_pow_self (Nat.pow_le_pow_right (by omega) (by omega))
  have e := BitVec.add_eq_or_of_and_eq_zero (BitVec.ofNat (x + y + 1) x) (BitVec.ofNat (x + y + 1) y) (by
    apply BitVec.eq_of_toNat_eq
    rw [BitVec.toNat_and, BitVec.toNat_ofNat, BitVec.toNat_ofNat, Nat.mod_eq_of_lt hx, Nat.mod_eq_of_lt hy, h]; rfl)
  have e2 := congrArg BitVec.toNat e
  rw [BitVec.toNat_or, BitVec.toNat_add, BitVec.toNat_ofNat, BitVec.toNat_ofNat, Nat.mod_eq_of_lt hx, Nat.mod_eq_of_lt hy, Nat.mod_eq_of_lt hz] at e2
  exact e2.symm

theorem and_field (a p n : Nat) : a &&& (2 ^ p * (2 ^ n - 1)) = a / 2 ^ p % 2 ^ n * 2 ^ p := by
  apply Nat.eq_of_testBit_eq
  intro i
  rw [Nat.testBit_and, Nat.testBit_two_pow_mul, Nat.testBit_two_pow_sub_one, Nat.testBit_mul_two_pow, Nat.testBit_mod_two_pow, Nat.testBit_div_two_pow]
  by_cases h : p ≤ i
  · simp [h, show i - p + p = i by omega, Bool.and_comm]
  · simp [h]

theorem andnot_nat {k : IntKind} (hk : small k = true) {a b : Nat} (ha : a < 2 ^ k.bits) (hb : b < 2 ^ k.bits) : bAndNot k a b = ((a - (a &&& b) : Nat) : Int) := by
  unfold bAndNot
  have e : (BitVec.ofInt k.bits (a : Int) &&& ~~~BitVec.ofInt k.bits (b : Int)).toNat = a - (a &&& b) := by
    have h1 : ((BitVec.ofInt k.bits (a : Int) &&& ~~~BitVec.ofInt k.bits (b : Int)) ||| (BitVec.ofInt k.bits (a : Int) &&& BitVec.ofInt k.bits (b : Int))).toNat = a := by
      rw [← BitVec.and_or_distrib_left, BitVec.or_comm, BitVec.or_not_self, BitVec.and_allOnes, ofInt_nat ha]
    have h2 : (BitVec.ofInt k.bits (a : Int) &&& ~~~BitVec.ofInt k.bits (b : Int)).toNat &&& (BitVec.ofInt k.bits (a : Int) &&& BitVec.ofInt k.bits (b : Int)).toNat = 0 := by
      rw [← BitVec.toNat_and]
      have : (BitVec.ofInt k.bits (a : Int) &&& ~~~BitVec.ofInt k.bits (b : Int)) &&& (BitVec.ofInt k.bits (a : Int) &&& BitVec.ofInt k.bits (b : Int)) = 0#k.bits := by
        apply BitVec.eq_of_getLsbD_eq
        intro i hi
        simp only [BitVec.getLsbD_and, BitVec.getLsbD_not, BitVec.getLsbD_zero]
        cases (BitVec.ofInt k.bits (a : Int)).getLsbD i <;> cases (BitVec.ofInt k.bits (b : Int)).getLsbD i <;> simp
      rw [this]; rfl
    rw [BitVec.toNat_or, or_add h2, BitVec.toNat_and (BitVec.ofInt k.bits (a : Int)) (BitVec.ofInt k.bits (b : Int)), ofInt_nat ha, ofInt_nat hb] at h1
    omega
  rw [e]
  exact wrap_nat hk (by omega)

theorem and_split (a m : Nat) : (a - (a &&& m)) &&& m = 0 := by
  have : a - (a &&& m) = a &&& (a ^^^ (a &&& m)) := by
    have h1 : (a &&& (a ^^^ (a &&& m))) ||| (a &&& m) = a := by
      apply Nat.eq_of_testBit_eq
      intro i
      simp only [Nat.testBit_or, Nat.testBit_and, Nat.testBit_xor]
      cases a.testBit i <;> cases m.testBit i <;> rfl
    have h2 : (a &&& (a ^^^ (a &&& m))) &&& (a &&& m) = 0 := by
      apply Nat.eq_of_testBit_eq
      intro i
      simp only [Nat.testBit_and, Nat.testBit_xor, Nat.zero_testBit]
      cases a.testBit i <;> cases m.testBit i <;> rfl
    have := or_add h2
    omega
  rw [this]
  apply Nat.eq_of_testBit_eq
  intro i
  simp only [Nat.testBit_and, Nat.testBit_xor, Nat.zero_testBit]
  cases a.testBit i <;> cases m.testBit i <;> rfl

theorem and_put (a b m : Nat) : (a - (a &&& m)) &&& (b &&& m) = 0 := by
  have h : (a - (a &&& m)) &&& (b &&& m) = ((a - (a &&& m)) &&& m) &&& b := by
    rw [Nat.and_comm b m, Nat.and_assoc]
  rw [h, and_split, Nat.zero_and]

theorem xor_bit (a p : Nat) : a ^^^ 2 ^ p = a + 2 ^ p - 2 * (a / 2 ^ p % 2 * 2 ^ p) := by
  have hf := and_field a p 1
  simp only [show 2 ^ 1 - 1 = 1 from rfl, Nat.mul_one, show 2 ^ 1 = 2 from rfl] at hf
  have h1 : (a ^^^ 2 ^ p) = (a - (a &&& 2 ^ p)) ||| (2 ^ p - (2 ^ p &&& (a &&& 2 ^ p))) := by
    have e : ∀ x y : Nat, x - (x &&& y) = x &&& (x ^^^ y) := by
      intro x y
      have h1 : (x &&& (x ^^^ y)) ||| (x &&& y) = x := by
        apply Nat.eq_of_testBit_eq
        intro i
        simp only [Nat.testBit_or, Nat.testBit_and, Nat.testBit_xor]
        cases x.testBit i <;> cases y.testBit i <;> rfl
      have h2 : (x &&& (x ^^^ y)) &&& (x &&& y) = 0 := by
        apply Nat.eq_of_testBit_eq
        intro i
        simp only [Nat.testBit_and, Nat.testBit_xor, Nat.zero_testBit]
        cases x.testBit i <;> cases y.testBit i <;> rfl
      have := or_add h2
      omega
    rw [e, e]
    apply Nat.eq_of_testBit_eq
    intro i
    simp only [Nat.testBit_or, Nat.testBit_and, Nat.testBit_xor]
    cases a.testBit i <;> cases (2 ^ p).testBit i <;> rfl
  have h3 : (a - (a &&& 2 ^ p)) &&& (2 ^ p - (2 ^ p &&& (a &&& 2 ^ p))) = 0 := by
    have : 2 ^ p - (2 ^ p &&& (a &&& 2 ^ p)) = 2 ^ p - (2 ^ p &&& (a &&& 2 ^ p)) &&& 2 ^ p := by
      rw [hf]
      rcases Nat.mod_two_eq_zero_or_one (a / 2 ^ p) with h | h <;> rw [h] <;> simp
    rw [this]
    exact and_put a _ _
  rw [h1, or_add h3, hf]
  have hle : a / 2 ^ p % 2 * 2 ^ p ≤ a := by rw [← hf]; exact Nat.and_le_left
  rcases Nat.mod_two_eq_zero_or_one (a / 2 ^ p) with h | h <;> rw [h] at hle ⊢
  · simp
  · simp at hle ⊢; omega

theorem and_low {a b n : Nat} (h : b < 2 ^ n) : (a * 2 ^ n) &&& b = 0 := by
  have := Nat.two_pow_add_eq_or_of_lt h a
  apply Nat.eq_of_testBit_eq
  intro i
  rw [Nat.testBit_and, Nat.testBit_mul_two_pow, Nat.zero_testBit]
  by_cases hi : n ≤ i
  · rw [Nat.testBit_lt_two_pow (Nat.lt_of_lt_of_le h (Nat.pow_le_pow_right (by omega) hi))]; simp
  · simp [hi]

-- ---------------------------------------------------------------- the same of integers

theorem bAnd_field {k : IntKind} (hk : small k = true) (p n : Nat) {a m : Int} (hm : m = ((2 ^ p * (2 ^ n - 1) : Nat) : Int)) (h0 : 0 ≤ a) (h1 : a < ((2 ^ k.bits : Nat) : Int)) (hb : 2 ^ p * (2 ^ n - 1) < 2 ^ k.bits) :
    bAnd k a m = a / ((2 ^ p : Nat) : Int) % ((2 ^ n : Nat) : Int) * ((2 ^ p : Nat) : Int) := by
  obtain ⟨x, rfl⟩ := Int.eq_ofNat_of_zero_le h0
  subst hm
  rw [and_nat hk (by exact_mod_cast h1) hb, and_field]
  norm_cast

theorem bAndNot_eq {k : IntKind} (hk : small k = true) {a m : Int} (h0 : 0 ≤ a) (h1 : a < ((2 ^ k.bits : Nat) : Int)) (hm0 : 0 ≤ m) (hm1 : m < ((2 ^ k.bits : Nat) : Int)) : bAndNot k a m = a - bAnd k a m := by
  obtain ⟨x, rfl⟩ := Int.eq_ofNat_of_zero_le h0
  obtain ⟨y, rfl⟩ := Int.eq_ofNat_of_zero_le hm0
  rw [andnot_nat hk (by exact_mod_cast h1) (by exact_mod_cast hm1), and_nat hk (by exact_mod_cast h1) (by exact_mod_cast hm1)]
  have : x &&& y ≤ x := Nat.and_le_left
  omega

/-- A field put into a number. -/
theorem bOr_put {k : IntKind} (hk : small k = true) {a b m : Int} (h0 : 0 ≤ a) (h1 : a < ((2 ^ k.bits : Nat) : Int)) (hb0 : 0 ≤ b) (hb1 : b < ((2 ^ k.bits : Nat) : Int)) (hm0 : 0 ≤ m) (hm1 : m < ((2 ^ k.bits : Nat) : Int)) :
    bOr k (bAndNot k a m) (bAnd k b m) = a - bAnd k a m + bAnd k b m := by
  obtain ⟨x, rfl⟩ := Int.eq_ofNat_of_zero_le h0
  obtain ⟨y, rfl⟩ := Int.eq_ofNat_of_zero_le hm0
  obtain ⟨z, rfl⟩ := Int.eq_ofNat_of_zero_le hb0
  have hx : x < 2 ^ k.bits := by exact_mod_cast h1
  have hy : y < 2 ^ k.bits := by exact_mod_cast hm1
  have hz : z < 2 ^ k.bits := by exact_mod_cast hb1
  rw [andnot_nat hk hx hy, and_nat hk hx hy, and_nat hk hz hy, or_nat hk (by omega) (Nat.lt_of_le_of_lt Nat.and_le_left hz), or_add (and_put x z y)]
  have : x &&& y ≤ x := Nat.and_le_left
  omega

/-- Two numbers, the one above the other. -/
theorem bOr_low {k : IntKind} (hk : small k = true) (n : Nat) {a b : Int} (h0 : 0 ≤ a) (h1 : a < ((2 ^ k.bits : Nat) : Int)) (hb0 : 0 ≤ b) (hb1 : b < ((2 ^ n : Nat) : Int)) (hd : a % ((2 ^ n : Nat) : Int) = 0) (hn : 2 ^ n ≤ 2 ^ k.bits) :
    bOr k a b = a + b := by
  obtain ⟨x, rfl⟩ := Int.eq_ofNat_of_zero_le h0
  obtain ⟨y, rfl⟩ := Int.eq_ofNat_of_zero_le hb0
  have hx : x < 2 ^ k.bits := by exact_mod_cast h1
  have hy : y < 2 ^ n := by exact_mod_cast hb1
  have hd : x % 2 ^ n = 0 := by exact_mod_cast hd
  rw [or_nat hk hx (by omega), or_add ?_]
  · norm_cast
  · have e : x = x / 2 ^ n * 2 ^ n := by have := Nat.div_add_mod x (2 ^ n); rw [hd, Nat.add_zero, Nat.mul_comm] at this; exact this.symm
    rw [e]
    exact and_low hy

theorem bXor_bit {k : IntKind} (hk : small k = true) (p : Nat) {a m : Int} (hm : m = ((2 ^ p : Nat) : Int)) (h0 : 0 ≤ a) (h1 : a < ((2 ^ k.bits : Nat) : Int)) (hb : 2 ^ p < 2 ^ k.bits) :
    bXor k a m = a + m - 2 * (a / m % 2 * m) := by
  obtain ⟨x, rfl⟩ := Int.eq_ofNat_of_zero_le h0
  subst hm
  rw [xor_nat hk (by exact_mod_cast h1) hb, xor_bit]
  have hle : x / 2 ^ p % 2 * 2 ^ p ≤ x := by
    have := and_field x p 1
    simp only [show 2 ^ 1 - 1 = 1 from rfl, Nat.mul_one, show 2 ^ 1 = 2 from rfl] at this
    rw [← this]; exact Nat.and_le_left
  have h2 : x / 2 ^ p % 2 * 2 ^ p ≤ 2 ^ p := by
    rcases Nat.mod_two_eq_zero_or_one (x / 2 ^ p) with h | h <;> rw [h] <;> simp
  have : 2 * (x / 2 ^ p % 2 * 2 ^ p) ≤ x + 2 ^ p := by omega
  rw [Int.ofNat_sub this]
  norm_cast

end Go.Proofs.Ytgnhhnmpeklciaa.VX
