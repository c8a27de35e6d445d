/-
  The picture: bounds of places. No condition.
-/
import Derived.Test.YtgnhhnmpeklciaaPA
import Derived.Test.YtgnhhnmpeklciaaVN
namespace Go.Proofs.Ytgnhhnmpeklciaa
open Go VX
set_option linter.unusedVariables false
set_option linter.unusedSimpArgs false
set_option maxRecDepth 100000

theorem at2 (i off m : Nat) (s : Option Nat) : Value.pointer (some ⟨i, bif Nat.beq off 0 then m else off + m, s⟩) = .pointer (some ⟨i, off + m, s⟩) := by
  cases e : Nat.beq off 0
  · rfl
  · have : off = 0 := Nat.eq_of_beq_eq_true e
    subst this; simp
theorem band16 (a m : Int) (h0 : 0 ≤ m) (h1 : m < 65536) : 0 ≤ bAnd .u16 a m ∧ bAnd .u16 a m ≤ m := by
  have e : bAnd .u16 a m = ((BitVec.ofInt 16 a &&& BitVec.ofInt 16 m).toNat : Int) := by
    show IntKind.u16.wrap _ = _
    rw [IntKind.wrap_u16]
    have := (BitVec.ofInt 16 a &&& BitVec.ofInt 16 m).isLt
    show ((BitVec.ofInt 16 a &&& BitVec.ofInt 16 m).toNat : Int) % 65536 = _
    omega
  have h2 : (BitVec.ofInt 16 a &&& BitVec.ofInt 16 m).toNat ≤ (BitVec.ofInt 16 m).toNat := by rw [BitVec.toNat_and]; exact Nat.and_le_right
  have h3 : ((BitVec.ofInt 16 m).toNat : Int) = m := by rw [BitVec.toNat_ofInt]; omega
  rw [e]; omega
theorem band8 (a m : Int) (h0 : 0 ≤ m) (h1 : m < 256) : 0 ≤ bAnd .u8 a m ∧ bAnd .u8 a m ≤ m := by
  have e : bAnd .u8 a m = ((BitVec.ofInt 8 a &&& BitVec.ofInt 8 m).toNat : Int) := by
    show IntKind.u8.wrap _ = _
    rw [IntKind.wrap_u8]
    have := (BitVec.ofInt 8 a &&& BitVec.ofInt 8 m).isLt
    show ((BitVec.ofInt 8 a &&& BitVec.ofInt 8 m).toNat : Int) % 256 = _
    omega
  have h2 : (BitVec.ofInt 8 a &&& BitVec.ofInt 8 m).toNat ≤ (BitVec.ofInt 8 m).toNat := by rw [BitVec.toNat_and]; exact Nat.and_le_right
  have h3 : ((BitVec.ofInt 8 m).toNat : Int) = m := by rw [BitVec.toNat_ofInt]; omega
  rw [e]; omega
theorem bor16 (a b : Int) (n : Nat) (hn : n ≤ 16) (ha : 0 ≤ a ∧ a < ((2 ^ n : Nat) : Int)) (hb : 0 ≤ b ∧ b < ((2 ^ n : Nat) : Int)) : 0 ≤ bOr .u16 a b ∧ bOr .u16 a b < ((2 ^ n : Nat) : Int) := by
  have e : bOr .u16 a b = ((BitVec.ofInt 16 a ||| BitVec.ofInt 16 b).toNat : Int) := by
    show IntKind.u16.wrap _ = _
    rw [IntKind.wrap_u16]
    have := (BitVec.ofInt 16 a ||| BitVec.ofInt 16 b).isLt
    show ((BitVec.ofInt 16 a ||| BitVec.ofInt 16 b).toNat : Int) % 65536 = _
    omega
  have hp : (2 ^ n : Nat) ≤ 2 ^ 16 := Nat.pow_le_pow_right (by decide) hn
  have h3 : ∀ m : Int, 0 ≤ m ∧ m < ((2 ^ n : Nat) : Int) → (BitVec.ofInt 16 m).toNat < 2 ^ n := by
    intro m hm
    rw [BitVec.toNat_ofInt]
    have : m % ((2 ^ 16 : Nat) : Int) = m := Int.emod_eq_of_lt hm.1 (by omega)
    rw [this]; omega
  have h2 : (BitVec.ofInt 16 a ||| BitVec.ofInt 16 b).toNat < 2 ^ n := by rw [BitVec.toNat_or]; exact Nat.or_lt_two_pow (h3 a ha) (h3 b hb)
  rw [e]; omega

theorem bandnot1 (a : Int) : 0 ≤ bAndNot .u8 a 1 ∧ bAndNot .u8 a 1 ≤ 254 := by
  have e : bAndNot .u8 a 1 = ((BitVec.ofInt 8 a &&& ~~~ BitVec.ofInt 8 1).toNat : Int) := by
    show IntKind.u8.wrap _ = _
    rw [IntKind.wrap_u8]
    have := (BitVec.ofInt 8 a &&& ~~~ BitVec.ofInt 8 1).isLt
    show ((BitVec.ofInt 8 a &&& ~~~ BitVec.ofInt 8 1).toNat : Int) % 256 = _
    omega
  have h2 : (BitVec.ofInt 8 a &&& ~~~ BitVec.ofInt 8 1).toNat ≤ (~~~ BitVec.ofInt 8 1).toNat := by rw [BitVec.toNat_and]; exact Nat.and_le_right
  have h3 : (~~~ BitVec.ofInt 8 1).toNat = 254 := by decide
  rw [e]; omega
theorem tdiv_8 (x : Int) (h : 0 ≤ x) : Int.tdiv x 8 = x / 8 := Int.tdiv_eq_ediv_of_nonneg h

theorem tmod_8 (x : Int) (h : 0 ≤ x) : 0 ≤ Int.tmod x 8 ∧ Int.tmod x 8 < 8 := by rw [Int.tmod_eq_emod_of_nonneg h]; omega

theorem mirror_lt (a : Int) (u : Bool) : 0 ≤ mirror a u ∧ mirror a u < 2048 := by
  unfold mirror
  split
  · have h1 := band16 a 1023 (by decide) (by decide)
    have h2 := band16 (bShr .u16 a 1) 1024 (by decide) (by decide)
    exact bor16 _ _ 11 (by decide) ⟨h1.1, by show _ < 2048; omega⟩ ⟨h2.1, by show _ < 2048; omega⟩
  · have := band16 a 2047 (by decide) (by decide); omega
def colB (n : Nat) : Bool := decide (0 ≤ bAndNot .u8 (n : Int) 16) && decide (bAndNot .u8 (n : Int) 16 < 32)
theorem col_all : allN colB 5 0 = true := by kernel_rfl
theorem colour_lt (a : Int) : 0 ≤ colour a ∧ colour a < 32 := by
  have h1 := band16 a 31 (by decide) (by decide)
  have e : IntKind.u8.wrap (bAnd .u16 a 31) = bAnd .u16 a 31 := by rw [IntKind.wrap_u8]; omega
  unfold colour
  rw [e]
  split
  · have h := allN_int col_all _ h1.1 (by show _ < 32; omega)
    unfold colB at h
    rw [Int.toNat_of_nonneg h1.1, Bool.and_eq_true, decide_eq_true_eq, decide_eq_true_eq] at h
    exact h
  · omega
theorem sRow_lt (s : Scroll) : 0 ≤ sRow s ∧ sRow s < 8 := by
  have h := band16 s.V 28672 (by decide) (by decide)
  have e : bShr .u16 (bAnd .u16 s.V 28672) 12 = bAnd .u16 s.V 28672 / 4096 := by
    show Int.fdiv _ 4096 = _
    exact Int.fdiv_eq_ediv_of_nonneg _ (by decide)
  unfold sRow
  rw [e, IntKind.wrap_u8]; omega
end Go.Proofs.Ytgnhhnmpeklciaa
