/-
  Layer 11: a noise's row, one on, as a number. No condition.
-/
import Derived.Test.YtngeghiaakkdbaaDoorTC
namespace Go.Proofs.YtngeghiaakkdbaaDoor
open Go VX IntWalk
set_option maxRecDepth 100000
set_option linter.unusedSimpArgs false
set_option linter.unusedVariables false

/-- A noise's row, one on: the tap is the bit that is added to the lowest one. -/
def stp (tap r : Nat) : Nat := r / 2 + (r % 2 + r / 2 ^ tap % 2) % 2 * 16384

theorem stp_lt {tap r : Nat} (h : r < 32768) : stp tap r < 32768 := by
  unfold stp
  have : (r % 2 + r / 2 ^ tap % 2) % 2 < 2 := Nat.mod_lt _ (by decide)
  omega

theorem xor_mod2 (a b : Nat) : (a ^^^ b) % 2 = (a + b) % 2 := by
  have h := @Nat.xor_mod_two_eq_one a b
  have ha := Nat.mod_two_eq_zero_or_one a
  have hb := Nat.mod_two_eq_zero_or_one b
  have hx := Nat.mod_two_eq_zero_or_one (a ^^^ b)
  rcases ha with ha | ha <;> rcases hb with hb | hb <;> rcases hx with hx | hx <;> simp [ha, hb, hx] at h <;> omega

theorem row_eq (tap : Nat) (ht : tap = 1 ∨ tap = 6) (r : Nat) (hr : r < 32768) :
    bOr .u16 (bShr .u16 (r : Int) 1) (bShl .u16 (bAnd .u16 (bXor .u16 (r : Int) (bShr .u16 (r : Int) (tap : Int))) 1) 14) = (stp tap r : Nat) := by
  have hs : bShr .u16 (r : Int) (tap : Int) = ((r / 2 ^ tap : Nat) : Int) := by
    rw [shr8 (k := .u16) tap (by rcases ht with rfl | rfl <;> decide)]; norm_cast
  have hd : r / 2 ^ tap < 32768 := Nat.lt_of_le_of_lt (Nat.div_le_self _ _) hr
  have hx : r ^^^ (r / 2 ^ tap) < 2 ^ 15 := Nat.xor_lt_two_pow hr hd
  have hx' : r ^^^ (r / 2 ^ tap) < 32768 := hx
  have h1 : bShr .u16 (r : Int) 1 = ((r / 2 : Nat) : Int) := by rw [shr16_1]; norm_cast
  rw [h1, hs, xor_nat (k := .u16) rfl (show r < 65536 by omega) (show r / 2 ^ tap < 65536 by omega), and16_1 (by omega)]
  have e2 : (((r ^^^ (r / 2 ^ tap) : Nat) : Int) % 2) = (((r + r / 2 ^ tap) % 2 : Nat) : Int) := by
    rw [← xor_mod2]; norm_cast
  rw [e2]
  have e3 : (r % 2 + r / 2 ^ tap % 2) % 2 = (r + r / 2 ^ tap) % 2 := by omega
  unfold stp
  rw [e3]
  have hc : (r + r / 2 ^ tap) % 2 < 2 := Nat.mod_lt _ (by decide)
  generalize (r + r / 2 ^ tap) % 2 = c at hc ⊢
  have e4 : bShl .u16 (c : Int) 14 = ((c * 16384 : Nat) : Int) := by
    unfold bShl
    have : (2 : Int) ^ (min (14 : Int).toNat IntKind.u16.bits) = 16384 := by decide
    rw [this, u16_in _ (by omega)]; omega
  have hcm : bOr .u16 ((r / 2 : Nat) : Int) ((c * 16384 : Nat) : Int) = bOr .u16 ((c * 16384 : Nat) : Int) ((r / 2 : Nat) : Int) := by unfold bOr; rw [BitVec.or_comm]
  rw [e4, hcm, bOr_low (k := .u16) rfl 14 (by omega) (by show _ < ((65536 : Nat) : Int); omega) (by omega) (by show _ < ((16384 : Nat) : Int); omega) (by show _ % ((16384 : Nat) : Int) = 0; omega) (by decide)]
  omega

end Go.Proofs.YtngeghiaakkdbaaDoor
