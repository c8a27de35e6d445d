/-
  Layer 8: the operations that change a byte, of the program and of the reference: the same. Written by gen_an.py. No condition.
-/
import Derived.Test.YtfjeifmenlnkkaaAH
import Derived.Test.YtfjeifmenlnkkaaAJ
namespace Go.Proofs.Ytfjeifmenlnkkaa
open Go VX IntWalk
set_option maxRecDepth 100000
set_option linter.unusedSimpArgs false
set_option linter.unusedVariables false

theorem dbl {m : Int} (hm : 0 ≤ m ∧ m < 256) : (IntKind.i64.wrap (2 * m)).tmod 256 = m * 2 % 256 := by
  rw [i64_in (2 * m) (by omega), Int.tmod_eq_emod_of_nonneg (by omega)]; omega
theorem half {m : Int} (hm : 0 ≤ m ∧ m < 256) : IntKind.i64.wrap (m.tdiv 2) = m / 2 := by
  rw [Int.tdiv_eq_ediv_of_nonneg hm.1, i64_in _ (by omega)]
theorem top1 {m : Int} (hm : 0 ≤ m ∧ m < 256) : IntKind.i64.wrap (m.tdiv 128) = b2i (decide (m / 128 % 2 = 1)) := neg_div hm

theorem c_asl (A X Y S m : Int) (b0 b1 b2 b3 b4 b5 b6 b7 : Bool) (ha : 0 ≤ A ∧ A < 256) (hx : 0 ≤ X ∧ X < 256) (hy : 0 ≤ Y ∧ Y < 256) (hs : 0 ≤ S ∧ S < 256) (hm : 0 ≤ m ∧ m < 256) : u_asl ⟨A, X, Y, S, pk b0 b1 b2 b3 b4 b5 b6 b7⟩ m = (⟨A, X, Y, S, pk (decide (m / 128 % 2 = 1)) (zer (m * 2 % 256)) b2 b3 b4 b5 b6 (neg (m * 2 % 256))⟩, m * 2 % 256) := by
  have hb := b2i_b b0
  unfold u_asl
  rw [shl_1, has_128 hm.1 hm.2, uShifted_eq _ _ _ _ _ _ _ _ _ _ _ _ _ _ (by omega)]

theorem c_lsr (A X Y S m : Int) (b0 b1 b2 b3 b4 b5 b6 b7 : Bool) (ha : 0 ≤ A ∧ A < 256) (hx : 0 ≤ X ∧ X < 256) (hy : 0 ≤ Y ∧ Y < 256) (hs : 0 ≤ S ∧ S < 256) (hm : 0 ≤ m ∧ m < 256) : u_lsr ⟨A, X, Y, S, pk b0 b1 b2 b3 b4 b5 b6 b7⟩ m = (⟨A, X, Y, S, pk (decide (m / 1 % 2 = 1)) (zer (m / 2)) b2 b3 b4 b5 b6 (neg (m / 2))⟩, m / 2) := by
  have hb := b2i_b b0
  unfold u_lsr
  rw [shr_1, has_1 hm.1 hm.2, uShifted_eq _ _ _ _ _ _ _ _ _ _ _ _ _ _ (by omega)]

theorem c_rol (A X Y S m : Int) (b0 b1 b2 b3 b4 b5 b6 b7 : Bool) (ha : 0 ≤ A ∧ A < 256) (hx : 0 ≤ X ∧ X < 256) (hy : 0 ≤ Y ∧ Y < 256) (hs : 0 ≤ S ∧ S < 256) (hm : 0 ≤ m ∧ m < 256) : u_rol ⟨A, X, Y, S, pk b0 b1 b2 b3 b4 b5 b6 b7⟩ m = (⟨A, X, Y, S, pk (decide (m / 128 % 2 = 1)) (zer (m * 2 % 256 + b2i b0)) b2 b3 b4 b5 b6 (neg (m * 2 % 256 + b2i b0))⟩, m * 2 % 256 + b2i b0) := by
  have hb := b2i_b b0
  unfold u_rol
  rw [shl_1, has_128 hm.1 hm.2, and1_pk, or_low1 b0 (by omega) (by omega), uShifted_eq _ _ _ _ _ _ _ _ _ _ _ _ _ _ (by omega)]

theorem c_ror (A X Y S m : Int) (b0 b1 b2 b3 b4 b5 b6 b7 : Bool) (ha : 0 ≤ A ∧ A < 256) (hx : 0 ≤ X ∧ X < 256) (hy : 0 ≤ Y ∧ Y < 256) (hs : 0 ≤ S ∧ S < 256) (hm : 0 ≤ m ∧ m < 256) : u_ror ⟨A, X, Y, S, pk b0 b1 b2 b3 b4 b5 b6 b7⟩ m = (⟨A, X, Y, S, pk (decide (m / 1 % 2 = 1)) (zer (m / 2 + 128 * b2i b0)) b2 b3 b4 b5 b6 (neg (m / 2 + 128 * b2i b0))⟩, m / 2 + 128 * b2i b0) := by
  have hb := b2i_b b0
  unfold u_ror
  rw [shr_1, has_1 hm.1 hm.2, and1_pk, shl_7, or_top b0 (by omega), uShifted_eq _ _ _ _ _ _ _ _ _ _ _ _ _ _ (by omega)]

theorem c_inc (A X Y S m : Int) (b0 b1 b2 b3 b4 b5 b6 b7 : Bool) (ha : 0 ≤ A ∧ A < 256) (hx : 0 ≤ X ∧ X < 256) (hy : 0 ≤ Y ∧ Y < 256) (hs : 0 ≤ S ∧ S < 256) (hm : 0 ≤ m ∧ m < 256) : u_inc ⟨A, X, Y, S, pk b0 b1 b2 b3 b4 b5 b6 b7⟩ m = (⟨A, X, Y, S, pk b0 (zer ((m + 1) % 256)) b2 b3 b4 b5 b6 (neg ((m + 1) % 256))⟩, (m + 1) % 256) := by
  have hb := b2i_b b0
  unfold u_inc
  rw [u8_add1, uSign_eq _ _ _ _ _ _ _ _ _ _ _ _ _ (by omega)]

theorem c_dec (A X Y S m : Int) (b0 b1 b2 b3 b4 b5 b6 b7 : Bool) (ha : 0 ≤ A ∧ A < 256) (hx : 0 ≤ X ∧ X < 256) (hy : 0 ≤ Y ∧ Y < 256) (hs : 0 ≤ S ∧ S < 256) (hm : 0 ≤ m ∧ m < 256) : u_dec ⟨A, X, Y, S, pk b0 b1 b2 b3 b4 b5 b6 b7⟩ m = (⟨A, X, Y, S, pk b0 (zer ((m - 1) % 256)) b2 b3 b4 b5 b6 (neg ((m - 1) % 256))⟩, (m - 1) % 256) := by
  have hb := b2i_b b0
  unfold u_dec
  rw [u8_sub1, uSign_eq _ _ _ _ _ _ _ _ _ _ _ _ _ (by omega)]

theorem d_ASL (A X Y S m : Int) (b0 b1 b2 b3 b4 b5 b6 b7 : Bool) (ha : 0 ≤ A ∧ A < 256) (hx : 0 ≤ X ∧ X < 256) (hy : 0 ≤ Y ∧ Y < 256) (hs : 0 ≤ S ∧ S < 256) (hm : 0 ≤ m ∧ m < 256) : rChange_ASL ⟨A, X, Y, S, pk b0 b1 b2 b3 b4 b5 b6 b7⟩ m = (⟨A, X, Y, S, pk (decide (m / 128 % 2 = 1)) (zer (m * 2 % 256)) b2 b3 b4 b5 b6 (neg (m * 2 % 256))⟩, m * 2 % 256) := by
  have hb := b2i_b b0
  unfold rChange_ASL
  simp only [dbl hm]
  rw [rSet_1 _ _ _ _ _ _ _ _ _ _ _ _ _ _ (top1 hm), rSign_eq _ _ _ _ _ _ _ _ _ _ _ _ _ (by omega)]

theorem d_LSR (A X Y S m : Int) (b0 b1 b2 b3 b4 b5 b6 b7 : Bool) (ha : 0 ≤ A ∧ A < 256) (hx : 0 ≤ X ∧ X < 256) (hy : 0 ≤ Y ∧ Y < 256) (hs : 0 ≤ S ∧ S < 256) (hm : 0 ≤ m ∧ m < 256) : rChange_LSR ⟨A, X, Y, S, pk b0 b1 b2 b3 b4 b5 b6 b7⟩ m = (⟨A, X, Y, S, pk (decide (m / 1 % 2 = 1)) (zer (m / 2)) b2 b3 b4 b5 b6 (neg (m / 2))⟩, m / 2) := by
  have hb := b2i_b b0
  unfold rChange_LSR
  simp only [half hm, mod_b2i hm.1]
  rw [rSet_1 _ _ _ _ _ _ _ _ _ _ _ _ _ _ rfl, rSign_eq _ _ _ _ _ _ _ _ _ _ _ _ _ (by omega)]

theorem d_ROL (A X Y S m : Int) (b0 b1 b2 b3 b4 b5 b6 b7 : Bool) (ha : 0 ≤ A ∧ A < 256) (hx : 0 ≤ X ∧ X < 256) (hy : 0 ≤ Y ∧ Y < 256) (hs : 0 ≤ S ∧ S < 256) (hm : 0 ≤ m ∧ m < 256) : rChange_ROL ⟨A, X, Y, S, pk b0 b1 b2 b3 b4 b5 b6 b7⟩ m = (⟨A, X, Y, S, pk (decide (m / 128 % 2 = 1)) (zer (m * 2 % 256 + b2i b0)) b2 b3 b4 b5 b6 (neg (m * 2 % 256 + b2i b0))⟩, m * 2 % 256 + b2i b0) := by
  have hb := b2i_b b0
  unfold rChange_ROL
  simp only [dbl hm, rHas_1]
  rw [i64_in (m * 2 % 256 + b2i b0) (by omega), rSet_1 _ _ _ _ _ _ _ _ _ _ _ _ _ _ (top1 hm), rSign_eq _ _ _ _ _ _ _ _ _ _ _ _ _ (by omega)]

theorem d_ROR (A X Y S m : Int) (b0 b1 b2 b3 b4 b5 b6 b7 : Bool) (ha : 0 ≤ A ∧ A < 256) (hx : 0 ≤ X ∧ X < 256) (hy : 0 ≤ Y ∧ Y < 256) (hs : 0 ≤ S ∧ S < 256) (hm : 0 ≤ m ∧ m < 256) : rChange_ROR ⟨A, X, Y, S, pk b0 b1 b2 b3 b4 b5 b6 b7⟩ m = (⟨A, X, Y, S, pk (decide (m / 1 % 2 = 1)) (zer (m / 2 + 128 * b2i b0)) b2 b3 b4 b5 b6 (neg (m / 2 + 128 * b2i b0))⟩, m / 2 + 128 * b2i b0) := by
  have hb := b2i_b b0
  unfold rChange_ROR
  simp only [half hm, mod_b2i hm.1, rHas_1]
  rw [i64_in (128 * b2i b0) (by omega), i64_in (m / 2 + 128 * b2i b0) (by omega), rSet_1 _ _ _ _ _ _ _ _ _ _ _ _ _ _ rfl, rSign_eq _ _ _ _ _ _ _ _ _ _ _ _ _ (by omega)]

theorem d_INC (A X Y S m : Int) (b0 b1 b2 b3 b4 b5 b6 b7 : Bool) (ha : 0 ≤ A ∧ A < 256) (hx : 0 ≤ X ∧ X < 256) (hy : 0 ≤ Y ∧ Y < 256) (hs : 0 ≤ S ∧ S < 256) (hm : 0 ≤ m ∧ m < 256) : rChange_INC ⟨A, X, Y, S, pk b0 b1 b2 b3 b4 b5 b6 b7⟩ m = (⟨A, X, Y, S, pk b0 (zer ((m + 1) % 256)) b2 b3 b4 b5 b6 (neg ((m + 1) % 256))⟩, (m + 1) % 256) := by
  have hb := b2i_b b0
  unfold rChange_INC
  rw [i64_in (m + 1) (by omega), Int.tmod_eq_emod_of_nonneg (show 0 ≤ m + 1 by omega), rSign_eq _ _ _ _ _ _ _ _ _ _ _ _ _ (by omega)]

theorem d_DEC (A X Y S m : Int) (b0 b1 b2 b3 b4 b5 b6 b7 : Bool) (ha : 0 ≤ A ∧ A < 256) (hx : 0 ≤ X ∧ X < 256) (hy : 0 ≤ Y ∧ Y < 256) (hs : 0 ≤ S ∧ S < 256) (hm : 0 ≤ m ∧ m < 256) : rChange_DEC ⟨A, X, Y, S, pk b0 b1 b2 b3 b4 b5 b6 b7⟩ m = (⟨A, X, Y, S, pk b0 (zer ((m - 1) % 256)) b2 b3 b4 b5 b6 (neg ((m - 1) % 256))⟩, (m - 1) % 256) := by
  have hb := b2i_b b0
  unfold rChange_DEC
  rw [i64_in (m + 255) (by omega), Int.tmod_eq_emod_of_nonneg (show 0 ≤ m + 255 by omega), show (m + 255) % 256 = (m - 1) % 256 by omega, rSign_eq _ _ _ _ _ _ _ _ _ _ _ _ _ (by omega)]

theorem c_slo (A X Y S m : Int) (b0 b1 b2 b3 b4 b5 b6 b7 : Bool) (ha : 0 ≤ A ∧ A < 256) (hx : 0 ≤ X ∧ X < 256) (hy : 0 ≤ Y ∧ Y < 256) (hs : 0 ≤ S ∧ S < 256) (hm : 0 ≤ m ∧ m < 256) : u_slo ⟨A, X, Y, S, pk b0 b1 b2 b3 b4 b5 b6 b7⟩ m = (u_ora ⟨A, X, Y, S, pk (decide (m / 128 % 2 = 1)) (zer (m * 2 % 256)) b2 b3 b4 b5 b6 (neg (m * 2 % 256))⟩ (m * 2 % 256), m * 2 % 256) := by
  unfold u_slo uThen_slo
  rw [c_asl A X Y S m b0 b1 b2 b3 b4 b5 b6 b7 ha hx hy hs hm]
theorem d_SLO (A X Y S m : Int) (b0 b1 b2 b3 b4 b5 b6 b7 : Bool) (ha : 0 ≤ A ∧ A < 256) (hx : 0 ≤ X ∧ X < 256) (hy : 0 ≤ Y ∧ Y < 256) (hs : 0 ≤ S ∧ S < 256) (hm : 0 ≤ m ∧ m < 256) : rChange_SLO ⟨A, X, Y, S, pk b0 b1 b2 b3 b4 b5 b6 b7⟩ m = (rRead_ORA ⟨A, X, Y, S, pk (decide (m / 128 % 2 = 1)) (zer (m * 2 % 256)) b2 b3 b4 b5 b6 (neg (m * 2 % 256))⟩ (m * 2 % 256), m * 2 % 256) := by
  have hb := b2i_b b0
  unfold rChange_SLO
  simp only [dbl hm]
  rw [rSet_1 _ _ _ _ _ _ _ _ _ _ _ _ _ _ (top1 hm), rSign_eq _ _ _ _ _ _ _ _ _ _ _ _ _ (by omega)]

theorem c_rla (A X Y S m : Int) (b0 b1 b2 b3 b4 b5 b6 b7 : Bool) (ha : 0 ≤ A ∧ A < 256) (hx : 0 ≤ X ∧ X < 256) (hy : 0 ≤ Y ∧ Y < 256) (hs : 0 ≤ S ∧ S < 256) (hm : 0 ≤ m ∧ m < 256) : u_rla ⟨A, X, Y, S, pk b0 b1 b2 b3 b4 b5 b6 b7⟩ m = (u_and ⟨A, X, Y, S, pk (decide (m / 128 % 2 = 1)) (zer (m * 2 % 256 + b2i b0)) b2 b3 b4 b5 b6 (neg (m * 2 % 256 + b2i b0))⟩ (m * 2 % 256 + b2i b0), m * 2 % 256 + b2i b0) := by
  unfold u_rla uThen_rla
  rw [c_rol A X Y S m b0 b1 b2 b3 b4 b5 b6 b7 ha hx hy hs hm]
theorem d_RLA (A X Y S m : Int) (b0 b1 b2 b3 b4 b5 b6 b7 : Bool) (ha : 0 ≤ A ∧ A < 256) (hx : 0 ≤ X ∧ X < 256) (hy : 0 ≤ Y ∧ Y < 256) (hs : 0 ≤ S ∧ S < 256) (hm : 0 ≤ m ∧ m < 256) : rChange_RLA ⟨A, X, Y, S, pk b0 b1 b2 b3 b4 b5 b6 b7⟩ m = (rRead_AND ⟨A, X, Y, S, pk (decide (m / 128 % 2 = 1)) (zer (m * 2 % 256 + b2i b0)) b2 b3 b4 b5 b6 (neg (m * 2 % 256 + b2i b0))⟩ (m * 2 % 256 + b2i b0), m * 2 % 256 + b2i b0) := by
  have hb := b2i_b b0
  unfold rChange_RLA
  simp only [dbl hm, rHas_1]
  rw [i64_in (m * 2 % 256 + b2i b0) (by omega), rSet_1 _ _ _ _ _ _ _ _ _ _ _ _ _ _ (top1 hm), rSign_eq _ _ _ _ _ _ _ _ _ _ _ _ _ (by omega)]

theorem c_sre (A X Y S m : Int) (b0 b1 b2 b3 b4 b5 b6 b7 : Bool) (ha : 0 ≤ A ∧ A < 256) (hx : 0 ≤ X ∧ X < 256) (hy : 0 ≤ Y ∧ Y < 256) (hs : 0 ≤ S ∧ S < 256) (hm : 0 ≤ m ∧ m < 256) : u_sre ⟨A, X, Y, S, pk b0 b1 b2 b3 b4 b5 b6 b7⟩ m = (u_eor ⟨A, X, Y, S, pk (decide (m / 1 % 2 = 1)) (zer (m / 2)) b2 b3 b4 b5 b6 (neg (m / 2))⟩ (m / 2), m / 2) := by
  unfold u_sre uThen_sre
  rw [c_lsr A X Y S m b0 b1 b2 b3 b4 b5 b6 b7 ha hx hy hs hm]
theorem d_SRE (A X Y S m : Int) (b0 b1 b2 b3 b4 b5 b6 b7 : Bool) (ha : 0 ≤ A ∧ A < 256) (hx : 0 ≤ X ∧ X < 256) (hy : 0 ≤ Y ∧ Y < 256) (hs : 0 ≤ S ∧ S < 256) (hm : 0 ≤ m ∧ m < 256) : rChange_SRE ⟨A, X, Y, S, pk b0 b1 b2 b3 b4 b5 b6 b7⟩ m = (rRead_EOR ⟨A, X, Y, S, pk (decide (m / 1 % 2 = 1)) (zer (m / 2)) b2 b3 b4 b5 b6 (neg (m / 2))⟩ (m / 2), m / 2) := by
  have hb := b2i_b b0
  unfold rChange_SRE
  simp only [half hm, mod_b2i hm.1]
  rw [rSet_1 _ _ _ _ _ _ _ _ _ _ _ _ _ _ rfl, rSign_eq _ _ _ _ _ _ _ _ _ _ _ _ _ (by omega)]

theorem c_rra (A X Y S m : Int) (b0 b1 b2 b3 b4 b5 b6 b7 : Bool) (ha : 0 ≤ A ∧ A < 256) (hx : 0 ≤ X ∧ X < 256) (hy : 0 ≤ Y ∧ Y < 256) (hs : 0 ≤ S ∧ S < 256) (hm : 0 ≤ m ∧ m < 256) : u_rra ⟨A, X, Y, S, pk b0 b1 b2 b3 b4 b5 b6 b7⟩ m = (u_adc ⟨A, X, Y, S, pk (decide (m / 1 % 2 = 1)) (zer (m / 2 + 128 * b2i b0)) b2 b3 b4 b5 b6 (neg (m / 2 + 128 * b2i b0))⟩ (m / 2 + 128 * b2i b0), m / 2 + 128 * b2i b0) := by
  unfold u_rra uThen_rra
  rw [c_ror A X Y S m b0 b1 b2 b3 b4 b5 b6 b7 ha hx hy hs hm]
theorem d_RRA (A X Y S m : Int) (b0 b1 b2 b3 b4 b5 b6 b7 : Bool) (ha : 0 ≤ A ∧ A < 256) (hx : 0 ≤ X ∧ X < 256) (hy : 0 ≤ Y ∧ Y < 256) (hs : 0 ≤ S ∧ S < 256) (hm : 0 ≤ m ∧ m < 256) : rChange_RRA ⟨A, X, Y, S, pk b0 b1 b2 b3 b4 b5 b6 b7⟩ m = (rRead_ADC ⟨A, X, Y, S, pk (decide (m / 1 % 2 = 1)) (zer (m / 2 + 128 * b2i b0)) b2 b3 b4 b5 b6 (neg (m / 2 + 128 * b2i b0))⟩ (m / 2 + 128 * b2i b0), m / 2 + 128 * b2i b0) := by
  have hb := b2i_b b0
  unfold rChange_RRA
  simp only [half hm, mod_b2i hm.1, rHas_1]
  rw [i64_in (128 * b2i b0) (by omega), i64_in (m / 2 + 128 * b2i b0) (by omega), rSet_1 _ _ _ _ _ _ _ _ _ _ _ _ _ _ rfl, rSign_eq _ _ _ _ _ _ _ _ _ _ _ _ _ (by omega)]

theorem c_dcp (A X Y S m : Int) (b0 b1 b2 b3 b4 b5 b6 b7 : Bool) (ha : 0 ≤ A ∧ A < 256) (hx : 0 ≤ X ∧ X < 256) (hy : 0 ≤ Y ∧ Y < 256) (hs : 0 ≤ S ∧ S < 256) (hm : 0 ≤ m ∧ m < 256) : u_dcp ⟨A, X, Y, S, pk b0 b1 b2 b3 b4 b5 b6 b7⟩ m = (u_cmp ⟨A, X, Y, S, pk b0 (zer ((m - 1) % 256)) b2 b3 b4 b5 b6 (neg ((m - 1) % 256))⟩ ((m - 1) % 256), (m - 1) % 256) := by
  unfold u_dcp uThen_dcp
  rw [c_dec A X Y S m b0 b1 b2 b3 b4 b5 b6 b7 ha hx hy hs hm]
theorem d_DCP (A X Y S m : Int) (b0 b1 b2 b3 b4 b5 b6 b7 : Bool) (ha : 0 ≤ A ∧ A < 256) (hx : 0 ≤ X ∧ X < 256) (hy : 0 ≤ Y ∧ Y < 256) (hs : 0 ≤ S ∧ S < 256) (hm : 0 ≤ m ∧ m < 256) : rChange_DCP ⟨A, X, Y, S, pk b0 b1 b2 b3 b4 b5 b6 b7⟩ m = (rRead_CMP ⟨A, X, Y, S, pk b0 (zer ((m - 1) % 256)) b2 b3 b4 b5 b6 (neg ((m - 1) % 256))⟩ ((m - 1) % 256), (m - 1) % 256) := by
  have hb := b2i_b b0
  unfold rChange_DCP
  rw [i64_in (m + 255) (by omega), Int.tmod_eq_emod_of_nonneg (show 0 ≤ m + 255 by omega), show (m + 255) % 256 = (m - 1) % 256 by omega, rSign_eq _ _ _ _ _ _ _ _ _ _ _ _ _ (by omega)]

theorem c_isc (A X Y S m : Int) (b0 b1 b2 b3 b4 b5 b6 b7 : Bool) (ha : 0 ≤ A ∧ A < 256) (hx : 0 ≤ X ∧ X < 256) (hy : 0 ≤ Y ∧ Y < 256) (hs : 0 ≤ S ∧ S < 256) (hm : 0 ≤ m ∧ m < 256) : u_isc ⟨A, X, Y, S, pk b0 b1 b2 b3 b4 b5 b6 b7⟩ m = (u_sbc ⟨A, X, Y, S, pk b0 (zer ((m + 1) % 256)) b2 b3 b4 b5 b6 (neg ((m + 1) % 256))⟩ ((m + 1) % 256), (m + 1) % 256) := by
  unfold u_isc uThen_isc
  rw [c_inc A X Y S m b0 b1 b2 b3 b4 b5 b6 b7 ha hx hy hs hm]
theorem d_ISC (A X Y S m : Int) (b0 b1 b2 b3 b4 b5 b6 b7 : Bool) (ha : 0 ≤ A ∧ A < 256) (hx : 0 ≤ X ∧ X < 256) (hy : 0 ≤ Y ∧ Y < 256) (hs : 0 ≤ S ∧ S < 256) (hm : 0 ≤ m ∧ m < 256) : rChange_ISC ⟨A, X, Y, S, pk b0 b1 b2 b3 b4 b5 b6 b7⟩ m = (rRead_SBC ⟨A, X, Y, S, pk b0 (zer ((m + 1) % 256)) b2 b3 b4 b5 b6 (neg ((m + 1) % 256))⟩ ((m + 1) % 256), (m + 1) % 256) := by
  have hb := b2i_b b0
  unfold rChange_ISC
  rw [i64_in (m + 1) (by omega), Int.tmod_eq_emod_of_nonneg (show 0 ≤ m + 1 by omega), rSign_eq _ _ _ _ _ _ _ _ _ _ _ _ _ (by omega)]

theorem chg_ASL (A X Y S m : Int) (b0 b1 b2 b3 b4 b5 b6 b7 : Bool) (ha : 0 ≤ A ∧ A < 256) (hx : 0 ≤ X ∧ X < 256) (hy : 0 ≤ Y ∧ Y < 256) (hs : 0 ≤ S ∧ S < 256) (hm : 0 ≤ m ∧ m < 256) : own ((uChange_19 ⟨A, X, Y, S, pk b0 b1 b2 b3 b4 b5 b6 b7⟩ m).1) = (rChange_ASL ⟨A, X, Y, S, pk b0 b1 b2 b3 b4 b5 b6 b7⟩ m).1 ∧ IntKind.i64.wrap ((uChange_19 ⟨A, X, Y, S, pk b0 b1 b2 b3 b4 b5 b6 b7⟩ m).2) = (rChange_ASL ⟨A, X, Y, S, pk b0 b1 b2 b3 b4 b5 b6 b7⟩ m).2 := by
  have hb := b2i_b b0
  have e : uChange_19 ⟨A, X, Y, S, pk b0 b1 b2 b3 b4 b5 b6 b7⟩ m = u_asl ⟨A, X, Y, S, pk b0 b1 b2 b3 b4 b5 b6 b7⟩ m := rfl
  rw [e, c_asl A X Y S m b0 b1 b2 b3 b4 b5 b6 b7 ha hx hy hs hm, d_ASL A X Y S m b0 b1 b2 b3 b4 b5 b6 b7 ha hx hy hs hm]
  refine ⟨?_, i64_in _ (by omega)⟩
  exact own_eq _ _ _ _ _ ha hx hy hs (pk_b _ _ _ _ _ _ _ _)

theorem chg_LSR (A X Y S m : Int) (b0 b1 b2 b3 b4 b5 b6 b7 : Bool) (ha : 0 ≤ A ∧ A < 256) (hx : 0 ≤ X ∧ X < 256) (hy : 0 ≤ Y ∧ Y < 256) (hs : 0 ≤ S ∧ S < 256) (hm : 0 ≤ m ∧ m < 256) : own ((uChange_20 ⟨A, X, Y, S, pk b0 b1 b2 b3 b4 b5 b6 b7⟩ m).1) = (rChange_LSR ⟨A, X, Y, S, pk b0 b1 b2 b3 b4 b5 b6 b7⟩ m).1 ∧ IntKind.i64.wrap ((uChange_20 ⟨A, X, Y, S, pk b0 b1 b2 b3 b4 b5 b6 b7⟩ m).2) = (rChange_LSR ⟨A, X, Y, S, pk b0 b1 b2 b3 b4 b5 b6 b7⟩ m).2 := by
  have hb := b2i_b b0
  have e : uChange_20 ⟨A, X, Y, S, pk b0 b1 b2 b3 b4 b5 b6 b7⟩ m = u_lsr ⟨A, X, Y, S, pk b0 b1 b2 b3 b4 b5 b6 b7⟩ m := rfl
  rw [e, c_lsr A X Y S m b0 b1 b2 b3 b4 b5 b6 b7 ha hx hy hs hm, d_LSR A X Y S m b0 b1 b2 b3 b4 b5 b6 b7 ha hx hy hs hm]
  refine ⟨?_, i64_in _ (by omega)⟩
  exact own_eq _ _ _ _ _ ha hx hy hs (pk_b _ _ _ _ _ _ _ _)

theorem chg_ROL (A X Y S m : Int) (b0 b1 b2 b3 b4 b5 b6 b7 : Bool) (ha : 0 ≤ A ∧ A < 256) (hx : 0 ≤ X ∧ X < 256) (hy : 0 ≤ Y ∧ Y < 256) (hs : 0 ≤ S ∧ S < 256) (hm : 0 ≤ m ∧ m < 256) : own ((uChange_21 ⟨A, X, Y, S, pk b0 b1 b2 b3 b4 b5 b6 b7⟩ m).1) = (rChange_ROL ⟨A, X, Y, S, pk b0 b1 b2 b3 b4 b5 b6 b7⟩ m).1 ∧ IntKind.i64.wrap ((uChange_21 ⟨A, X, Y, S, pk b0 b1 b2 b3 b4 b5 b6 b7⟩ m).2) = (rChange_ROL ⟨A, X, Y, S, pk b0 b1 b2 b3 b4 b5 b6 b7⟩ m).2 := by
  have hb := b2i_b b0
  have e : uChange_21 ⟨A, X, Y, S, pk b0 b1 b2 b3 b4 b5 b6 b7⟩ m = u_rol ⟨A, X, Y, S, pk b0 b1 b2 b3 b4 b5 b6 b7⟩ m := rfl
  rw [e, c_rol A X Y S m b0 b1 b2 b3 b4 b5 b6 b7 ha hx hy hs hm, d_ROL A X Y S m b0 b1 b2 b3 b4 b5 b6 b7 ha hx hy hs hm]
  refine ⟨?_, i64_in _ (by omega)⟩
  exact own_eq _ _ _ _ _ ha hx hy hs (pk_b _ _ _ _ _ _ _ _)

theorem chg_ROR (A X Y S m : Int) (b0 b1 b2 b3 b4 b5 b6 b7 : Bool) (ha : 0 ≤ A ∧ A < 256) (hx : 0 ≤ X ∧ X < 256) (hy : 0 ≤ Y ∧ Y < 256) (hs : 0 ≤ S ∧ S < 256) (hm : 0 ≤ m ∧ m < 256) : own ((uChange_22 ⟨A, X, Y, S, pk b0 b1 b2 b3 b4 b5 b6 b7⟩ m).1) = (rChange_ROR ⟨A, X, Y, S, pk b0 b1 b2 b3 b4 b5 b6 b7⟩ m).1 ∧ IntKind.i64.wrap ((uChange_22 ⟨A, X, Y, S, pk b0 b1 b2 b3 b4 b5 b6 b7⟩ m).2) = (rChange_ROR ⟨A, X, Y, S, pk b0 b1 b2 b3 b4 b5 b6 b7⟩ m).2 := by
  have hb := b2i_b b0
  have e : uChange_22 ⟨A, X, Y, S, pk b0 b1 b2 b3 b4 b5 b6 b7⟩ m = u_ror ⟨A, X, Y, S, pk b0 b1 b2 b3 b4 b5 b6 b7⟩ m := rfl
  rw [e, c_ror A X Y S m b0 b1 b2 b3 b4 b5 b6 b7 ha hx hy hs hm, d_ROR A X Y S m b0 b1 b2 b3 b4 b5 b6 b7 ha hx hy hs hm]
  refine ⟨?_, i64_in _ (by omega)⟩
  exact own_eq _ _ _ _ _ ha hx hy hs (pk_b _ _ _ _ _ _ _ _)

theorem chg_INC (A X Y S m : Int) (b0 b1 b2 b3 b4 b5 b6 b7 : Bool) (ha : 0 ≤ A ∧ A < 256) (hx : 0 ≤ X ∧ X < 256) (hy : 0 ≤ Y ∧ Y < 256) (hs : 0 ≤ S ∧ S < 256) (hm : 0 ≤ m ∧ m < 256) : own ((uChange_23 ⟨A, X, Y, S, pk b0 b1 b2 b3 b4 b5 b6 b7⟩ m).1) = (rChange_INC ⟨A, X, Y, S, pk b0 b1 b2 b3 b4 b5 b6 b7⟩ m).1 ∧ IntKind.i64.wrap ((uChange_23 ⟨A, X, Y, S, pk b0 b1 b2 b3 b4 b5 b6 b7⟩ m).2) = (rChange_INC ⟨A, X, Y, S, pk b0 b1 b2 b3 b4 b5 b6 b7⟩ m).2 := by
  have hb := b2i_b b0
  have e : uChange_23 ⟨A, X, Y, S, pk b0 b1 b2 b3 b4 b5 b6 b7⟩ m = u_inc ⟨A, X, Y, S, pk b0 b1 b2 b3 b4 b5 b6 b7⟩ m := rfl
  rw [e, c_inc A X Y S m b0 b1 b2 b3 b4 b5 b6 b7 ha hx hy hs hm, d_INC A X Y S m b0 b1 b2 b3 b4 b5 b6 b7 ha hx hy hs hm]
  refine ⟨?_, i64_in _ (by omega)⟩
  exact own_eq _ _ _ _ _ ha hx hy hs (pk_b _ _ _ _ _ _ _ _)

theorem chg_DEC (A X Y S m : Int) (b0 b1 b2 b3 b4 b5 b6 b7 : Bool) (ha : 0 ≤ A ∧ A < 256) (hx : 0 ≤ X ∧ X < 256) (hy : 0 ≤ Y ∧ Y < 256) (hs : 0 ≤ S ∧ S < 256) (hm : 0 ≤ m ∧ m < 256) : own ((uChange_24 ⟨A, X, Y, S, pk b0 b1 b2 b3 b4 b5 b6 b7⟩ m).1) = (rChange_DEC ⟨A, X, Y, S, pk b0 b1 b2 b3 b4 b5 b6 b7⟩ m).1 ∧ IntKind.i64.wrap ((uChange_24 ⟨A, X, Y, S, pk b0 b1 b2 b3 b4 b5 b6 b7⟩ m).2) = (rChange_DEC ⟨A, X, Y, S, pk b0 b1 b2 b3 b4 b5 b6 b7⟩ m).2 := by
  have hb := b2i_b b0
  have e : uChange_24 ⟨A, X, Y, S, pk b0 b1 b2 b3 b4 b5 b6 b7⟩ m = u_dec ⟨A, X, Y, S, pk b0 b1 b2 b3 b4 b5 b6 b7⟩ m := rfl
  rw [e, c_dec A X Y S m b0 b1 b2 b3 b4 b5 b6 b7 ha hx hy hs hm, d_DEC A X Y S m b0 b1 b2 b3 b4 b5 b6 b7 ha hx hy hs hm]
  refine ⟨?_, i64_in _ (by omega)⟩
  exact own_eq _ _ _ _ _ ha hx hy hs (pk_b _ _ _ _ _ _ _ _)

theorem chg_SLO (A X Y S m : Int) (b0 b1 b2 b3 b4 b5 b6 b7 : Bool) (ha : 0 ≤ A ∧ A < 256) (hx : 0 ≤ X ∧ X < 256) (hy : 0 ≤ Y ∧ Y < 256) (hs : 0 ≤ S ∧ S < 256) (hm : 0 ≤ m ∧ m < 256) : own ((uChange_25 ⟨A, X, Y, S, pk b0 b1 b2 b3 b4 b5 b6 b7⟩ m).1) = (rChange_SLO ⟨A, X, Y, S, pk b0 b1 b2 b3 b4 b5 b6 b7⟩ m).1 ∧ IntKind.i64.wrap ((uChange_25 ⟨A, X, Y, S, pk b0 b1 b2 b3 b4 b5 b6 b7⟩ m).2) = (rChange_SLO ⟨A, X, Y, S, pk b0 b1 b2 b3 b4 b5 b6 b7⟩ m).2 := by
  have hb := b2i_b b0
  have e : uChange_25 ⟨A, X, Y, S, pk b0 b1 b2 b3 b4 b5 b6 b7⟩ m = u_slo ⟨A, X, Y, S, pk b0 b1 b2 b3 b4 b5 b6 b7⟩ m := rfl
  rw [e, c_slo A X Y S m b0 b1 b2 b3 b4 b5 b6 b7 ha hx hy hs hm, d_SLO A X Y S m b0 b1 b2 b3 b4 b5 b6 b7 ha hx hy hs hm]
  refine ⟨?_, i64_in _ (by omega)⟩
  exact read_ORA A X Y S (m * 2 % 256) (decide (m / 128 % 2 = 1)) (zer (m * 2 % 256)) b2 b3 b4 b5 b6 (neg (m * 2 % 256)) ha hx hy hs (by omega)

theorem chg_RLA (A X Y S m : Int) (b0 b1 b2 b3 b4 b5 b6 b7 : Bool) (ha : 0 ≤ A ∧ A < 256) (hx : 0 ≤ X ∧ X < 256) (hy : 0 ≤ Y ∧ Y < 256) (hs : 0 ≤ S ∧ S < 256) (hm : 0 ≤ m ∧ m < 256) : own ((uChange_26 ⟨A, X, Y, S, pk b0 b1 b2 b3 b4 b5 b6 b7⟩ m).1) = (rChange_RLA ⟨A, X, Y, S, pk b0 b1 b2 b3 b4 b5 b6 b7⟩ m).1 ∧ IntKind.i64.wrap ((uChange_26 ⟨A, X, Y, S, pk b0 b1 b2 b3 b4 b5 b6 b7⟩ m).2) = (rChange_RLA ⟨A, X, Y, S, pk b0 b1 b2 b3 b4 b5 b6 b7⟩ m).2 := by
  have hb := b2i_b b0
  have e : uChange_26 ⟨A, X, Y, S, pk b0 b1 b2 b3 b4 b5 b6 b7⟩ m = u_rla ⟨A, X, Y, S, pk b0 b1 b2 b3 b4 b5 b6 b7⟩ m := rfl
  rw [e, c_rla A X Y S m b0 b1 b2 b3 b4 b5 b6 b7 ha hx hy hs hm, d_RLA A X Y S m b0 b1 b2 b3 b4 b5 b6 b7 ha hx hy hs hm]
  refine ⟨?_, i64_in _ (by omega)⟩
  exact read_AND A X Y S (m * 2 % 256 + b2i b0) (decide (m / 128 % 2 = 1)) (zer (m * 2 % 256 + b2i b0)) b2 b3 b4 b5 b6 (neg (m * 2 % 256 + b2i b0)) ha hx hy hs (by omega)

theorem chg_SRE (A X Y S m : Int) (b0 b1 b2 b3 b4 b5 b6 b7 : Bool) (ha : 0 ≤ A ∧ A < 256) (hx : 0 ≤ X ∧ X < 256) (hy : 0 ≤ Y ∧ Y < 256) (hs : 0 ≤ S ∧ S < 256) (hm : 0 ≤ m ∧ m < 256) : own ((uChange_27 ⟨A, X, Y, S, pk b0 b1 b2 b3 b4 b5 b6 b7⟩ m).1) = (rChange_SRE ⟨A, X, Y, S, pk b0 b1 b2 b3 b4 b5 b6 b7⟩ m).1 ∧ IntKind.i64.wrap ((uChange_27 ⟨A, X, Y, S, pk b0 b1 b2 b3 b4 b5 b6 b7⟩ m).2) = (rChange_SRE ⟨A, X, Y, S, pk b0 b1 b2 b3 b4 b5 b6 b7⟩ m).2 := by
  have hb := b2i_b b0
  have e : uChange_27 ⟨A, X, Y, S, pk b0 b1 b2 b3 b4 b5 b6 b7⟩ m = u_sre ⟨A, X, Y, S, pk b0 b1 b2 b3 b4 b5 b6 b7⟩ m := rfl
  rw [e, c_sre A X Y S m b0 b1 b2 b3 b4 b5 b6 b7 ha hx hy hs hm, d_SRE A X Y S m b0 b1 b2 b3 b4 b5 b6 b7 ha hx hy hs hm]
  refine ⟨?_, i64_in _ (by omega)⟩
  exact read_EOR A X Y S (m / 2) (decide (m / 1 % 2 = 1)) (zer (m / 2)) b2 b3 b4 b5 b6 (neg (m / 2)) ha hx hy hs (by omega)

theorem chg_RRA (A X Y S m : Int) (b0 b1 b2 b3 b4 b5 b6 b7 : Bool) (ha : 0 ≤ A ∧ A < 256) (hx : 0 ≤ X ∧ X < 256) (hy : 0 ≤ Y ∧ Y < 256) (hs : 0 ≤ S ∧ S < 256) (hm : 0 ≤ m ∧ m < 256) : own ((uChange_28 ⟨A, X, Y, S, pk b0 b1 b2 b3 b4 b5 b6 b7⟩ m).1) = (rChange_RRA ⟨A, X, Y, S, pk b0 b1 b2 b3 b4 b5 b6 b7⟩ m).1 ∧ IntKind.i64.wrap ((uChange_28 ⟨A, X, Y, S, pk b0 b1 b2 b3 b4 b5 b6 b7⟩ m).2) = (rChange_RRA ⟨A, X, Y, S, pk b0 b1 b2 b3 b4 b5 b6 b7⟩ m).2 := by
  have hb := b2i_b b0
  have e : uChange_28 ⟨A, X, Y, S, pk b0 b1 b2 b3 b4 b5 b6 b7⟩ m = u_rra ⟨A, X, Y, S, pk b0 b1 b2 b3 b4 b5 b6 b7⟩ m := rfl
  rw [e, c_rra A X Y S m b0 b1 b2 b3 b4 b5 b6 b7 ha hx hy hs hm, d_RRA A X Y S m b0 b1 b2 b3 b4 b5 b6 b7 ha hx hy hs hm]
  refine ⟨?_, i64_in _ (by omega)⟩
  exact read_ADC A X Y S (m / 2 + 128 * b2i b0) (decide (m / 1 % 2 = 1)) (zer (m / 2 + 128 * b2i b0)) b2 b3 b4 b5 b6 (neg (m / 2 + 128 * b2i b0)) ha hx hy hs (by omega)

theorem chg_DCP (A X Y S m : Int) (b0 b1 b2 b3 b4 b5 b6 b7 : Bool) (ha : 0 ≤ A ∧ A < 256) (hx : 0 ≤ X ∧ X < 256) (hy : 0 ≤ Y ∧ Y < 256) (hs : 0 ≤ S ∧ S < 256) (hm : 0 ≤ m ∧ m < 256) : own ((uChange_29 ⟨A, X, Y, S, pk b0 b1 b2 b3 b4 b5 b6 b7⟩ m).1) = (rChange_DCP ⟨A, X, Y, S, pk b0 b1 b2 b3 b4 b5 b6 b7⟩ m).1 ∧ IntKind.i64.wrap ((uChange_29 ⟨A, X, Y, S, pk b0 b1 b2 b3 b4 b5 b6 b7⟩ m).2) = (rChange_DCP ⟨A, X, Y, S, pk b0 b1 b2 b3 b4 b5 b6 b7⟩ m).2 := by
  have hb := b2i_b b0
  have e : uChange_29 ⟨A, X, Y, S, pk b0 b1 b2 b3 b4 b5 b6 b7⟩ m = u_dcp ⟨A, X, Y, S, pk b0 b1 b2 b3 b4 b5 b6 b7⟩ m := rfl
  rw [e, c_dcp A X Y S m b0 b1 b2 b3 b4 b5 b6 b7 ha hx hy hs hm, d_DCP A X Y S m b0 b1 b2 b3 b4 b5 b6 b7 ha hx hy hs hm]
  refine ⟨?_, i64_in _ (by omega)⟩
  exact read_CMP A X Y S ((m - 1) % 256) b0 (zer ((m - 1) % 256)) b2 b3 b4 b5 b6 (neg ((m - 1) % 256)) ha hx hy hs (by omega)

theorem chg_ISC (A X Y S m : Int) (b0 b1 b2 b3 b4 b5 b6 b7 : Bool) (ha : 0 ≤ A ∧ A < 256) (hx : 0 ≤ X ∧ X < 256) (hy : 0 ≤ Y ∧ Y < 256) (hs : 0 ≤ S ∧ S < 256) (hm : 0 ≤ m ∧ m < 256) : own ((uChange_30 ⟨A, X, Y, S, pk b0 b1 b2 b3 b4 b5 b6 b7⟩ m).1) = (rChange_ISC ⟨A, X, Y, S, pk b0 b1 b2 b3 b4 b5 b6 b7⟩ m).1 ∧ IntKind.i64.wrap ((uChange_30 ⟨A, X, Y, S, pk b0 b1 b2 b3 b4 b5 b6 b7⟩ m).2) = (rChange_ISC ⟨A, X, Y, S, pk b0 b1 b2 b3 b4 b5 b6 b7⟩ m).2 := by
  have hb := b2i_b b0
  have e : uChange_30 ⟨A, X, Y, S, pk b0 b1 b2 b3 b4 b5 b6 b7⟩ m = u_isc ⟨A, X, Y, S, pk b0 b1 b2 b3 b4 b5 b6 b7⟩ m := rfl
  rw [e, c_isc A X Y S m b0 b1 b2 b3 b4 b5 b6 b7 ha hx hy hs hm, d_ISC A X Y S m b0 b1 b2 b3 b4 b5 b6 b7 ha hx hy hs hm]
  refine ⟨?_, i64_in _ (by omega)⟩
  exact read_SBC A X Y S ((m + 1) % 256) b0 (zer ((m + 1) % 256)) b2 b3 b4 b5 b6 (neg ((m + 1) % 256)) ha hx hy hs (by omega)

theorem rKind_not2 (op : Int) (h : (0 ≤ op ∧ op < 19) ∨ (31 ≤ op ∧ op < 256)) : (((rKind (IntKind.i64.wrap op)) : Int) == 2) = false := by
  rw [i64_in op (by omega)]
  unfold rKind
  rcases h with h | h
  · rw [if_pos (by simp; omega)]; decide
  · rw [if_neg (by simp; omega), i64_in (op - 19) (by omega), if_neg (by simp; omega)]
    repeat' split
    all_goals decide
theorem aKind_not2 (op : Int) (h : (0 ≤ op ∧ op < 19) ∨ (31 ≤ op ∧ op < 256)) : (((aKind op) : Int) != 2) = true := by
  unfold aKind
  rcases h with h | h
  · rw [if_pos (by simp; omega)]; decide
  · rw [if_neg (by simp; omega), if_neg (by simp; omega)]
    repeat' split
    all_goals decide

theorem changes_true (u : Unit) (hu : Bytes u) (op m : Int) (ho : 0 ≤ op ∧ op < 256) (hm : 0 ≤ m ∧ m < 256) : FnSpec Try.prog 9 1000 [Unit.enc u, .int .u8 op, .int .u8 m] [] (.bool true) [] := by
  obtain ⟨A, X, Y, S, P⟩ := u
  obtain ⟨ha, hx, hy, hs, hp⟩ := hu
  obtain ⟨b0, b1, b2, b3, b4, b5, b6, b7, hP⟩ := pk_of P hp
  simp only at ha hx hy hs hp hP
  subst hP
  have eo : own ⟨A, X, Y, S, pk b0 b1 b2 b3 b4 b5 b6 b7⟩ = ⟨A, X, Y, S, pk b0 b1 b2 b3 b4 b5 b6 b7⟩ := own_eq _ _ _ _ _ ha hx hy hs hp
  have em : IntKind.i64.wrap m = m := i64_in m (by omega)
  by_cases h : 19 ≤ op ∧ op < 31
  · obtain rfl | rfl | rfl | rfl | rfl | rfl | rfl | rfl | rfl | rfl | rfl | rfl : op = 19 ∨ op = 20 ∨ op = 21 ∨ op = 22 ∨ op = 23 ∨ op = 24 ∨ op = 25 ∨ op = 26 ∨ op = 27 ∨ op = 28 ∨ op = 29 ∨ op = 30 := by omega

    · obtain ⟨e1, e2⟩ := chg_ASL A X Y S m b0 b1 b2 b3 b4 b5 b6 b7 ha hx hy hs hm
      have := lawChanges_19_p1 ⟨A, X, Y, S, pk b0 b1 b2 b3 b4 b5 b6 b7⟩ m awake_t (by rw [em, eo]; exact same5 e1)
      rwa [em, eo, e2, beq_self_eq_true] at this
    · obtain ⟨e1, e2⟩ := chg_LSR A X Y S m b0 b1 b2 b3 b4 b5 b6 b7 ha hx hy hs hm
      have := lawChanges_20_p1 ⟨A, X, Y, S, pk b0 b1 b2 b3 b4 b5 b6 b7⟩ m awake_t (by rw [em, eo]; exact same5 e1)
      rwa [em, eo, e2, beq_self_eq_true] at this
    · obtain ⟨e1, e2⟩ := chg_ROL A X Y S m b0 b1 b2 b3 b4 b5 b6 b7 ha hx hy hs hm
      have := lawChanges_21_p1 ⟨A, X, Y, S, pk b0 b1 b2 b3 b4 b5 b6 b7⟩ m awake_t (by rw [em, eo]; exact same5 e1)
      rwa [em, eo, e2, beq_self_eq_true] at this
    · obtain ⟨e1, e2⟩ := chg_ROR A X Y S m b0 b1 b2 b3 b4 b5 b6 b7 ha hx hy hs hm
      have := lawChanges_22_p1 ⟨A, X, Y, S, pk b0 b1 b2 b3 b4 b5 b6 b7⟩ m awake_t (by rw [em, eo]; exact same5 e1)
      rwa [em, eo, e2, beq_self_eq_true] at this
    · obtain ⟨e1, e2⟩ := chg_INC A X Y S m b0 b1 b2 b3 b4 b5 b6 b7 ha hx hy hs hm
      have := lawChanges_23_p1 ⟨A, X, Y, S, pk b0 b1 b2 b3 b4 b5 b6 b7⟩ m awake_t (by rw [em, eo]; exact same5 e1)
      rwa [em, eo, e2, beq_self_eq_true] at this
    · obtain ⟨e1, e2⟩ := chg_DEC A X Y S m b0 b1 b2 b3 b4 b5 b6 b7 ha hx hy hs hm
      have := lawChanges_24_p1 ⟨A, X, Y, S, pk b0 b1 b2 b3 b4 b5 b6 b7⟩ m awake_t (by rw [em, eo]; exact same5 e1)
      rwa [em, eo, e2, beq_self_eq_true] at this
    · obtain ⟨e1, e2⟩ := chg_SLO A X Y S m b0 b1 b2 b3 b4 b5 b6 b7 ha hx hy hs hm
      have := lawChanges_25_p1 ⟨A, X, Y, S, pk b0 b1 b2 b3 b4 b5 b6 b7⟩ m awake_t (by rw [em, eo]; exact same5 e1)
      rwa [em, eo, e2, beq_self_eq_true] at this
    · obtain ⟨e1, e2⟩ := chg_RLA A X Y S m b0 b1 b2 b3 b4 b5 b6 b7 ha hx hy hs hm
      have := lawChanges_26_p1 ⟨A, X, Y, S, pk b0 b1 b2 b3 b4 b5 b6 b7⟩ m awake_t (by rw [em, eo]; exact same5 e1)
      rwa [em, eo, e2, beq_self_eq_true] at this
    · obtain ⟨e1, e2⟩ := chg_SRE A X Y S m b0 b1 b2 b3 b4 b5 b6 b7 ha hx hy hs hm
      have := lawChanges_27_p1 ⟨A, X, Y, S, pk b0 b1 b2 b3 b4 b5 b6 b7⟩ m awake_t (by rw [em, eo]; exact same5 e1)
      rwa [em, eo, e2, beq_self_eq_true] at this
    · obtain ⟨e1, e2⟩ := chg_RRA A X Y S m b0 b1 b2 b3 b4 b5 b6 b7 ha hx hy hs hm
      have := lawChanges_28_p1 ⟨A, X, Y, S, pk b0 b1 b2 b3 b4 b5 b6 b7⟩ m awake_t (by rw [em, eo]; exact same5 e1)
      rwa [em, eo, e2, beq_self_eq_true] at this
    · obtain ⟨e1, e2⟩ := chg_DCP A X Y S m b0 b1 b2 b3 b4 b5 b6 b7 ha hx hy hs hm
      have := lawChanges_29_p1 ⟨A, X, Y, S, pk b0 b1 b2 b3 b4 b5 b6 b7⟩ m awake_t (by rw [em, eo]; exact same5 e1)
      rwa [em, eo, e2, beq_self_eq_true] at this
    · obtain ⟨e1, e2⟩ := chg_ISC A X Y S m b0 b1 b2 b3 b4 b5 b6 b7 ha hx hy hs hm
      have := lawChanges_30_p1 ⟨A, X, Y, S, pk b0 b1 b2 b3 b4 b5 b6 b7⟩ m awake_t (by rw [em, eo]; exact same5 e1)
      rwa [em, eo, e2, beq_self_eq_true] at this
  · have := lawChanges_else_p1 ⟨A, X, Y, S, pk b0 b1 b2 b3 b4 b5 b6 b7⟩ op m (rKind_not2 op (by omega)) (aKind_not2 op (by omega)) awake_t (same5 (show own ((uChange_else ⟨A, X, Y, S, pk b0 b1 b2 b3 b4 b5 b6 b7⟩ op m).1) = own ⟨A, X, Y, S, pk b0 b1 b2 b3 b4 b5 b6 b7⟩ from rfl))
    have e : (uChange_else ⟨A, X, Y, S, pk b0 b1 b2 b3 b4 b5 b6 b7⟩ op m).2 = m := rfl
    rwa [e, beq_self_eq_true] at this

end Go.Proofs.Ytfjeifmenlnkkaa
