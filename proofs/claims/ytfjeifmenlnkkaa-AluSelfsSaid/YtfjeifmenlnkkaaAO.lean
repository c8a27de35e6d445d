/-
  Layer 8: the law on operations of registers alone. Written by gen_ao.py. No condition.
-/
import Derived.Test.YtfjeifmenlnkkaaAN
import Derived.Test.YtfjeifmenlnkkaaAK
namespace Go.Proofs.Ytfjeifmenlnkkaa
open Go VX IntWalk
set_option maxRecDepth 100000
set_option linter.unusedSimpArgs false
set_option linter.unusedVariables false

theorem self_ASL (A X Y S : Int) (b0 b1 b2 b3 b4 b5 b6 b7 : Bool) (ha : 0 ≤ A ∧ A < 256) (hx : 0 ≤ X ∧ X < 256) (hy : 0 ≤ Y ∧ Y < 256) (hs : 0 ≤ S ∧ S < 256) : own (uSelf_19 ⟨A, X, Y, S, pk b0 b1 b2 b3 b4 b5 b6 b7⟩) = rSelf_ASL ⟨A, X, Y, S, pk b0 b1 b2 b3 b4 b5 b6 b7⟩ := by
  have hb := b2i_b b0
  have c := c_asl A X Y S A b0 b1 b2 b3 b4 b5 b6 b7 ha hx hy hs ha
  have d := d_ASL A X Y S A b0 b1 b2 b3 b4 b5 b6 b7 ha hx hy hs ha
  unfold uSelf_19 rSelf_ASL
  rw [show uChange_19 ⟨A, X, Y, S, pk b0 b1 b2 b3 b4 b5 b6 b7⟩ (⟨A, X, Y, S, pk b0 b1 b2 b3 b4 b5 b6 b7⟩ : Unit).A = u_asl ⟨A, X, Y, S, pk b0 b1 b2 b3 b4 b5 b6 b7⟩ A from rfl, show rChange_ASL ⟨A, X, Y, S, pk b0 b1 b2 b3 b4 b5 b6 b7⟩ (⟨A, X, Y, S, pk b0 b1 b2 b3 b4 b5 b6 b7⟩ : RUnit).A = rChange_ASL ⟨A, X, Y, S, pk b0 b1 b2 b3 b4 b5 b6 b7⟩ A from rfl, c, d]
  exact own_eq _ _ _ _ _ (by omega) (by omega) (by omega) (by omega) (pk_b _ _ _ _ _ _ _ _)

theorem self_LSR (A X Y S : Int) (b0 b1 b2 b3 b4 b5 b6 b7 : Bool) (ha : 0 ≤ A ∧ A < 256) (hx : 0 ≤ X ∧ X < 256) (hy : 0 ≤ Y ∧ Y < 256) (hs : 0 ≤ S ∧ S < 256) : own (uSelf_20 ⟨A, X, Y, S, pk b0 b1 b2 b3 b4 b5 b6 b7⟩) = rSelf_LSR ⟨A, X, Y, S, pk b0 b1 b2 b3 b4 b5 b6 b7⟩ := by
  have hb := b2i_b b0
  have c := c_lsr A X Y S A b0 b1 b2 b3 b4 b5 b6 b7 ha hx hy hs ha
  have d := d_LSR A X Y S A b0 b1 b2 b3 b4 b5 b6 b7 ha hx hy hs ha
  unfold uSelf_20 rSelf_LSR
  rw [show uChange_20 ⟨A, X, Y, S, pk b0 b1 b2 b3 b4 b5 b6 b7⟩ (⟨A, X, Y, S, pk b0 b1 b2 b3 b4 b5 b6 b7⟩ : Unit).A = u_lsr ⟨A, X, Y, S, pk b0 b1 b2 b3 b4 b5 b6 b7⟩ A from rfl, show rChange_LSR ⟨A, X, Y, S, pk b0 b1 b2 b3 b4 b5 b6 b7⟩ (⟨A, X, Y, S, pk b0 b1 b2 b3 b4 b5 b6 b7⟩ : RUnit).A = rChange_LSR ⟨A, X, Y, S, pk b0 b1 b2 b3 b4 b5 b6 b7⟩ A from rfl, c, d]
  exact own_eq _ _ _ _ _ (by omega) (by omega) (by omega) (by omega) (pk_b _ _ _ _ _ _ _ _)

theorem self_ROL (A X Y S : Int) (b0 b1 b2 b3 b4 b5 b6 b7 : Bool) (ha : 0 ≤ A ∧ A < 256) (hx : 0 ≤ X ∧ X < 256) (hy : 0 ≤ Y ∧ Y < 256) (hs : 0 ≤ S ∧ S < 256) : own (uSelf_21 ⟨A, X, Y, S, pk b0 b1 b2 b3 b4 b5 b6 b7⟩) = rSelf_ROL ⟨A, X, Y, S, pk b0 b1 b2 b3 b4 b5 b6 b7⟩ := by
  have hb := b2i_b b0
  have c := c_rol A X Y S A b0 b1 b2 b3 b4 b5 b6 b7 ha hx hy hs ha
  have d := d_ROL A X Y S A b0 b1 b2 b3 b4 b5 b6 b7 ha hx hy hs ha
  unfold uSelf_21 rSelf_ROL
  rw [show uChange_21 ⟨A, X, Y, S, pk b0 b1 b2 b3 b4 b5 b6 b7⟩ (⟨A, X, Y, S, pk b0 b1 b2 b3 b4 b5 b6 b7⟩ : Unit).A = u_rol ⟨A, X, Y, S, pk b0 b1 b2 b3 b4 b5 b6 b7⟩ A from rfl, show rChange_ROL ⟨A, X, Y, S, pk b0 b1 b2 b3 b4 b5 b6 b7⟩ (⟨A, X, Y, S, pk b0 b1 b2 b3 b4 b5 b6 b7⟩ : RUnit).A = rChange_ROL ⟨A, X, Y, S, pk b0 b1 b2 b3 b4 b5 b6 b7⟩ A from rfl, c, d]
  exact own_eq _ _ _ _ _ (by omega) (by omega) (by omega) (by omega) (pk_b _ _ _ _ _ _ _ _)

theorem self_ROR (A X Y S : Int) (b0 b1 b2 b3 b4 b5 b6 b7 : Bool) (ha : 0 ≤ A ∧ A < 256) (hx : 0 ≤ X ∧ X < 256) (hy : 0 ≤ Y ∧ Y < 256) (hs : 0 ≤ S ∧ S < 256) : own (uSelf_22 ⟨A, X, Y, S, pk b0 b1 b2 b3 b4 b5 b6 b7⟩) = rSelf_ROR ⟨A, X, Y, S, pk b0 b1 b2 b3 b4 b5 b6 b7⟩ := by
  have hb := b2i_b b0
  have c := c_ror A X Y S A b0 b1 b2 b3 b4 b5 b6 b7 ha hx hy hs ha
  have d := d_ROR A X Y S A b0 b1 b2 b3 b4 b5 b6 b7 ha hx hy hs ha
  unfold uSelf_22 rSelf_ROR
  rw [show uChange_22 ⟨A, X, Y, S, pk b0 b1 b2 b3 b4 b5 b6 b7⟩ (⟨A, X, Y, S, pk b0 b1 b2 b3 b4 b5 b6 b7⟩ : Unit).A = u_ror ⟨A, X, Y, S, pk b0 b1 b2 b3 b4 b5 b6 b7⟩ A from rfl, show rChange_ROR ⟨A, X, Y, S, pk b0 b1 b2 b3 b4 b5 b6 b7⟩ (⟨A, X, Y, S, pk b0 b1 b2 b3 b4 b5 b6 b7⟩ : RUnit).A = rChange_ROR ⟨A, X, Y, S, pk b0 b1 b2 b3 b4 b5 b6 b7⟩ A from rfl, c, d]
  exact own_eq _ _ _ _ _ (by omega) (by omega) (by omega) (by omega) (pk_b _ _ _ _ _ _ _ _)

theorem self_TAX (A X Y S : Int) (b0 b1 b2 b3 b4 b5 b6 b7 : Bool) (ha : 0 ≤ A ∧ A < 256) (hx : 0 ≤ X ∧ X < 256) (hy : 0 ≤ Y ∧ Y < 256) (hs : 0 ≤ S ∧ S < 256) : own (uSelf_35 ⟨A, X, Y, S, pk b0 b1 b2 b3 b4 b5 b6 b7⟩) = rSelf_TAX ⟨A, X, Y, S, pk b0 b1 b2 b3 b4 b5 b6 b7⟩ := by
  rw [show uSelf_35 ⟨A, X, Y, S, pk b0 b1 b2 b3 b4 b5 b6 b7⟩ = uSign ⟨A, A, Y, S, pk b0 b1 b2 b3 b4 b5 b6 b7⟩ A from rfl, uSign_eq _ _ _ _ _ _ _ _ _ _ _ _ _ ha, show rSelf_TAX ⟨A, X, Y, S, pk b0 b1 b2 b3 b4 b5 b6 b7⟩ = rSign ⟨A, A, Y, S, pk b0 b1 b2 b3 b4 b5 b6 b7⟩ A from rfl, rSign_eq _ _ _ _ _ _ _ _ _ _ _ _ _ ha]
  exact own_eq _ _ _ _ _ (by omega) (by omega) (by omega) (by omega) (pk_b _ _ _ _ _ _ _ _)

theorem self_TAY (A X Y S : Int) (b0 b1 b2 b3 b4 b5 b6 b7 : Bool) (ha : 0 ≤ A ∧ A < 256) (hx : 0 ≤ X ∧ X < 256) (hy : 0 ≤ Y ∧ Y < 256) (hs : 0 ≤ S ∧ S < 256) : own (uSelf_36 ⟨A, X, Y, S, pk b0 b1 b2 b3 b4 b5 b6 b7⟩) = rSelf_TAY ⟨A, X, Y, S, pk b0 b1 b2 b3 b4 b5 b6 b7⟩ := by
  rw [show uSelf_36 ⟨A, X, Y, S, pk b0 b1 b2 b3 b4 b5 b6 b7⟩ = uSign ⟨A, X, A, S, pk b0 b1 b2 b3 b4 b5 b6 b7⟩ A from rfl, uSign_eq _ _ _ _ _ _ _ _ _ _ _ _ _ ha, show rSelf_TAY ⟨A, X, Y, S, pk b0 b1 b2 b3 b4 b5 b6 b7⟩ = rSign ⟨A, X, A, S, pk b0 b1 b2 b3 b4 b5 b6 b7⟩ A from rfl, rSign_eq _ _ _ _ _ _ _ _ _ _ _ _ _ ha]
  exact own_eq _ _ _ _ _ (by omega) (by omega) (by omega) (by omega) (pk_b _ _ _ _ _ _ _ _)

theorem self_TXA (A X Y S : Int) (b0 b1 b2 b3 b4 b5 b6 b7 : Bool) (ha : 0 ≤ A ∧ A < 256) (hx : 0 ≤ X ∧ X < 256) (hy : 0 ≤ Y ∧ Y < 256) (hs : 0 ≤ S ∧ S < 256) : own (uSelf_37 ⟨A, X, Y, S, pk b0 b1 b2 b3 b4 b5 b6 b7⟩) = rSelf_TXA ⟨A, X, Y, S, pk b0 b1 b2 b3 b4 b5 b6 b7⟩ := by
  rw [show uSelf_37 ⟨A, X, Y, S, pk b0 b1 b2 b3 b4 b5 b6 b7⟩ = uSign ⟨X, X, Y, S, pk b0 b1 b2 b3 b4 b5 b6 b7⟩ X from rfl, uSign_eq _ _ _ _ _ _ _ _ _ _ _ _ _ hx, show rSelf_TXA ⟨A, X, Y, S, pk b0 b1 b2 b3 b4 b5 b6 b7⟩ = rSign ⟨X, X, Y, S, pk b0 b1 b2 b3 b4 b5 b6 b7⟩ X from rfl, rSign_eq _ _ _ _ _ _ _ _ _ _ _ _ _ hx]
  exact own_eq _ _ _ _ _ (by omega) (by omega) (by omega) (by omega) (pk_b _ _ _ _ _ _ _ _)

theorem self_TYA (A X Y S : Int) (b0 b1 b2 b3 b4 b5 b6 b7 : Bool) (ha : 0 ≤ A ∧ A < 256) (hx : 0 ≤ X ∧ X < 256) (hy : 0 ≤ Y ∧ Y < 256) (hs : 0 ≤ S ∧ S < 256) : own (uSelf_38 ⟨A, X, Y, S, pk b0 b1 b2 b3 b4 b5 b6 b7⟩) = rSelf_TYA ⟨A, X, Y, S, pk b0 b1 b2 b3 b4 b5 b6 b7⟩ := by
  rw [show uSelf_38 ⟨A, X, Y, S, pk b0 b1 b2 b3 b4 b5 b6 b7⟩ = uSign ⟨Y, X, Y, S, pk b0 b1 b2 b3 b4 b5 b6 b7⟩ Y from rfl, uSign_eq _ _ _ _ _ _ _ _ _ _ _ _ _ hy, show rSelf_TYA ⟨A, X, Y, S, pk b0 b1 b2 b3 b4 b5 b6 b7⟩ = rSign ⟨Y, X, Y, S, pk b0 b1 b2 b3 b4 b5 b6 b7⟩ Y from rfl, rSign_eq _ _ _ _ _ _ _ _ _ _ _ _ _ hy]
  exact own_eq _ _ _ _ _ (by omega) (by omega) (by omega) (by omega) (pk_b _ _ _ _ _ _ _ _)

theorem self_TSX (A X Y S : Int) (b0 b1 b2 b3 b4 b5 b6 b7 : Bool) (ha : 0 ≤ A ∧ A < 256) (hx : 0 ≤ X ∧ X < 256) (hy : 0 ≤ Y ∧ Y < 256) (hs : 0 ≤ S ∧ S < 256) : own (uSelf_39 ⟨A, X, Y, S, pk b0 b1 b2 b3 b4 b5 b6 b7⟩) = rSelf_TSX ⟨A, X, Y, S, pk b0 b1 b2 b3 b4 b5 b6 b7⟩ := by
  rw [show uSelf_39 ⟨A, X, Y, S, pk b0 b1 b2 b3 b4 b5 b6 b7⟩ = uSign ⟨A, S, Y, S, pk b0 b1 b2 b3 b4 b5 b6 b7⟩ S from rfl, uSign_eq _ _ _ _ _ _ _ _ _ _ _ _ _ hs, show rSelf_TSX ⟨A, X, Y, S, pk b0 b1 b2 b3 b4 b5 b6 b7⟩ = rSign ⟨A, S, Y, S, pk b0 b1 b2 b3 b4 b5 b6 b7⟩ S from rfl, rSign_eq _ _ _ _ _ _ _ _ _ _ _ _ _ hs]
  exact own_eq _ _ _ _ _ (by omega) (by omega) (by omega) (by omega) (pk_b _ _ _ _ _ _ _ _)

theorem self_INX (A X Y S : Int) (b0 b1 b2 b3 b4 b5 b6 b7 : Bool) (ha : 0 ≤ A ∧ A < 256) (hx : 0 ≤ X ∧ X < 256) (hy : 0 ≤ Y ∧ Y < 256) (hs : 0 ≤ S ∧ S < 256) : own (uSelf_41 ⟨A, X, Y, S, pk b0 b1 b2 b3 b4 b5 b6 b7⟩) = rSelf_INX ⟨A, X, Y, S, pk b0 b1 b2 b3 b4 b5 b6 b7⟩ := by
  have e1 : IntKind.u8.wrap (X + 1) = (X + 1) % 256 := by rw [IntKind.wrap_u8]
  have e2 : (IntKind.i64.wrap (X + 1)).tmod 256 = (X + 1) % 256 := by
    rw [i64_in (X + 1) (by omega), Int.tmod_eq_emod_of_nonneg (by omega)]
  rw [show uSelf_41 ⟨A, X, Y, S, pk b0 b1 b2 b3 b4 b5 b6 b7⟩ = uSign ⟨A, (IntKind.u8.wrap (X + 1)), Y, S, pk b0 b1 b2 b3 b4 b5 b6 b7⟩ (IntKind.u8.wrap (X + 1)) from rfl, e1, uSign_eq _ _ _ _ _ _ _ _ _ _ _ _ _ (by omega), show rSelf_INX ⟨A, X, Y, S, pk b0 b1 b2 b3 b4 b5 b6 b7⟩ = rSign ⟨A, ((IntKind.i64.wrap (X + 1)).tmod 256), Y, S, pk b0 b1 b2 b3 b4 b5 b6 b7⟩ ((IntKind.i64.wrap (X + 1)).tmod 256) from rfl, e2, rSign_eq _ _ _ _ _ _ _ _ _ _ _ _ _ (by omega)]
  exact own_eq _ _ _ _ _ (by omega) (by omega) (by omega) (by omega) (pk_b _ _ _ _ _ _ _ _)

theorem self_INY (A X Y S : Int) (b0 b1 b2 b3 b4 b5 b6 b7 : Bool) (ha : 0 ≤ A ∧ A < 256) (hx : 0 ≤ X ∧ X < 256) (hy : 0 ≤ Y ∧ Y < 256) (hs : 0 ≤ S ∧ S < 256) : own (uSelf_42 ⟨A, X, Y, S, pk b0 b1 b2 b3 b4 b5 b6 b7⟩) = rSelf_INY ⟨A, X, Y, S, pk b0 b1 b2 b3 b4 b5 b6 b7⟩ := by
  have e1 : IntKind.u8.wrap (Y + 1) = (Y + 1) % 256 := by rw [IntKind.wrap_u8]
  have e2 : (IntKind.i64.wrap (Y + 1)).tmod 256 = (Y + 1) % 256 := by
    rw [i64_in (Y + 1) (by omega), Int.tmod_eq_emod_of_nonneg (by omega)]
  rw [show uSelf_42 ⟨A, X, Y, S, pk b0 b1 b2 b3 b4 b5 b6 b7⟩ = uSign ⟨A, X, (IntKind.u8.wrap (Y + 1)), S, pk b0 b1 b2 b3 b4 b5 b6 b7⟩ (IntKind.u8.wrap (Y + 1)) from rfl, e1, uSign_eq _ _ _ _ _ _ _ _ _ _ _ _ _ (by omega), show rSelf_INY ⟨A, X, Y, S, pk b0 b1 b2 b3 b4 b5 b6 b7⟩ = rSign ⟨A, X, ((IntKind.i64.wrap (Y + 1)).tmod 256), S, pk b0 b1 b2 b3 b4 b5 b6 b7⟩ ((IntKind.i64.wrap (Y + 1)).tmod 256) from rfl, e2, rSign_eq _ _ _ _ _ _ _ _ _ _ _ _ _ (by omega)]
  exact own_eq _ _ _ _ _ (by omega) (by omega) (by omega) (by omega) (pk_b _ _ _ _ _ _ _ _)

theorem self_DEX (A X Y S : Int) (b0 b1 b2 b3 b4 b5 b6 b7 : Bool) (ha : 0 ≤ A ∧ A < 256) (hx : 0 ≤ X ∧ X < 256) (hy : 0 ≤ Y ∧ Y < 256) (hs : 0 ≤ S ∧ S < 256) : own (uSelf_43 ⟨A, X, Y, S, pk b0 b1 b2 b3 b4 b5 b6 b7⟩) = rSelf_DEX ⟨A, X, Y, S, pk b0 b1 b2 b3 b4 b5 b6 b7⟩ := by
  have e1 : IntKind.u8.wrap (X - 1) = (X - 1) % 256 := by rw [IntKind.wrap_u8]
  have e2 : (IntKind.i64.wrap (X + 255)).tmod 256 = (X - 1) % 256 := by
    rw [i64_in (X + 255) (by omega), Int.tmod_eq_emod_of_nonneg (by omega)]; omega
  rw [show uSelf_43 ⟨A, X, Y, S, pk b0 b1 b2 b3 b4 b5 b6 b7⟩ = uSign ⟨A, (IntKind.u8.wrap (X - 1)), Y, S, pk b0 b1 b2 b3 b4 b5 b6 b7⟩ (IntKind.u8.wrap (X - 1)) from rfl, e1, uSign_eq _ _ _ _ _ _ _ _ _ _ _ _ _ (by omega), show rSelf_DEX ⟨A, X, Y, S, pk b0 b1 b2 b3 b4 b5 b6 b7⟩ = rSign ⟨A, ((IntKind.i64.wrap (X + 255)).tmod 256), Y, S, pk b0 b1 b2 b3 b4 b5 b6 b7⟩ ((IntKind.i64.wrap (X + 255)).tmod 256) from rfl, e2, rSign_eq _ _ _ _ _ _ _ _ _ _ _ _ _ (by omega)]
  exact own_eq _ _ _ _ _ (by omega) (by omega) (by omega) (by omega) (pk_b _ _ _ _ _ _ _ _)

theorem self_DEY (A X Y S : Int) (b0 b1 b2 b3 b4 b5 b6 b7 : Bool) (ha : 0 ≤ A ∧ A < 256) (hx : 0 ≤ X ∧ X < 256) (hy : 0 ≤ Y ∧ Y < 256) (hs : 0 ≤ S ∧ S < 256) : own (uSelf_44 ⟨A, X, Y, S, pk b0 b1 b2 b3 b4 b5 b6 b7⟩) = rSelf_DEY ⟨A, X, Y, S, pk b0 b1 b2 b3 b4 b5 b6 b7⟩ := by
  have e1 : IntKind.u8.wrap (Y - 1) = (Y - 1) % 256 := by rw [IntKind.wrap_u8]
  have e2 : (IntKind.i64.wrap (Y + 255)).tmod 256 = (Y - 1) % 256 := by
    rw [i64_in (Y + 255) (by omega), Int.tmod_eq_emod_of_nonneg (by omega)]; omega
  rw [show uSelf_44 ⟨A, X, Y, S, pk b0 b1 b2 b3 b4 b5 b6 b7⟩ = uSign ⟨A, X, (IntKind.u8.wrap (Y - 1)), S, pk b0 b1 b2 b3 b4 b5 b6 b7⟩ (IntKind.u8.wrap (Y - 1)) from rfl, e1, uSign_eq _ _ _ _ _ _ _ _ _ _ _ _ _ (by omega), show rSelf_DEY ⟨A, X, Y, S, pk b0 b1 b2 b3 b4 b5 b6 b7⟩ = rSign ⟨A, X, ((IntKind.i64.wrap (Y + 255)).tmod 256), S, pk b0 b1 b2 b3 b4 b5 b6 b7⟩ ((IntKind.i64.wrap (Y + 255)).tmod 256) from rfl, e2, rSign_eq _ _ _ _ _ _ _ _ _ _ _ _ _ (by omega)]
  exact own_eq _ _ _ _ _ (by omega) (by omega) (by omega) (by omega) (pk_b _ _ _ _ _ _ _ _)

theorem self_TXS (A X Y S : Int) (b0 b1 b2 b3 b4 b5 b6 b7 : Bool) (ha : 0 ≤ A ∧ A < 256) (hx : 0 ≤ X ∧ X < 256) (hy : 0 ≤ Y ∧ Y < 256) (hs : 0 ≤ S ∧ S < 256) : own (uSelf_40 ⟨A, X, Y, S, pk b0 b1 b2 b3 b4 b5 b6 b7⟩) = rSelf_TXS ⟨A, X, Y, S, pk b0 b1 b2 b3 b4 b5 b6 b7⟩ := by
  show own ⟨A, X, Y, X, pk b0 b1 b2 b3 b4 b5 b6 b7⟩ = ⟨A, X, Y, X, pk b0 b1 b2 b3 b4 b5 b6 b7⟩
  exact own_eq _ _ _ _ _ (by omega) (by omega) (by omega) (by omega) (pk_b _ _ _ _ _ _ _ _)

theorem self_CLC (A X Y S : Int) (b0 b1 b2 b3 b4 b5 b6 b7 : Bool) (ha : 0 ≤ A ∧ A < 256) (hx : 0 ≤ X ∧ X < 256) (hy : 0 ≤ Y ∧ Y < 256) (hs : 0 ≤ S ∧ S < 256) : own (uSelf_45 ⟨A, X, Y, S, pk b0 b1 b2 b3 b4 b5 b6 b7⟩) = rSelf_CLC ⟨A, X, Y, S, pk b0 b1 b2 b3 b4 b5 b6 b7⟩ := by
  rw [show uSelf_45 ⟨A, X, Y, S, pk b0 b1 b2 b3 b4 b5 b6 b7⟩ = uFlag ⟨A, X, Y, S, pk b0 b1 b2 b3 b4 b5 b6 b7⟩ 1 false from rfl, uFlag_1, show rSelf_CLC ⟨A, X, Y, S, pk b0 b1 b2 b3 b4 b5 b6 b7⟩ = rSet ⟨A, X, Y, S, pk b0 b1 b2 b3 b4 b5 b6 b7⟩ 1 0 from rfl, rSet_1 _ _ _ _ 0 _ _ _ _ _ _ _ _ false (by rfl)]
  exact own_eq _ _ _ _ _ (by omega) (by omega) (by omega) (by omega) (pk_b _ _ _ _ _ _ _ _)

theorem self_SEC (A X Y S : Int) (b0 b1 b2 b3 b4 b5 b6 b7 : Bool) (ha : 0 ≤ A ∧ A < 256) (hx : 0 ≤ X ∧ X < 256) (hy : 0 ≤ Y ∧ Y < 256) (hs : 0 ≤ S ∧ S < 256) : own (uSelf_46 ⟨A, X, Y, S, pk b0 b1 b2 b3 b4 b5 b6 b7⟩) = rSelf_SEC ⟨A, X, Y, S, pk b0 b1 b2 b3 b4 b5 b6 b7⟩ := by
  rw [show uSelf_46 ⟨A, X, Y, S, pk b0 b1 b2 b3 b4 b5 b6 b7⟩ = uFlag ⟨A, X, Y, S, pk b0 b1 b2 b3 b4 b5 b6 b7⟩ 1 true from rfl, uFlag_1, show rSelf_SEC ⟨A, X, Y, S, pk b0 b1 b2 b3 b4 b5 b6 b7⟩ = rSet ⟨A, X, Y, S, pk b0 b1 b2 b3 b4 b5 b6 b7⟩ 1 1 from rfl, rSet_1 _ _ _ _ 1 _ _ _ _ _ _ _ _ true (by rfl)]
  exact own_eq _ _ _ _ _ (by omega) (by omega) (by omega) (by omega) (pk_b _ _ _ _ _ _ _ _)

theorem self_CLI (A X Y S : Int) (b0 b1 b2 b3 b4 b5 b6 b7 : Bool) (ha : 0 ≤ A ∧ A < 256) (hx : 0 ≤ X ∧ X < 256) (hy : 0 ≤ Y ∧ Y < 256) (hs : 0 ≤ S ∧ S < 256) : own (uSelf_47 ⟨A, X, Y, S, pk b0 b1 b2 b3 b4 b5 b6 b7⟩) = rSelf_CLI ⟨A, X, Y, S, pk b0 b1 b2 b3 b4 b5 b6 b7⟩ := by
  rw [show uSelf_47 ⟨A, X, Y, S, pk b0 b1 b2 b3 b4 b5 b6 b7⟩ = uFlag ⟨A, X, Y, S, pk b0 b1 b2 b3 b4 b5 b6 b7⟩ 4 false from rfl, uFlag_4, show rSelf_CLI ⟨A, X, Y, S, pk b0 b1 b2 b3 b4 b5 b6 b7⟩ = rSet ⟨A, X, Y, S, pk b0 b1 b2 b3 b4 b5 b6 b7⟩ 4 0 from rfl, rSet_4 _ _ _ _ 0 _ _ _ _ _ _ _ _ false (by rfl)]
  exact own_eq _ _ _ _ _ (by omega) (by omega) (by omega) (by omega) (pk_b _ _ _ _ _ _ _ _)

theorem self_SEI (A X Y S : Int) (b0 b1 b2 b3 b4 b5 b6 b7 : Bool) (ha : 0 ≤ A ∧ A < 256) (hx : 0 ≤ X ∧ X < 256) (hy : 0 ≤ Y ∧ Y < 256) (hs : 0 ≤ S ∧ S < 256) : own (uSelf_48 ⟨A, X, Y, S, pk b0 b1 b2 b3 b4 b5 b6 b7⟩) = rSelf_SEI ⟨A, X, Y, S, pk b0 b1 b2 b3 b4 b5 b6 b7⟩ := by
  rw [show uSelf_48 ⟨A, X, Y, S, pk b0 b1 b2 b3 b4 b5 b6 b7⟩ = uFlag ⟨A, X, Y, S, pk b0 b1 b2 b3 b4 b5 b6 b7⟩ 4 true from rfl, uFlag_4, show rSelf_SEI ⟨A, X, Y, S, pk b0 b1 b2 b3 b4 b5 b6 b7⟩ = rSet ⟨A, X, Y, S, pk b0 b1 b2 b3 b4 b5 b6 b7⟩ 4 1 from rfl, rSet_4 _ _ _ _ 1 _ _ _ _ _ _ _ _ true (by rfl)]
  exact own_eq _ _ _ _ _ (by omega) (by omega) (by omega) (by omega) (pk_b _ _ _ _ _ _ _ _)

theorem self_CLV (A X Y S : Int) (b0 b1 b2 b3 b4 b5 b6 b7 : Bool) (ha : 0 ≤ A ∧ A < 256) (hx : 0 ≤ X ∧ X < 256) (hy : 0 ≤ Y ∧ Y < 256) (hs : 0 ≤ S ∧ S < 256) : own (uSelf_49 ⟨A, X, Y, S, pk b0 b1 b2 b3 b4 b5 b6 b7⟩) = rSelf_CLV ⟨A, X, Y, S, pk b0 b1 b2 b3 b4 b5 b6 b7⟩ := by
  rw [show uSelf_49 ⟨A, X, Y, S, pk b0 b1 b2 b3 b4 b5 b6 b7⟩ = uFlag ⟨A, X, Y, S, pk b0 b1 b2 b3 b4 b5 b6 b7⟩ 64 false from rfl, uFlag_64, show rSelf_CLV ⟨A, X, Y, S, pk b0 b1 b2 b3 b4 b5 b6 b7⟩ = rSet ⟨A, X, Y, S, pk b0 b1 b2 b3 b4 b5 b6 b7⟩ 64 0 from rfl, rSet_64 _ _ _ _ 0 _ _ _ _ _ _ _ _ false (by rfl)]
  exact own_eq _ _ _ _ _ (by omega) (by omega) (by omega) (by omega) (pk_b _ _ _ _ _ _ _ _)

theorem self_CLD (A X Y S : Int) (b0 b1 b2 b3 b4 b5 b6 b7 : Bool) (ha : 0 ≤ A ∧ A < 256) (hx : 0 ≤ X ∧ X < 256) (hy : 0 ≤ Y ∧ Y < 256) (hs : 0 ≤ S ∧ S < 256) : own (uSelf_50 ⟨A, X, Y, S, pk b0 b1 b2 b3 b4 b5 b6 b7⟩) = rSelf_CLD ⟨A, X, Y, S, pk b0 b1 b2 b3 b4 b5 b6 b7⟩ := by
  rw [show uSelf_50 ⟨A, X, Y, S, pk b0 b1 b2 b3 b4 b5 b6 b7⟩ = uFlag ⟨A, X, Y, S, pk b0 b1 b2 b3 b4 b5 b6 b7⟩ 8 false from rfl, uFlag_8, show rSelf_CLD ⟨A, X, Y, S, pk b0 b1 b2 b3 b4 b5 b6 b7⟩ = rSet ⟨A, X, Y, S, pk b0 b1 b2 b3 b4 b5 b6 b7⟩ 8 0 from rfl, rSet_8 _ _ _ _ 0 _ _ _ _ _ _ _ _ false (by rfl)]
  exact own_eq _ _ _ _ _ (by omega) (by omega) (by omega) (by omega) (pk_b _ _ _ _ _ _ _ _)

theorem self_SED (A X Y S : Int) (b0 b1 b2 b3 b4 b5 b6 b7 : Bool) (ha : 0 ≤ A ∧ A < 256) (hx : 0 ≤ X ∧ X < 256) (hy : 0 ≤ Y ∧ Y < 256) (hs : 0 ≤ S ∧ S < 256) : own (uSelf_51 ⟨A, X, Y, S, pk b0 b1 b2 b3 b4 b5 b6 b7⟩) = rSelf_SED ⟨A, X, Y, S, pk b0 b1 b2 b3 b4 b5 b6 b7⟩ := by
  rw [show uSelf_51 ⟨A, X, Y, S, pk b0 b1 b2 b3 b4 b5 b6 b7⟩ = uFlag ⟨A, X, Y, S, pk b0 b1 b2 b3 b4 b5 b6 b7⟩ 8 true from rfl, uFlag_8, show rSelf_SED ⟨A, X, Y, S, pk b0 b1 b2 b3 b4 b5 b6 b7⟩ = rSet ⟨A, X, Y, S, pk b0 b1 b2 b3 b4 b5 b6 b7⟩ 8 1 from rfl, rSet_8 _ _ _ _ 1 _ _ _ _ _ _ _ _ true (by rfl)]
  exact own_eq _ _ _ _ _ (by omega) (by omega) (by omega) (by omega) (pk_b _ _ _ _ _ _ _ _)

theorem selfs_true (u : Unit) (hu : Bytes u) (op : Int) (ho : 0 ≤ op ∧ op < 256) : FnSpec Try.prog 12 1000 [Unit.enc u, .int .u8 op] [] (.bool true) [] := by
  obtain ⟨A, X, Y, S, P⟩ := u
  obtain ⟨ha, hx, hy, hs, hp⟩ := hu
  obtain ⟨b0, b1, b2, b3, b4, b5, b6, b7, hP⟩ := pk_of P hp
  simp only at ha hx hy hs hp hP
  subst hP
  have eo : own ⟨A, X, Y, S, pk b0 b1 b2 b3 b4 b5 b6 b7⟩ = ⟨A, X, Y, S, pk b0 b1 b2 b3 b4 b5 b6 b7⟩ := own_eq _ _ _ _ _ ha hx hy hs hp
  by_cases h : op < 70
  · by_cases h2 : op < 35
    · obtain rfl | rfl | rfl | rfl | rfl | rfl | rfl | rfl | rfl | rfl | rfl | rfl | rfl | rfl | rfl | rfl | rfl | rfl | rfl | rfl | rfl | rfl | rfl | rfl | rfl | rfl | rfl | rfl | rfl | rfl | rfl | rfl | rfl | rfl | rfl : op = 0 ∨ op = 1 ∨ op = 2 ∨ op = 3 ∨ op = 4 ∨ op = 5 ∨ op = 6 ∨ op = 7 ∨ op = 8 ∨ op = 9 ∨ op = 10 ∨ op = 11 ∨ op = 12 ∨ op = 13 ∨ op = 14 ∨ op = 15 ∨ op = 16 ∨ op = 17 ∨ op = 18 ∨ op = 19 ∨ op = 20 ∨ op = 21 ∨ op = 22 ∨ op = 23 ∨ op = 24 ∨ op = 25 ∨ op = 26 ∨ op = 27 ∨ op = 28 ∨ op = 29 ∨ op = 30 ∨ op = 31 ∨ op = 32 ∨ op = 33 ∨ op = 34 := by omega
      · have := lawSelfs_0_p1 ⟨A, X, Y, S, pk b0 b1 b2 b3 b4 b5 b6 b7⟩ awake_t
        rwa [eo, same5 (show own (uSelf_0 ⟨A, X, Y, S, pk b0 b1 b2 b3 b4 b5 b6 b7⟩) = rSelf_NOP ⟨A, X, Y, S, pk b0 b1 b2 b3 b4 b5 b6 b7⟩ from eo)] at this
      · have := lawSelfs_1_p1 ⟨A, X, Y, S, pk b0 b1 b2 b3 b4 b5 b6 b7⟩ awake_t
        rwa [eo, same5 (show own (uSelf_1 ⟨A, X, Y, S, pk b0 b1 b2 b3 b4 b5 b6 b7⟩) = rSelf_ORA ⟨A, X, Y, S, pk b0 b1 b2 b3 b4 b5 b6 b7⟩ from eo)] at this
      · have := lawSelfs_2_p1 ⟨A, X, Y, S, pk b0 b1 b2 b3 b4 b5 b6 b7⟩ awake_t
        rwa [eo, same5 (show own (uSelf_2 ⟨A, X, Y, S, pk b0 b1 b2 b3 b4 b5 b6 b7⟩) = rSelf_AND ⟨A, X, Y, S, pk b0 b1 b2 b3 b4 b5 b6 b7⟩ from eo)] at this
      · have := lawSelfs_3_p1 ⟨A, X, Y, S, pk b0 b1 b2 b3 b4 b5 b6 b7⟩ awake_t
        rwa [eo, same5 (show own (uSelf_3 ⟨A, X, Y, S, pk b0 b1 b2 b3 b4 b5 b6 b7⟩) = rSelf_EOR ⟨A, X, Y, S, pk b0 b1 b2 b3 b4 b5 b6 b7⟩ from eo)] at this
      · have := lawSelfs_4_p1 ⟨A, X, Y, S, pk b0 b1 b2 b3 b4 b5 b6 b7⟩ awake_t
        rwa [eo, same5 (show own (uSelf_4 ⟨A, X, Y, S, pk b0 b1 b2 b3 b4 b5 b6 b7⟩) = rSelf_ADC ⟨A, X, Y, S, pk b0 b1 b2 b3 b4 b5 b6 b7⟩ from eo)] at this
      · have := lawSelfs_5_p1 ⟨A, X, Y, S, pk b0 b1 b2 b3 b4 b5 b6 b7⟩ awake_t
        rwa [eo, same5 (show own (uSelf_5 ⟨A, X, Y, S, pk b0 b1 b2 b3 b4 b5 b6 b7⟩) = rSelf_SBC ⟨A, X, Y, S, pk b0 b1 b2 b3 b4 b5 b6 b7⟩ from eo)] at this
      · have := lawSelfs_6_p1 ⟨A, X, Y, S, pk b0 b1 b2 b3 b4 b5 b6 b7⟩ awake_t
        rwa [eo, same5 (show own (uSelf_6 ⟨A, X, Y, S, pk b0 b1 b2 b3 b4 b5 b6 b7⟩) = rSelf_CMP ⟨A, X, Y, S, pk b0 b1 b2 b3 b4 b5 b6 b7⟩ from eo)] at this
      · have := lawSelfs_7_p1 ⟨A, X, Y, S, pk b0 b1 b2 b3 b4 b5 b6 b7⟩ awake_t
        rwa [eo, same5 (show own (uSelf_7 ⟨A, X, Y, S, pk b0 b1 b2 b3 b4 b5 b6 b7⟩) = rSelf_CPX ⟨A, X, Y, S, pk b0 b1 b2 b3 b4 b5 b6 b7⟩ from eo)] at this
      · have := lawSelfs_8_p1 ⟨A, X, Y, S, pk b0 b1 b2 b3 b4 b5 b6 b7⟩ awake_t
        rwa [eo, same5 (show own (uSelf_8 ⟨A, X, Y, S, pk b0 b1 b2 b3 b4 b5 b6 b7⟩) = rSelf_CPY ⟨A, X, Y, S, pk b0 b1 b2 b3 b4 b5 b6 b7⟩ from eo)] at this
      · have := lawSelfs_9_p1 ⟨A, X, Y, S, pk b0 b1 b2 b3 b4 b5 b6 b7⟩ awake_t
        rwa [eo, same5 (show own (uSelf_9 ⟨A, X, Y, S, pk b0 b1 b2 b3 b4 b5 b6 b7⟩) = rSelf_LDA ⟨A, X, Y, S, pk b0 b1 b2 b3 b4 b5 b6 b7⟩ from eo)] at this
      · have := lawSelfs_10_p1 ⟨A, X, Y, S, pk b0 b1 b2 b3 b4 b5 b6 b7⟩ awake_t
        rwa [eo, same5 (show own (uSelf_10 ⟨A, X, Y, S, pk b0 b1 b2 b3 b4 b5 b6 b7⟩) = rSelf_LDX ⟨A, X, Y, S, pk b0 b1 b2 b3 b4 b5 b6 b7⟩ from eo)] at this
      · have := lawSelfs_11_p1 ⟨A, X, Y, S, pk b0 b1 b2 b3 b4 b5 b6 b7⟩ awake_t
        rwa [eo, same5 (show own (uSelf_11 ⟨A, X, Y, S, pk b0 b1 b2 b3 b4 b5 b6 b7⟩) = rSelf_LDY ⟨A, X, Y, S, pk b0 b1 b2 b3 b4 b5 b6 b7⟩ from eo)] at this
      · have := lawSelfs_12_p1 ⟨A, X, Y, S, pk b0 b1 b2 b3 b4 b5 b6 b7⟩ awake_t
        rwa [eo, same5 (show own (uSelf_12 ⟨A, X, Y, S, pk b0 b1 b2 b3 b4 b5 b6 b7⟩) = rSelf_BIT ⟨A, X, Y, S, pk b0 b1 b2 b3 b4 b5 b6 b7⟩ from eo)] at this
      · have := lawSelfs_13_p1 ⟨A, X, Y, S, pk b0 b1 b2 b3 b4 b5 b6 b7⟩ awake_t
        rwa [eo, same5 (show own (uSelf_13 ⟨A, X, Y, S, pk b0 b1 b2 b3 b4 b5 b6 b7⟩) = rSelf_LAX ⟨A, X, Y, S, pk b0 b1 b2 b3 b4 b5 b6 b7⟩ from eo)] at this
      · have := lawSelfs_14_p1 ⟨A, X, Y, S, pk b0 b1 b2 b3 b4 b5 b6 b7⟩ awake_t
        rwa [eo, same5 (show own (uSelf_14 ⟨A, X, Y, S, pk b0 b1 b2 b3 b4 b5 b6 b7⟩) = rSelf_ANC ⟨A, X, Y, S, pk b0 b1 b2 b3 b4 b5 b6 b7⟩ from eo)] at this
      · have := lawSelfs_15_p1 ⟨A, X, Y, S, pk b0 b1 b2 b3 b4 b5 b6 b7⟩ awake_t
        rwa [eo, same5 (show own (uSelf_15 ⟨A, X, Y, S, pk b0 b1 b2 b3 b4 b5 b6 b7⟩) = rSelf_ALR ⟨A, X, Y, S, pk b0 b1 b2 b3 b4 b5 b6 b7⟩ from eo)] at this
      · have := lawSelfs_16_p1 ⟨A, X, Y, S, pk b0 b1 b2 b3 b4 b5 b6 b7⟩ awake_t
        rwa [eo, same5 (show own (uSelf_16 ⟨A, X, Y, S, pk b0 b1 b2 b3 b4 b5 b6 b7⟩) = rSelf_ARR ⟨A, X, Y, S, pk b0 b1 b2 b3 b4 b5 b6 b7⟩ from eo)] at this
      · have := lawSelfs_17_p1 ⟨A, X, Y, S, pk b0 b1 b2 b3 b4 b5 b6 b7⟩ awake_t
        rwa [eo, same5 (show own (uSelf_17 ⟨A, X, Y, S, pk b0 b1 b2 b3 b4 b5 b6 b7⟩) = rSelf_AXS ⟨A, X, Y, S, pk b0 b1 b2 b3 b4 b5 b6 b7⟩ from eo)] at this
      · have := lawSelfs_18_p1 ⟨A, X, Y, S, pk b0 b1 b2 b3 b4 b5 b6 b7⟩ awake_t
        rwa [eo, same5 (show own (uSelf_18 ⟨A, X, Y, S, pk b0 b1 b2 b3 b4 b5 b6 b7⟩) = rSelf_LAS ⟨A, X, Y, S, pk b0 b1 b2 b3 b4 b5 b6 b7⟩ from eo)] at this
      · have := lawSelfs_19_p1 ⟨A, X, Y, S, pk b0 b1 b2 b3 b4 b5 b6 b7⟩ awake_t
        rwa [eo, same5 (self_ASL A X Y S b0 b1 b2 b3 b4 b5 b6 b7 ha hx hy hs)] at this
      · have := lawSelfs_20_p1 ⟨A, X, Y, S, pk b0 b1 b2 b3 b4 b5 b6 b7⟩ awake_t
        rwa [eo, same5 (self_LSR A X Y S b0 b1 b2 b3 b4 b5 b6 b7 ha hx hy hs)] at this
      · have := lawSelfs_21_p1 ⟨A, X, Y, S, pk b0 b1 b2 b3 b4 b5 b6 b7⟩ awake_t
        rwa [eo, same5 (self_ROL A X Y S b0 b1 b2 b3 b4 b5 b6 b7 ha hx hy hs)] at this
      · have := lawSelfs_22_p1 ⟨A, X, Y, S, pk b0 b1 b2 b3 b4 b5 b6 b7⟩ awake_t
        rwa [eo, same5 (self_ROR A X Y S b0 b1 b2 b3 b4 b5 b6 b7 ha hx hy hs)] at this
      · have := lawSelfs_23_p1 ⟨A, X, Y, S, pk b0 b1 b2 b3 b4 b5 b6 b7⟩ awake_t
        rwa [eo, same5 (show own (uSelf_23 ⟨A, X, Y, S, pk b0 b1 b2 b3 b4 b5 b6 b7⟩) = rSelf_INC ⟨A, X, Y, S, pk b0 b1 b2 b3 b4 b5 b6 b7⟩ from eo)] at this
      · have := lawSelfs_24_p1 ⟨A, X, Y, S, pk b0 b1 b2 b3 b4 b5 b6 b7⟩ awake_t
        rwa [eo, same5 (show own (uSelf_24 ⟨A, X, Y, S, pk b0 b1 b2 b3 b4 b5 b6 b7⟩) = rSelf_DEC ⟨A, X, Y, S, pk b0 b1 b2 b3 b4 b5 b6 b7⟩ from eo)] at this
      · have := lawSelfs_25_p1 ⟨A, X, Y, S, pk b0 b1 b2 b3 b4 b5 b6 b7⟩ awake_t
        rwa [eo, same5 (show own (uSelf_25 ⟨A, X, Y, S, pk b0 b1 b2 b3 b4 b5 b6 b7⟩) = rSelf_SLO ⟨A, X, Y, S, pk b0 b1 b2 b3 b4 b5 b6 b7⟩ from eo)] at this
      · have := lawSelfs_26_p1 ⟨A, X, Y, S, pk b0 b1 b2 b3 b4 b5 b6 b7⟩ awake_t
        rwa [eo, same5 (show own (uSelf_26 ⟨A, X, Y, S, pk b0 b1 b2 b3 b4 b5 b6 b7⟩) = rSelf_RLA ⟨A, X, Y, S, pk b0 b1 b2 b3 b4 b5 b6 b7⟩ from eo)] at this
      · have := lawSelfs_27_p1 ⟨A, X, Y, S, pk b0 b1 b2 b3 b4 b5 b6 b7⟩ awake_t
        rwa [eo, same5 (show own (uSelf_27 ⟨A, X, Y, S, pk b0 b1 b2 b3 b4 b5 b6 b7⟩) = rSelf_SRE ⟨A, X, Y, S, pk b0 b1 b2 b3 b4 b5 b6 b7⟩ from eo)] at this
      · have := lawSelfs_28_p1 ⟨A, X, Y, S, pk b0 b1 b2 b3 b4 b5 b6 b7⟩ awake_t
        rwa [eo, same5 (show own (uSelf_28 ⟨A, X, Y, S, pk b0 b1 b2 b3 b4 b5 b6 b7⟩) = rSelf_RRA ⟨A, X, Y, S, pk b0 b1 b2 b3 b4 b5 b6 b7⟩ from eo)] at this
      · have := lawSelfs_29_p1 ⟨A, X, Y, S, pk b0 b1 b2 b3 b4 b5 b6 b7⟩ awake_t
        rwa [eo, same5 (show own (uSelf_29 ⟨A, X, Y, S, pk b0 b1 b2 b3 b4 b5 b6 b7⟩) = rSelf_DCP ⟨A, X, Y, S, pk b0 b1 b2 b3 b4 b5 b6 b7⟩ from eo)] at this
      · have := lawSelfs_30_p1 ⟨A, X, Y, S, pk b0 b1 b2 b3 b4 b5 b6 b7⟩ awake_t
        rwa [eo, same5 (show own (uSelf_30 ⟨A, X, Y, S, pk b0 b1 b2 b3 b4 b5 b6 b7⟩) = rSelf_ISC ⟨A, X, Y, S, pk b0 b1 b2 b3 b4 b5 b6 b7⟩ from eo)] at this
      · have := lawSelfs_31_p1 ⟨A, X, Y, S, pk b0 b1 b2 b3 b4 b5 b6 b7⟩ awake_t
        rwa [eo, same5 (show own (uSelf_31 ⟨A, X, Y, S, pk b0 b1 b2 b3 b4 b5 b6 b7⟩) = rSelf_STA ⟨A, X, Y, S, pk b0 b1 b2 b3 b4 b5 b6 b7⟩ from eo)] at this
      · have := lawSelfs_32_p1 ⟨A, X, Y, S, pk b0 b1 b2 b3 b4 b5 b6 b7⟩ awake_t
        rwa [eo, same5 (show own (uSelf_32 ⟨A, X, Y, S, pk b0 b1 b2 b3 b4 b5 b6 b7⟩) = rSelf_STX ⟨A, X, Y, S, pk b0 b1 b2 b3 b4 b5 b6 b7⟩ from eo)] at this
      · have := lawSelfs_33_p1 ⟨A, X, Y, S, pk b0 b1 b2 b3 b4 b5 b6 b7⟩ awake_t
        rwa [eo, same5 (show own (uSelf_33 ⟨A, X, Y, S, pk b0 b1 b2 b3 b4 b5 b6 b7⟩) = rSelf_STY ⟨A, X, Y, S, pk b0 b1 b2 b3 b4 b5 b6 b7⟩ from eo)] at this
      · have := lawSelfs_34_p1 ⟨A, X, Y, S, pk b0 b1 b2 b3 b4 b5 b6 b7⟩ awake_t
        rwa [eo, same5 (show own (uSelf_34 ⟨A, X, Y, S, pk b0 b1 b2 b3 b4 b5 b6 b7⟩) = rSelf_SAX ⟨A, X, Y, S, pk b0 b1 b2 b3 b4 b5 b6 b7⟩ from eo)] at this
    · obtain rfl | rfl | rfl | rfl | rfl | rfl | rfl | rfl | rfl | rfl | rfl | rfl | rfl | rfl | rfl | rfl | rfl | rfl | rfl | rfl | rfl | rfl | rfl | rfl | rfl | rfl | rfl | rfl | rfl | rfl | rfl | rfl | rfl | rfl | rfl : op = 35 ∨ op = 36 ∨ op = 37 ∨ op = 38 ∨ op = 39 ∨ op = 40 ∨ op = 41 ∨ op = 42 ∨ op = 43 ∨ op = 44 ∨ op = 45 ∨ op = 46 ∨ op = 47 ∨ op = 48 ∨ op = 49 ∨ op = 50 ∨ op = 51 ∨ op = 52 ∨ op = 53 ∨ op = 54 ∨ op = 55 ∨ op = 56 ∨ op = 57 ∨ op = 58 ∨ op = 59 ∨ op = 60 ∨ op = 61 ∨ op = 62 ∨ op = 63 ∨ op = 64 ∨ op = 65 ∨ op = 66 ∨ op = 67 ∨ op = 68 ∨ op = 69 := by omega
      · have := lawSelfs_35_p1 ⟨A, X, Y, S, pk b0 b1 b2 b3 b4 b5 b6 b7⟩ awake_t
        rwa [eo, same5 (self_TAX A X Y S b0 b1 b2 b3 b4 b5 b6 b7 ha hx hy hs)] at this
      · have := lawSelfs_36_p1 ⟨A, X, Y, S, pk b0 b1 b2 b3 b4 b5 b6 b7⟩ awake_t
        rwa [eo, same5 (self_TAY A X Y S b0 b1 b2 b3 b4 b5 b6 b7 ha hx hy hs)] at this
      · have := lawSelfs_37_p1 ⟨A, X, Y, S, pk b0 b1 b2 b3 b4 b5 b6 b7⟩ awake_t
        rwa [eo, same5 (self_TXA A X Y S b0 b1 b2 b3 b4 b5 b6 b7 ha hx hy hs)] at this
      · have := lawSelfs_38_p1 ⟨A, X, Y, S, pk b0 b1 b2 b3 b4 b5 b6 b7⟩ awake_t
        rwa [eo, same5 (self_TYA A X Y S b0 b1 b2 b3 b4 b5 b6 b7 ha hx hy hs)] at this
      · have := lawSelfs_39_p1 ⟨A, X, Y, S, pk b0 b1 b2 b3 b4 b5 b6 b7⟩ awake_t
        rwa [eo, same5 (self_TSX A X Y S b0 b1 b2 b3 b4 b5 b6 b7 ha hx hy hs)] at this
      · have := lawSelfs_40_p1 ⟨A, X, Y, S, pk b0 b1 b2 b3 b4 b5 b6 b7⟩ awake_t
        rwa [eo, same5 (self_TXS A X Y S b0 b1 b2 b3 b4 b5 b6 b7 ha hx hy hs)] at this
      · have := lawSelfs_41_p1 ⟨A, X, Y, S, pk b0 b1 b2 b3 b4 b5 b6 b7⟩ awake_t
        rwa [eo, same5 (self_INX A X Y S b0 b1 b2 b3 b4 b5 b6 b7 ha hx hy hs)] at this
      · have := lawSelfs_42_p1 ⟨A, X, Y, S, pk b0 b1 b2 b3 b4 b5 b6 b7⟩ awake_t
        rwa [eo, same5 (self_INY A X Y S b0 b1 b2 b3 b4 b5 b6 b7 ha hx hy hs)] at this
      · have := lawSelfs_43_p1 ⟨A, X, Y, S, pk b0 b1 b2 b3 b4 b5 b6 b7⟩ awake_t
        rwa [eo, same5 (self_DEX A X Y S b0 b1 b2 b3 b4 b5 b6 b7 ha hx hy hs)] at this
      · have := lawSelfs_44_p1 ⟨A, X, Y, S, pk b0 b1 b2 b3 b4 b5 b6 b7⟩ awake_t
        rwa [eo, same5 (self_DEY A X Y S b0 b1 b2 b3 b4 b5 b6 b7 ha hx hy hs)] at this
      · have := lawSelfs_45_p1 ⟨A, X, Y, S, pk b0 b1 b2 b3 b4 b5 b6 b7⟩ awake_t
        rwa [eo, same5 (self_CLC A X Y S b0 b1 b2 b3 b4 b5 b6 b7 ha hx hy hs)] at this
      · have := lawSelfs_46_p1 ⟨A, X, Y, S, pk b0 b1 b2 b3 b4 b5 b6 b7⟩ awake_t
        rwa [eo, same5 (self_SEC A X Y S b0 b1 b2 b3 b4 b5 b6 b7 ha hx hy hs)] at this
      · have := lawSelfs_47_p1 ⟨A, X, Y, S, pk b0 b1 b2 b3 b4 b5 b6 b7⟩ awake_t
        rwa [eo, same5 (self_CLI A X Y S b0 b1 b2 b3 b4 b5 b6 b7 ha hx hy hs)] at this
      · have := lawSelfs_48_p1 ⟨A, X, Y, S, pk b0 b1 b2 b3 b4 b5 b6 b7⟩ awake_t
        rwa [eo, same5 (self_SEI A X Y S b0 b1 b2 b3 b4 b5 b6 b7 ha hx hy hs)] at this
      · have := lawSelfs_49_p1 ⟨A, X, Y, S, pk b0 b1 b2 b3 b4 b5 b6 b7⟩ awake_t
        rwa [eo, same5 (self_CLV A X Y S b0 b1 b2 b3 b4 b5 b6 b7 ha hx hy hs)] at this
      · have := lawSelfs_50_p1 ⟨A, X, Y, S, pk b0 b1 b2 b3 b4 b5 b6 b7⟩ awake_t
        rwa [eo, same5 (self_CLD A X Y S b0 b1 b2 b3 b4 b5 b6 b7 ha hx hy hs)] at this
      · have := lawSelfs_51_p1 ⟨A, X, Y, S, pk b0 b1 b2 b3 b4 b5 b6 b7⟩ awake_t
        rwa [eo, same5 (self_SED A X Y S b0 b1 b2 b3 b4 b5 b6 b7 ha hx hy hs)] at this
      · have := lawSelfs_52_p1 ⟨A, X, Y, S, pk b0 b1 b2 b3 b4 b5 b6 b7⟩ awake_t
        rwa [eo, same5 (show own (uSelf_52 ⟨A, X, Y, S, pk b0 b1 b2 b3 b4 b5 b6 b7⟩) = rSelf_BPL ⟨A, X, Y, S, pk b0 b1 b2 b3 b4 b5 b6 b7⟩ from eo)] at this
      · have := lawSelfs_53_p1 ⟨A, X, Y, S, pk b0 b1 b2 b3 b4 b5 b6 b7⟩ awake_t
        rwa [eo, same5 (show own (uSelf_53 ⟨A, X, Y, S, pk b0 b1 b2 b3 b4 b5 b6 b7⟩) = rSelf_BMI ⟨A, X, Y, S, pk b0 b1 b2 b3 b4 b5 b6 b7⟩ from eo)] at this
      · have := lawSelfs_54_p1 ⟨A, X, Y, S, pk b0 b1 b2 b3 b4 b5 b6 b7⟩ awake_t
        rwa [eo, same5 (show own (uSelf_54 ⟨A, X, Y, S, pk b0 b1 b2 b3 b4 b5 b6 b7⟩) = rSelf_BVC ⟨A, X, Y, S, pk b0 b1 b2 b3 b4 b5 b6 b7⟩ from eo)] at this
      · have := lawSelfs_55_p1 ⟨A, X, Y, S, pk b0 b1 b2 b3 b4 b5 b6 b7⟩ awake_t
        rwa [eo, same5 (show own (uSelf_55 ⟨A, X, Y, S, pk b0 b1 b2 b3 b4 b5 b6 b7⟩) = rSelf_BVS ⟨A, X, Y, S, pk b0 b1 b2 b3 b4 b5 b6 b7⟩ from eo)] at this
      · have := lawSelfs_56_p1 ⟨A, X, Y, S, pk b0 b1 b2 b3 b4 b5 b6 b7⟩ awake_t
        rwa [eo, same5 (show own (uSelf_56 ⟨A, X, Y, S, pk b0 b1 b2 b3 b4 b5 b6 b7⟩) = rSelf_BCC ⟨A, X, Y, S, pk b0 b1 b2 b3 b4 b5 b6 b7⟩ from eo)] at this
      · have := lawSelfs_57_p1 ⟨A, X, Y, S, pk b0 b1 b2 b3 b4 b5 b6 b7⟩ awake_t
        rwa [eo, same5 (show own (uSelf_57 ⟨A, X, Y, S, pk b0 b1 b2 b3 b4 b5 b6 b7⟩) = rSelf_BCS ⟨A, X, Y, S, pk b0 b1 b2 b3 b4 b5 b6 b7⟩ from eo)] at this
      · have := lawSelfs_58_p1 ⟨A, X, Y, S, pk b0 b1 b2 b3 b4 b5 b6 b7⟩ awake_t
        rwa [eo, same5 (show own (uSelf_58 ⟨A, X, Y, S, pk b0 b1 b2 b3 b4 b5 b6 b7⟩) = rSelf_BNE ⟨A, X, Y, S, pk b0 b1 b2 b3 b4 b5 b6 b7⟩ from eo)] at this
      · have := lawSelfs_59_p1 ⟨A, X, Y, S, pk b0 b1 b2 b3 b4 b5 b6 b7⟩ awake_t
        rwa [eo, same5 (show own (uSelf_59 ⟨A, X, Y, S, pk b0 b1 b2 b3 b4 b5 b6 b7⟩) = rSelf_BEQ ⟨A, X, Y, S, pk b0 b1 b2 b3 b4 b5 b6 b7⟩ from eo)] at this
      · have := lawSelfs_60_p1 ⟨A, X, Y, S, pk b0 b1 b2 b3 b4 b5 b6 b7⟩ awake_t
        rwa [eo, same5 (show own (uSelf_60 ⟨A, X, Y, S, pk b0 b1 b2 b3 b4 b5 b6 b7⟩) = rSelf_JMP ⟨A, X, Y, S, pk b0 b1 b2 b3 b4 b5 b6 b7⟩ from eo)] at this
      · have := lawSelfs_61_p1 ⟨A, X, Y, S, pk b0 b1 b2 b3 b4 b5 b6 b7⟩ awake_t
        rwa [eo, same5 (show own (uSelf_61 ⟨A, X, Y, S, pk b0 b1 b2 b3 b4 b5 b6 b7⟩) = rSelf_JSR ⟨A, X, Y, S, pk b0 b1 b2 b3 b4 b5 b6 b7⟩ from eo)] at this
      · have := lawSelfs_62_p1 ⟨A, X, Y, S, pk b0 b1 b2 b3 b4 b5 b6 b7⟩ awake_t
        rwa [eo, same5 (show own (uSelf_62 ⟨A, X, Y, S, pk b0 b1 b2 b3 b4 b5 b6 b7⟩) = rSelf_RTS ⟨A, X, Y, S, pk b0 b1 b2 b3 b4 b5 b6 b7⟩ from eo)] at this
      · have := lawSelfs_63_p1 ⟨A, X, Y, S, pk b0 b1 b2 b3 b4 b5 b6 b7⟩ awake_t
        rwa [eo, same5 (show own (uSelf_63 ⟨A, X, Y, S, pk b0 b1 b2 b3 b4 b5 b6 b7⟩) = rSelf_RTI ⟨A, X, Y, S, pk b0 b1 b2 b3 b4 b5 b6 b7⟩ from eo)] at this
      · have := lawSelfs_64_p1 ⟨A, X, Y, S, pk b0 b1 b2 b3 b4 b5 b6 b7⟩ awake_t
        rwa [eo, same5 (show own (uSelf_64 ⟨A, X, Y, S, pk b0 b1 b2 b3 b4 b5 b6 b7⟩) = rSelf_BRK ⟨A, X, Y, S, pk b0 b1 b2 b3 b4 b5 b6 b7⟩ from eo)] at this
      · have := lawSelfs_65_p1 ⟨A, X, Y, S, pk b0 b1 b2 b3 b4 b5 b6 b7⟩ awake_t
        rwa [eo, same5 (show own (uSelf_65 ⟨A, X, Y, S, pk b0 b1 b2 b3 b4 b5 b6 b7⟩) = rSelf_PHA ⟨A, X, Y, S, pk b0 b1 b2 b3 b4 b5 b6 b7⟩ from eo)] at this
      · have := lawSelfs_66_p1 ⟨A, X, Y, S, pk b0 b1 b2 b3 b4 b5 b6 b7⟩ awake_t
        rwa [eo, same5 (show own (uSelf_66 ⟨A, X, Y, S, pk b0 b1 b2 b3 b4 b5 b6 b7⟩) = rSelf_PHP ⟨A, X, Y, S, pk b0 b1 b2 b3 b4 b5 b6 b7⟩ from eo)] at this
      · have := lawSelfs_67_p1 ⟨A, X, Y, S, pk b0 b1 b2 b3 b4 b5 b6 b7⟩ awake_t
        rwa [eo, same5 (show own (uSelf_67 ⟨A, X, Y, S, pk b0 b1 b2 b3 b4 b5 b6 b7⟩) = rSelf_PLA ⟨A, X, Y, S, pk b0 b1 b2 b3 b4 b5 b6 b7⟩ from eo)] at this
      · have := lawSelfs_68_p1 ⟨A, X, Y, S, pk b0 b1 b2 b3 b4 b5 b6 b7⟩ awake_t
        rwa [eo, same5 (show own (uSelf_68 ⟨A, X, Y, S, pk b0 b1 b2 b3 b4 b5 b6 b7⟩) = rSelf_PLP ⟨A, X, Y, S, pk b0 b1 b2 b3 b4 b5 b6 b7⟩ from eo)] at this
      · have := lawSelfs_69_p1 ⟨A, X, Y, S, pk b0 b1 b2 b3 b4 b5 b6 b7⟩ awake_t
        rwa [eo, same5 (show own (uSelf_69 ⟨A, X, Y, S, pk b0 b1 b2 b3 b4 b5 b6 b7⟩) = rSelf_JAM ⟨A, X, Y, S, pk b0 b1 b2 b3 b4 b5 b6 b7⟩ from eo)] at this
  · have := lawSelfs_hi_p1 ⟨A, X, Y, S, pk b0 b1 b2 b3 b4 b5 b6 b7⟩ op (by omega) awake_t
    rwa [eo, same5 (show own (uSelf_hi ⟨A, X, Y, S, pk b0 b1 b2 b3 b4 b5 b6 b7⟩ op) = rSelf_none ⟨A, X, Y, S, pk b0 b1 b2 b3 b4 b5 b6 b7⟩ from eo)] at this

end Go.Proofs.Ytfjeifmenlnkkaa
