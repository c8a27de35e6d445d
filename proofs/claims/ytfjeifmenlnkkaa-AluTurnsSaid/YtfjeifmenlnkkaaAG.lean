/-
  Layer 8: what each operation comes to, of the program and of the reference: the same. Written by gen_ag.py. No condition.
-/
import Derived.Test.YtfjeifmenlnkkaaAF
namespace Go.Proofs.Ytfjeifmenlnkkaa
open Go VX IntWalk
set_option maxRecDepth 100000
set_option linter.unusedSimpArgs false
set_option linter.unusedVariables false

theorem bit7_and {a b : Int} (ha : 0 ≤ a ∧ a < 256) (hb : 0 ≤ b ∧ b < 256) : bAnd .u8 a b / 128 % 2 = 1 ↔ a / 128 % 2 = 1 ∧ b / 128 % 2 = 1 := by
  obtain ⟨x, rfl⟩ := Int.eq_ofNat_of_zero_le ha.1
  obtain ⟨y, rfl⟩ := Int.eq_ofNat_of_zero_le hb.1
  rw [and_nat (k := .u8) rfl (show x < 256 by omega) (show y < 256 by omega)]
  have h := Nat.testBit_and x y 7
  simp only [Nat.testBit_eq_decide_div_mod_eq, show 2 ^ 7 = 128 from rfl] at h
  have h' : (x &&& y) / 128 % 2 = 1 ↔ x / 128 % 2 = 1 ∧ y / 128 % 2 = 1 := by
    rw [← Bool.decide_and, decide_eq_decide] at h; exact h
  omega
theorem bitp_xor (p : Nat) {a b : Int} (q : Int) (hq : q = ((2 ^ p : Nat) : Int)) (ha : 0 ≤ a ∧ a < 256) (hb : 0 ≤ b ∧ b < 256) : bXor .u8 a b / q % 2 = 1 ↔ a / q % 2 ≠ b / q % 2 := by
  obtain ⟨x, rfl⟩ := Int.eq_ofNat_of_zero_le ha.1
  obtain ⟨y, rfl⟩ := Int.eq_ofNat_of_zero_le hb.1
  subst hq
  rw [xor_nat (k := .u8) rfl (show x < 256 by omega) (show y < 256 by omega)]
  have h := Nat.testBit_xor x y p
  simp only [Nat.testBit_eq_decide_div_mod_eq] at h
  have h' : (x ^^^ y) / 2 ^ p % 2 = 1 ↔ x / 2 ^ p % 2 ≠ y / 2 ^ p % 2 := by
    have hx := Nat.mod_two_eq_zero_or_one (x / 2 ^ p)
    have hy := Nat.mod_two_eq_zero_or_one (y / 2 ^ p)
    have hz := Nat.mod_two_eq_zero_or_one ((x ^^^ y) / 2 ^ p)
    rcases hx with hx | hx <;> rcases hy with hy | hy <;> rcases hz with hz | hz <;> simp [hx, hy, hz] at h ⊢
  have c1 : ((x ^^^ y : Nat) : Int) / ((2 ^ p : Nat) : Int) % 2 = (((x ^^^ y) / 2 ^ p % 2 : Nat) : Int) := by norm_cast
  have c2 : ((x : Nat) : Int) / ((2 ^ p : Nat) : Int) % 2 = ((x / 2 ^ p % 2 : Nat) : Int) := by norm_cast
  have c3 : ((y : Nat) : Int) / ((2 ^ p : Nat) : Int) % 2 = ((y / 2 ^ p % 2 : Nat) : Int) := by norm_cast
  rw [c1, c2, c3]
  omega

theorem b2i_if (p : Prop) [Decidable p] : b2i (decide p) = if p then 1 else 0 := by
  by_cases h : p <;> simp [h, b2i]

def notB (m : Nat) : Bool := bXor .u8 255 (m : Int) == 255 - (m : Int)
theorem not_all : allN notB 8 0 = true := by kernel_rfl
theorem xor_255 {m : Int} (h : 0 ≤ m ∧ m < 256) : bXor .u8 255 m = 255 - m := by
  have := allN_int not_all m h.1 (by simpa using h.2)
  simp only [notB, beq_iff_eq, Int.toNat_of_nonneg h.1] at this
  exact this

theorem u8_sub {a b : Int} : IntKind.u8.wrap (a - b) = (a - b) % 256 := by rw [IntKind.wrap_u8]
theorem u8_sub1 {a : Int} : IntKind.u8.wrap (a - 1) = (a - 1) % 256 := by rw [IntKind.wrap_u8]
theorem u8_add1 {a : Int} : IntKind.u8.wrap (a + 1) = (a + 1) % 256 := by rw [IntKind.wrap_u8]

theorem read_NOP (A X Y S m : Int) (b0 b1 b2 b3 b4 b5 b6 b7 : Bool) (ha : 0 ≤ A ∧ A < 256) (hx : 0 ≤ X ∧ X < 256) (hy : 0 ≤ Y ∧ Y < 256) (hs : 0 ≤ S ∧ S < 256) (hm : 0 ≤ m ∧ m < 256) : own (uRead_0 ⟨A, X, Y, S, pk b0 b1 b2 b3 b4 b5 b6 b7⟩ m) = rRead_NOP ⟨A, X, Y, S, pk b0 b1 b2 b3 b4 b5 b6 b7⟩ m := by
  show own ⟨A, X, Y, S, pk b0 b1 b2 b3 b4 b5 b6 b7⟩ = ⟨A, X, Y, S, pk b0 b1 b2 b3 b4 b5 b6 b7⟩
  exact own_eq _ _ _ _ _ ha hx hy hs (pk_b _ _ _ _ _ _ _ _)

theorem uORA_eq (A X Y S m : Int) (b0 b1 b2 b3 b4 b5 b6 b7 : Bool) (ha : 0 ≤ A ∧ A < 256) (hx : 0 ≤ X ∧ X < 256) (hy : 0 ≤ Y ∧ Y < 256) (hs : 0 ≤ S ∧ S < 256) (hm : 0 ≤ m ∧ m < 256) : u_ora ⟨A, X, Y, S, pk b0 b1 b2 b3 b4 b5 b6 b7⟩ m = ⟨bOr .u8 A m, X, Y, S, pk b0 (zer (bOr .u8 A m)) b2 b3 b4 b5 b6 (neg (bOr .u8 A m))⟩ := by
  have h := byte_or A m
  unfold u_ora
  exact uLoad_eq _ _ _ _ _ _ _ _ _ _ _ _ _ h
theorem rORA_eq (A X Y S m : Int) (b0 b1 b2 b3 b4 b5 b6 b7 : Bool) (ha : 0 ≤ A ∧ A < 256) (hx : 0 ≤ X ∧ X < 256) (hy : 0 ≤ Y ∧ Y < 256) (hs : 0 ≤ S ∧ S < 256) (hm : 0 ≤ m ∧ m < 256) : rRead_ORA ⟨A, X, Y, S, pk b0 b1 b2 b3 b4 b5 b6 b7⟩ m = ⟨bOr .u8 A m, X, Y, S, pk b0 (zer (bOr .u8 A m)) b2 b3 b4 b5 b6 (neg (bOr .u8 A m))⟩ := by
  have h := byte_or A m
  unfold rRead_ORA
  simp only [wide_or ha hm]
  exact rSign_eq _ _ _ _ _ _ _ _ _ _ _ _ _ h
theorem read_ORA (A X Y S m : Int) (b0 b1 b2 b3 b4 b5 b6 b7 : Bool) (ha : 0 ≤ A ∧ A < 256) (hx : 0 ≤ X ∧ X < 256) (hy : 0 ≤ Y ∧ Y < 256) (hs : 0 ≤ S ∧ S < 256) (hm : 0 ≤ m ∧ m < 256) : own (uRead_1 ⟨A, X, Y, S, pk b0 b1 b2 b3 b4 b5 b6 b7⟩ m) = rRead_ORA ⟨A, X, Y, S, pk b0 b1 b2 b3 b4 b5 b6 b7⟩ m := by
  have e : uRead_1 ⟨A, X, Y, S, pk b0 b1 b2 b3 b4 b5 b6 b7⟩ m = u_ora ⟨A, X, Y, S, pk b0 b1 b2 b3 b4 b5 b6 b7⟩ m := rfl
  have h := byte_or A m
  rw [e, uORA_eq A X Y S m b0 b1 b2 b3 b4 b5 b6 b7 ha hx hy hs hm, rORA_eq A X Y S m b0 b1 b2 b3 b4 b5 b6 b7 ha hx hy hs hm]
  exact own_eq _ _ _ _ _ (by omega) (by omega) (by omega) (by omega) (pk_b _ _ _ _ _ _ _ _)

theorem uAND_eq (A X Y S m : Int) (b0 b1 b2 b3 b4 b5 b6 b7 : Bool) (ha : 0 ≤ A ∧ A < 256) (hx : 0 ≤ X ∧ X < 256) (hy : 0 ≤ Y ∧ Y < 256) (hs : 0 ≤ S ∧ S < 256) (hm : 0 ≤ m ∧ m < 256) : u_and ⟨A, X, Y, S, pk b0 b1 b2 b3 b4 b5 b6 b7⟩ m = ⟨bAnd .u8 A m, X, Y, S, pk b0 (zer (bAnd .u8 A m)) b2 b3 b4 b5 b6 (neg (bAnd .u8 A m))⟩ := by
  have h := byte_and A m
  unfold u_and
  exact uLoad_eq _ _ _ _ _ _ _ _ _ _ _ _ _ h
theorem rAND_eq (A X Y S m : Int) (b0 b1 b2 b3 b4 b5 b6 b7 : Bool) (ha : 0 ≤ A ∧ A < 256) (hx : 0 ≤ X ∧ X < 256) (hy : 0 ≤ Y ∧ Y < 256) (hs : 0 ≤ S ∧ S < 256) (hm : 0 ≤ m ∧ m < 256) : rRead_AND ⟨A, X, Y, S, pk b0 b1 b2 b3 b4 b5 b6 b7⟩ m = ⟨bAnd .u8 A m, X, Y, S, pk b0 (zer (bAnd .u8 A m)) b2 b3 b4 b5 b6 (neg (bAnd .u8 A m))⟩ := by
  have h := byte_and A m
  unfold rRead_AND
  simp only [wide_and ha hm]
  exact rSign_eq _ _ _ _ _ _ _ _ _ _ _ _ _ h
theorem read_AND (A X Y S m : Int) (b0 b1 b2 b3 b4 b5 b6 b7 : Bool) (ha : 0 ≤ A ∧ A < 256) (hx : 0 ≤ X ∧ X < 256) (hy : 0 ≤ Y ∧ Y < 256) (hs : 0 ≤ S ∧ S < 256) (hm : 0 ≤ m ∧ m < 256) : own (uRead_2 ⟨A, X, Y, S, pk b0 b1 b2 b3 b4 b5 b6 b7⟩ m) = rRead_AND ⟨A, X, Y, S, pk b0 b1 b2 b3 b4 b5 b6 b7⟩ m := by
  have e : uRead_2 ⟨A, X, Y, S, pk b0 b1 b2 b3 b4 b5 b6 b7⟩ m = u_and ⟨A, X, Y, S, pk b0 b1 b2 b3 b4 b5 b6 b7⟩ m := rfl
  have h := byte_and A m
  rw [e, uAND_eq A X Y S m b0 b1 b2 b3 b4 b5 b6 b7 ha hx hy hs hm, rAND_eq A X Y S m b0 b1 b2 b3 b4 b5 b6 b7 ha hx hy hs hm]
  exact own_eq _ _ _ _ _ (by omega) (by omega) (by omega) (by omega) (pk_b _ _ _ _ _ _ _ _)

theorem uEOR_eq (A X Y S m : Int) (b0 b1 b2 b3 b4 b5 b6 b7 : Bool) (ha : 0 ≤ A ∧ A < 256) (hx : 0 ≤ X ∧ X < 256) (hy : 0 ≤ Y ∧ Y < 256) (hs : 0 ≤ S ∧ S < 256) (hm : 0 ≤ m ∧ m < 256) : u_eor ⟨A, X, Y, S, pk b0 b1 b2 b3 b4 b5 b6 b7⟩ m = ⟨bXor .u8 A m, X, Y, S, pk b0 (zer (bXor .u8 A m)) b2 b3 b4 b5 b6 (neg (bXor .u8 A m))⟩ := by
  have h := byte_xor A m
  unfold u_eor
  exact uLoad_eq _ _ _ _ _ _ _ _ _ _ _ _ _ h
theorem rEOR_eq (A X Y S m : Int) (b0 b1 b2 b3 b4 b5 b6 b7 : Bool) (ha : 0 ≤ A ∧ A < 256) (hx : 0 ≤ X ∧ X < 256) (hy : 0 ≤ Y ∧ Y < 256) (hs : 0 ≤ S ∧ S < 256) (hm : 0 ≤ m ∧ m < 256) : rRead_EOR ⟨A, X, Y, S, pk b0 b1 b2 b3 b4 b5 b6 b7⟩ m = ⟨bXor .u8 A m, X, Y, S, pk b0 (zer (bXor .u8 A m)) b2 b3 b4 b5 b6 (neg (bXor .u8 A m))⟩ := by
  have h := byte_xor A m
  unfold rRead_EOR
  simp only [wide_xor ha hm]
  exact rSign_eq _ _ _ _ _ _ _ _ _ _ _ _ _ h
theorem read_EOR (A X Y S m : Int) (b0 b1 b2 b3 b4 b5 b6 b7 : Bool) (ha : 0 ≤ A ∧ A < 256) (hx : 0 ≤ X ∧ X < 256) (hy : 0 ≤ Y ∧ Y < 256) (hs : 0 ≤ S ∧ S < 256) (hm : 0 ≤ m ∧ m < 256) : own (uRead_3 ⟨A, X, Y, S, pk b0 b1 b2 b3 b4 b5 b6 b7⟩ m) = rRead_EOR ⟨A, X, Y, S, pk b0 b1 b2 b3 b4 b5 b6 b7⟩ m := by
  have e : uRead_3 ⟨A, X, Y, S, pk b0 b1 b2 b3 b4 b5 b6 b7⟩ m = u_eor ⟨A, X, Y, S, pk b0 b1 b2 b3 b4 b5 b6 b7⟩ m := rfl
  have h := byte_xor A m
  rw [e, uEOR_eq A X Y S m b0 b1 b2 b3 b4 b5 b6 b7 ha hx hy hs hm, rEOR_eq A X Y S m b0 b1 b2 b3 b4 b5 b6 b7 ha hx hy hs hm]
  exact own_eq _ _ _ _ _ (by omega) (by omega) (by omega) (by omega) (pk_b _ _ _ _ _ _ _ _)

/-- Does a sum with signs leave a byte's bounds? -/
def ovf (A m c : Int) : Bool := decide (A / 128 % 2 = m / 128 % 2 ∧ A / 128 % 2 ≠ (A + m + c) % 256 / 128 % 2)
theorem uADC_eq (A X Y S m : Int) (b0 b1 b2 b3 b4 b5 b6 b7 : Bool) (ha : 0 ≤ A ∧ A < 256) (hx : 0 ≤ X ∧ X < 256) (hy : 0 ≤ Y ∧ Y < 256) (hs : 0 ≤ S ∧ S < 256) (hm : 0 ≤ m ∧ m < 256) : u_adc ⟨A, X, Y, S, pk b0 b1 b2 b3 b4 b5 b6 b7⟩ m = ⟨(A + m + b2i b0) % 256, X, Y, S, pk (decide (A + m + b2i b0 > 255)) (zer ((A + m + b2i b0) % 256)) b2 b3 b4 b5 (ovf A m (b2i b0)) (neg ((A + m + b2i b0) % 256))⟩ := by
  have hc := b2i_b b0
  have hp := pk_b b0 b1 b2 b3 b4 b5 b6 b7
  have e1 : bAnd .u8 (pk b0 b1 b2 b3 b4 b5 b6 b7) 1 = b2i b0 := by rw [and_1 hp.1 hp.2, bit_1, Int.mul_one]
  have e2 : IntKind.u16.wrap ((IntKind.u16.wrap ((IntKind.u16.wrap A) + (IntKind.u16.wrap m))) + (IntKind.u16.wrap (b2i b0))) = A + m + b2i b0 := by
    simp (disch := omega) only [u16_in]
  have e3 : IntKind.u8.wrap (A + m + b2i b0) = (A + m + b2i b0) % 256 := by rw [IntKind.wrap_u8]
  unfold u_adc
  simp only [e1, e2, e3]
  have hS : 0 ≤ (A + m + b2i b0) % 256 ∧ (A + m + b2i b0) % 256 < 256 := by omega
  have hx1 := byte_xor A ((A + m + b2i b0) % 256)
  have hx2 := byte_xor m ((A + m + b2i b0) % 256)
  have hx3 := byte_and (bXor .u8 A ((A + m + b2i b0) % 256)) (bXor .u8 m ((A + m + b2i b0) % 256))
  have e4 : ((bAnd .u8 (bAnd .u8 (bXor .u8 A ((A + m + b2i b0) % 256)) (bXor .u8 m ((A + m + b2i b0) % 256))) 128 : Int) != 0) = ovf A m (b2i b0) := by
    rw [has_128 hx3.1 hx3.2]
    unfold ovf
    rw [decide_eq_decide, bit7_and hx1 hx2, bitp_xor 7 128 rfl ha hS, bitp_xor 7 128 rfl hm hS]
    omega
  rw [e4, uFlag_1, uFlag_64, uLoad_eq _ _ _ _ _ _ _ _ _ _ _ _ _ hS]
theorem rADD_eq (A X Y S m : Int) (b0 b1 b2 b3 b4 b5 b6 b7 : Bool) (ha : 0 ≤ A ∧ A < 256) (hx : 0 ≤ X ∧ X < 256) (hy : 0 ≤ Y ∧ Y < 256) (hs : 0 ≤ S ∧ S < 256) (hm : 0 ≤ m ∧ m < 256) : rAdd ⟨A, X, Y, S, pk b0 b1 b2 b3 b4 b5 b6 b7⟩ m = ⟨(A + m + b2i b0) % 256, X, Y, S, pk (decide (A + m + b2i b0 > 255)) (zer ((A + m + b2i b0) % 256)) b2 b3 b4 b5 (ovf A m (b2i b0)) (neg ((A + m + b2i b0) % 256))⟩ := by
  have hc := b2i_b b0
  have hS : 0 ≤ (A + m + b2i b0) % 256 ∧ (A + m + b2i b0) % 256 < 256 := by omega
  have sg : ∀ z : Int, 0 ≤ z ∧ z < 256 → rSigned z = if z > 127 then z - 256 else z := by
    intro z hz
    unfold rSigned
    simp only [decide_eq_true_eq]
    split
    · rw [i64_in _ (by omega)]
    · rfl
  unfold rAdd
  simp only [rHas_1, sg A ha, sg m hm]
  have e2 : IntKind.i64.wrap ((IntKind.i64.wrap (A + m)) + (b2i b0)) = A + m + b2i b0 := by
    simp (disch := omega) only [i64_in]
  have e3 : IntKind.i64.wrap ((A + m + b2i b0).tdiv 256) = b2i (decide (A + m + b2i b0 > 255)) := by
    rw [Int.tdiv_eq_ediv_of_nonneg (by omega), i64_in _ (by omega), b2i_if]
    split <;> omega
  have e4 : (A + m + b2i b0).tmod 256 = (A + m + b2i b0) % 256 := Int.tmod_eq_emod_of_nonneg (by omega)
  have e5 : IntKind.i64.wrap (IntKind.i64.wrap ((if A > 127 then A - 256 else A) + (if m > 127 then m - 256 else m)) + b2i b0) = (if A > 127 then A - 256 else A) + (if m > 127 then m - 256 else m) + b2i b0 := by
    rw [i64_in ((if A > 127 then A - 256 else A) + (if m > 127 then m - 256 else m)) (by split <;> split <;> omega), i64_in _ (by split <;> split <;> omega)]
  simp only [e2, e3, e4, e5]
  have hov : ovf A m (b2i b0) = (decide ((if A > 127 then A - 256 else A) + (if m > 127 then m - 256 else m) + b2i b0 < -128) || decide ((if A > 127 then A - 256 else A) + (if m > 127 then m - 256 else m) + b2i b0 > 127)) := by
    unfold ovf
    rw [← Bool.decide_or, decide_eq_decide]
    split <;> split <;> omega
  generalize (if A > 127 then A - 256 else A) + (if m > 127 then m - 256 else m) + b2i b0 = R at hov
  by_cases h : R < -128
  · rw [if_pos (decide_eq_true h)]
    have ho : ovf A m (b2i b0) = true := by rw [hov, decide_eq_true h]; rfl
    rw [ho, rSet_1 _ _ _ _ _ _ _ _ _ _ _ _ _ _ rfl, rSet_64 _ _ _ _ 1 _ _ _ _ _ _ _ _ true (by rfl)]
    exact rSign_eq _ _ _ _ _ _ _ _ _ _ _ _ _ hS
  · rw [if_neg (by simpa using h)]
    have ho : ovf A m (b2i b0) = decide (R > 127) := by rw [hov, decide_eq_false h]; rfl
    rw [ho, rSet_1 _ _ _ _ _ _ _ _ _ _ _ _ _ _ rfl, rSet_64 _ _ _ _ _ _ _ _ _ _ _ _ _ _ (rYes_eq _)]
    exact rSign_eq _ _ _ _ _ _ _ _ _ _ _ _ _ hS

theorem uSBC_eq (A X Y S m : Int) (b0 b1 b2 b3 b4 b5 b6 b7 : Bool) (ha : 0 ≤ A ∧ A < 256) (hx : 0 ≤ X ∧ X < 256) (hy : 0 ≤ Y ∧ Y < 256) (hs : 0 ≤ S ∧ S < 256) (hm : 0 ≤ m ∧ m < 256) : u_sbc ⟨A, X, Y, S, pk b0 b1 b2 b3 b4 b5 b6 b7⟩ m = ⟨(A + (255 - m) + b2i b0) % 256, X, Y, S, pk (decide (A + (255 - m) + b2i b0 > 255)) (zer ((A + (255 - m) + b2i b0) % 256)) b2 b3 b4 b5 (ovf A (255 - m) (b2i b0)) (neg ((A + (255 - m) + b2i b0) % 256))⟩ := by
  unfold u_sbc
  rw [xor_255 hm]
  exact uADC_eq A X Y S (255 - m) b0 b1 b2 b3 b4 b5 b6 b7 ha hx hy hs (by omega)
theorem rSBC_eq (A X Y S m : Int) (b0 b1 b2 b3 b4 b5 b6 b7 : Bool) (ha : 0 ≤ A ∧ A < 256) (hx : 0 ≤ X ∧ X < 256) (hy : 0 ≤ Y ∧ Y < 256) (hs : 0 ≤ S ∧ S < 256) (hm : 0 ≤ m ∧ m < 256) : rRead_SBC ⟨A, X, Y, S, pk b0 b1 b2 b3 b4 b5 b6 b7⟩ m = ⟨(A + (255 - m) + b2i b0) % 256, X, Y, S, pk (decide (A + (255 - m) + b2i b0 > 255)) (zer ((A + (255 - m) + b2i b0) % 256)) b2 b3 b4 b5 (ovf A (255 - m) (b2i b0)) (neg ((A + (255 - m) + b2i b0) % 256))⟩ := by
  unfold rRead_SBC
  rw [i64_in (255 - m) (by omega)]
  exact rADD_eq A X Y S (255 - m) b0 b1 b2 b3 b4 b5 b6 b7 ha hx hy hs (by omega)
theorem rADC_eq (A X Y S m : Int) (b0 b1 b2 b3 b4 b5 b6 b7 : Bool) (ha : 0 ≤ A ∧ A < 256) (hx : 0 ≤ X ∧ X < 256) (hy : 0 ≤ Y ∧ Y < 256) (hs : 0 ≤ S ∧ S < 256) (hm : 0 ≤ m ∧ m < 256) : rRead_ADC ⟨A, X, Y, S, pk b0 b1 b2 b3 b4 b5 b6 b7⟩ m = ⟨(A + m + b2i b0) % 256, X, Y, S, pk (decide (A + m + b2i b0 > 255)) (zer ((A + m + b2i b0) % 256)) b2 b3 b4 b5 (ovf A m (b2i b0)) (neg ((A + m + b2i b0) % 256))⟩ := rADD_eq A X Y S m b0 b1 b2 b3 b4 b5 b6 b7 ha hx hy hs hm

theorem read_ADC (A X Y S m : Int) (b0 b1 b2 b3 b4 b5 b6 b7 : Bool) (ha : 0 ≤ A ∧ A < 256) (hx : 0 ≤ X ∧ X < 256) (hy : 0 ≤ Y ∧ Y < 256) (hs : 0 ≤ S ∧ S < 256) (hm : 0 ≤ m ∧ m < 256) : own (uRead_4 ⟨A, X, Y, S, pk b0 b1 b2 b3 b4 b5 b6 b7⟩ m) = rRead_ADC ⟨A, X, Y, S, pk b0 b1 b2 b3 b4 b5 b6 b7⟩ m := by
  rw [show uRead_4 ⟨A, X, Y, S, pk b0 b1 b2 b3 b4 b5 b6 b7⟩ m = u_adc ⟨A, X, Y, S, pk b0 b1 b2 b3 b4 b5 b6 b7⟩ m from rfl, uADC_eq A X Y S m b0 b1 b2 b3 b4 b5 b6 b7 ha hx hy hs hm, rADC_eq A X Y S m b0 b1 b2 b3 b4 b5 b6 b7 ha hx hy hs hm]
  exact own_eq _ _ _ _ _ (by omega) (by omega) (by omega) (by omega) (pk_b _ _ _ _ _ _ _ _)

theorem read_SBC (A X Y S m : Int) (b0 b1 b2 b3 b4 b5 b6 b7 : Bool) (ha : 0 ≤ A ∧ A < 256) (hx : 0 ≤ X ∧ X < 256) (hy : 0 ≤ Y ∧ Y < 256) (hs : 0 ≤ S ∧ S < 256) (hm : 0 ≤ m ∧ m < 256) : own (uRead_5 ⟨A, X, Y, S, pk b0 b1 b2 b3 b4 b5 b6 b7⟩ m) = rRead_SBC ⟨A, X, Y, S, pk b0 b1 b2 b3 b4 b5 b6 b7⟩ m := by
  rw [show uRead_5 ⟨A, X, Y, S, pk b0 b1 b2 b3 b4 b5 b6 b7⟩ m = u_sbc ⟨A, X, Y, S, pk b0 b1 b2 b3 b4 b5 b6 b7⟩ m from rfl, uSBC_eq A X Y S m b0 b1 b2 b3 b4 b5 b6 b7 ha hx hy hs hm, rSBC_eq A X Y S m b0 b1 b2 b3 b4 b5 b6 b7 ha hx hy hs hm]
  exact own_eq _ _ _ _ _ (by omega) (by omega) (by omega) (by omega) (pk_b _ _ _ _ _ _ _ _)

theorem uCMP_eq (A X Y S r m : Int) (b0 b1 b2 b3 b4 b5 b6 b7 : Bool) (hr : 0 ≤ r ∧ r < 256) (hm : 0 ≤ m ∧ m < 256) : uCompare ⟨A, X, Y, S, pk b0 b1 b2 b3 b4 b5 b6 b7⟩ r m = ⟨A, X, Y, S, pk (decide (r ≥ m)) (zer ((r - m) % 256)) b2 b3 b4 b5 b6 (neg ((r - m) % 256))⟩ := by
  unfold uCompare
  rw [u8_sub, uFlag_1]
  exact uSign_eq _ _ _ _ _ _ _ _ _ _ _ _ _ (by omega)
theorem rLESS_eq (A X Y S r m : Int) (b0 b1 b2 b3 b4 b5 b6 b7 : Bool) (hr : 0 ≤ r ∧ r < 256) (hm : 0 ≤ m ∧ m < 256) : rLess ⟨A, X, Y, S, pk b0 b1 b2 b3 b4 b5 b6 b7⟩ r m = ⟨A, X, Y, S, pk (decide (r ≥ m)) (zer ((r - m) % 256)) b2 b3 b4 b5 b6 (neg ((r - m) % 256))⟩ := by
  have e : (IntKind.i64.wrap ((IntKind.i64.wrap (r + 256)) - m)).tmod 256 = (r - m) % 256 := by
    rw [i64_in (r + 256) (by omega), i64_in _ (by omega), Int.tmod_eq_emod_of_nonneg (by omega)]; omega
  unfold rLess
  rw [e, rSet_1 _ _ _ _ _ _ _ _ _ _ _ _ _ _ (rYes_eq _)]
  exact rSign_eq _ _ _ _ _ _ _ _ _ _ _ _ _ (by omega)

theorem read_CMP (A X Y S m : Int) (b0 b1 b2 b3 b4 b5 b6 b7 : Bool) (ha : 0 ≤ A ∧ A < 256) (hx : 0 ≤ X ∧ X < 256) (hy : 0 ≤ Y ∧ Y < 256) (hs : 0 ≤ S ∧ S < 256) (hm : 0 ≤ m ∧ m < 256) : own (uRead_6 ⟨A, X, Y, S, pk b0 b1 b2 b3 b4 b5 b6 b7⟩ m) = rRead_CMP ⟨A, X, Y, S, pk b0 b1 b2 b3 b4 b5 b6 b7⟩ m := by
  rw [show uRead_6 ⟨A, X, Y, S, pk b0 b1 b2 b3 b4 b5 b6 b7⟩ m = uCompare ⟨A, X, Y, S, pk b0 b1 b2 b3 b4 b5 b6 b7⟩ A m from rfl, uCMP_eq A X Y S A m b0 b1 b2 b3 b4 b5 b6 b7 ha hm, show rRead_CMP ⟨A, X, Y, S, pk b0 b1 b2 b3 b4 b5 b6 b7⟩ m = rLess ⟨A, X, Y, S, pk b0 b1 b2 b3 b4 b5 b6 b7⟩ A m from rfl, rLESS_eq A X Y S A m b0 b1 b2 b3 b4 b5 b6 b7 ha hm]
  exact own_eq _ _ _ _ _ (by omega) (by omega) (by omega) (by omega) (pk_b _ _ _ _ _ _ _ _)

theorem read_CPX (A X Y S m : Int) (b0 b1 b2 b3 b4 b5 b6 b7 : Bool) (ha : 0 ≤ A ∧ A < 256) (hx : 0 ≤ X ∧ X < 256) (hy : 0 ≤ Y ∧ Y < 256) (hs : 0 ≤ S ∧ S < 256) (hm : 0 ≤ m ∧ m < 256) : own (uRead_7 ⟨A, X, Y, S, pk b0 b1 b2 b3 b4 b5 b6 b7⟩ m) = rRead_CPX ⟨A, X, Y, S, pk b0 b1 b2 b3 b4 b5 b6 b7⟩ m := by
  rw [show uRead_7 ⟨A, X, Y, S, pk b0 b1 b2 b3 b4 b5 b6 b7⟩ m = uCompare ⟨A, X, Y, S, pk b0 b1 b2 b3 b4 b5 b6 b7⟩ X m from rfl, uCMP_eq A X Y S X m b0 b1 b2 b3 b4 b5 b6 b7 hx hm, show rRead_CPX ⟨A, X, Y, S, pk b0 b1 b2 b3 b4 b5 b6 b7⟩ m = rLess ⟨A, X, Y, S, pk b0 b1 b2 b3 b4 b5 b6 b7⟩ X m from rfl, rLESS_eq A X Y S X m b0 b1 b2 b3 b4 b5 b6 b7 hx hm]
  exact own_eq _ _ _ _ _ (by omega) (by omega) (by omega) (by omega) (pk_b _ _ _ _ _ _ _ _)

theorem read_CPY (A X Y S m : Int) (b0 b1 b2 b3 b4 b5 b6 b7 : Bool) (ha : 0 ≤ A ∧ A < 256) (hx : 0 ≤ X ∧ X < 256) (hy : 0 ≤ Y ∧ Y < 256) (hs : 0 ≤ S ∧ S < 256) (hm : 0 ≤ m ∧ m < 256) : own (uRead_8 ⟨A, X, Y, S, pk b0 b1 b2 b3 b4 b5 b6 b7⟩ m) = rRead_CPY ⟨A, X, Y, S, pk b0 b1 b2 b3 b4 b5 b6 b7⟩ m := by
  rw [show uRead_8 ⟨A, X, Y, S, pk b0 b1 b2 b3 b4 b5 b6 b7⟩ m = uCompare ⟨A, X, Y, S, pk b0 b1 b2 b3 b4 b5 b6 b7⟩ Y m from rfl, uCMP_eq A X Y S Y m b0 b1 b2 b3 b4 b5 b6 b7 hy hm, show rRead_CPY ⟨A, X, Y, S, pk b0 b1 b2 b3 b4 b5 b6 b7⟩ m = rLess ⟨A, X, Y, S, pk b0 b1 b2 b3 b4 b5 b6 b7⟩ Y m from rfl, rLESS_eq A X Y S Y m b0 b1 b2 b3 b4 b5 b6 b7 hy hm]
  exact own_eq _ _ _ _ _ (by omega) (by omega) (by omega) (by omega) (pk_b _ _ _ _ _ _ _ _)

theorem read_LDA (A X Y S m : Int) (b0 b1 b2 b3 b4 b5 b6 b7 : Bool) (ha : 0 ≤ A ∧ A < 256) (hx : 0 ≤ X ∧ X < 256) (hy : 0 ≤ Y ∧ Y < 256) (hs : 0 ≤ S ∧ S < 256) (hm : 0 ≤ m ∧ m < 256) : own (uRead_9 ⟨A, X, Y, S, pk b0 b1 b2 b3 b4 b5 b6 b7⟩ m) = rRead_LDA ⟨A, X, Y, S, pk b0 b1 b2 b3 b4 b5 b6 b7⟩ m := by
  rw [show uRead_9 ⟨A, X, Y, S, pk b0 b1 b2 b3 b4 b5 b6 b7⟩ m = uLoad ⟨A, X, Y, S, pk b0 b1 b2 b3 b4 b5 b6 b7⟩ m from rfl, uLoad_eq _ _ _ _ _ _ _ _ _ _ _ _ _ hm, show rRead_LDA ⟨A, X, Y, S, pk b0 b1 b2 b3 b4 b5 b6 b7⟩ m = rSign ⟨m, X, Y, S, pk b0 b1 b2 b3 b4 b5 b6 b7⟩ m from rfl, rSign_eq _ _ _ _ _ _ _ _ _ _ _ _ _ hm]
  exact own_eq _ _ _ _ _ (by omega) (by omega) (by omega) (by omega) (pk_b _ _ _ _ _ _ _ _)

theorem read_LDX (A X Y S m : Int) (b0 b1 b2 b3 b4 b5 b6 b7 : Bool) (ha : 0 ≤ A ∧ A < 256) (hx : 0 ≤ X ∧ X < 256) (hy : 0 ≤ Y ∧ Y < 256) (hs : 0 ≤ S ∧ S < 256) (hm : 0 ≤ m ∧ m < 256) : own (uRead_10 ⟨A, X, Y, S, pk b0 b1 b2 b3 b4 b5 b6 b7⟩ m) = rRead_LDX ⟨A, X, Y, S, pk b0 b1 b2 b3 b4 b5 b6 b7⟩ m := by
  rw [show uRead_10 ⟨A, X, Y, S, pk b0 b1 b2 b3 b4 b5 b6 b7⟩ m = uSign ⟨A, m, Y, S, pk b0 b1 b2 b3 b4 b5 b6 b7⟩ m from rfl, uSign_eq _ _ _ _ _ _ _ _ _ _ _ _ _ hm, show rRead_LDX ⟨A, X, Y, S, pk b0 b1 b2 b3 b4 b5 b6 b7⟩ m = rSign ⟨A, m, Y, S, pk b0 b1 b2 b3 b4 b5 b6 b7⟩ m from rfl, rSign_eq _ _ _ _ _ _ _ _ _ _ _ _ _ hm]
  exact own_eq _ _ _ _ _ (by omega) (by omega) (by omega) (by omega) (pk_b _ _ _ _ _ _ _ _)

theorem read_LDY (A X Y S m : Int) (b0 b1 b2 b3 b4 b5 b6 b7 : Bool) (ha : 0 ≤ A ∧ A < 256) (hx : 0 ≤ X ∧ X < 256) (hy : 0 ≤ Y ∧ Y < 256) (hs : 0 ≤ S ∧ S < 256) (hm : 0 ≤ m ∧ m < 256) : own (uRead_11 ⟨A, X, Y, S, pk b0 b1 b2 b3 b4 b5 b6 b7⟩ m) = rRead_LDY ⟨A, X, Y, S, pk b0 b1 b2 b3 b4 b5 b6 b7⟩ m := by
  rw [show uRead_11 ⟨A, X, Y, S, pk b0 b1 b2 b3 b4 b5 b6 b7⟩ m = uSign ⟨A, X, m, S, pk b0 b1 b2 b3 b4 b5 b6 b7⟩ m from rfl, uSign_eq _ _ _ _ _ _ _ _ _ _ _ _ _ hm, show rRead_LDY ⟨A, X, Y, S, pk b0 b1 b2 b3 b4 b5 b6 b7⟩ m = rSign ⟨A, X, m, S, pk b0 b1 b2 b3 b4 b5 b6 b7⟩ m from rfl, rSign_eq _ _ _ _ _ _ _ _ _ _ _ _ _ hm]
  exact own_eq _ _ _ _ _ (by omega) (by omega) (by omega) (by omega) (pk_b _ _ _ _ _ _ _ _)

theorem read_LAX (A X Y S m : Int) (b0 b1 b2 b3 b4 b5 b6 b7 : Bool) (ha : 0 ≤ A ∧ A < 256) (hx : 0 ≤ X ∧ X < 256) (hy : 0 ≤ Y ∧ Y < 256) (hs : 0 ≤ S ∧ S < 256) (hm : 0 ≤ m ∧ m < 256) : own (uRead_13 ⟨A, X, Y, S, pk b0 b1 b2 b3 b4 b5 b6 b7⟩ m) = rRead_LAX ⟨A, X, Y, S, pk b0 b1 b2 b3 b4 b5 b6 b7⟩ m := by
  rw [show uRead_13 ⟨A, X, Y, S, pk b0 b1 b2 b3 b4 b5 b6 b7⟩ m = uLoad ⟨A, m, Y, S, pk b0 b1 b2 b3 b4 b5 b6 b7⟩ m from rfl, uLoad_eq _ _ _ _ _ _ _ _ _ _ _ _ _ hm, show rRead_LAX ⟨A, X, Y, S, pk b0 b1 b2 b3 b4 b5 b6 b7⟩ m = rSign ⟨m, m, Y, S, pk b0 b1 b2 b3 b4 b5 b6 b7⟩ m from rfl, rSign_eq _ _ _ _ _ _ _ _ _ _ _ _ _ hm]
  exact own_eq _ _ _ _ _ (by omega) (by omega) (by omega) (by omega) (pk_b _ _ _ _ _ _ _ _)

theorem read_BIT (A X Y S m : Int) (b0 b1 b2 b3 b4 b5 b6 b7 : Bool) (ha : 0 ≤ A ∧ A < 256) (hx : 0 ≤ X ∧ X < 256) (hy : 0 ≤ Y ∧ Y < 256) (hs : 0 ≤ S ∧ S < 256) (hm : 0 ≤ m ∧ m < 256) : own (uRead_12 ⟨A, X, Y, S, pk b0 b1 b2 b3 b4 b5 b6 b7⟩ m) = rRead_BIT ⟨A, X, Y, S, pk b0 b1 b2 b3 b4 b5 b6 b7⟩ m := by
  have e : IntKind.i64.wrap (m.tdiv 128) = b2i (decide (m / 128 % 2 = 1)) := by
    rw [Int.tdiv_eq_ediv_of_nonneg hm.1, i64_in _ (by omega), b2i_dec _ (by omega)]; omega
  rw [show uRead_12 ⟨A, X, Y, S, pk b0 b1 b2 b3 b4 b5 b6 b7⟩ m = u_bit ⟨A, X, Y, S, pk b0 b1 b2 b3 b4 b5 b6 b7⟩ m from rfl]
  unfold u_bit rRead_BIT
  simp only [has_128 hm.1 hm.2, has_64 hm.1 hm.2, rHasN_64 hm.1 hm.2, wide_and ha hm]
  rw [uFlag_128, uFlag_64, uFlag_2, rSet_128 _ _ _ _ _ _ _ _ _ _ _ _ _ _ e, rSet_64 _ _ _ _ _ _ _ _ _ _ _ _ _ _ rfl, rSet_2 _ _ _ _ _ _ _ _ _ _ _ _ _ _ (rYes_eq _)]
  exact own_eq _ _ _ _ _ ha hx hy hs (pk_b _ _ _ _ _ _ _ _)
theorem neg_div {n : Int} (h : 0 ≤ n ∧ n < 256) : IntKind.i64.wrap (n.tdiv 128) = b2i (neg n) := by
  unfold neg
  rw [Int.tdiv_eq_ediv_of_nonneg h.1, i64_in _ (by omega), b2i_dec _ (by omega)]; omega
theorem uAND_all (A X Y S m : Int) (b0 b1 b2 b3 b4 b5 b6 b7 : Bool) (ha : 0 ≤ A ∧ A < 256) (hx : 0 ≤ X ∧ X < 256) (hy : 0 ≤ Y ∧ Y < 256) (hs : 0 ≤ S ∧ S < 256) (hm : 0 ≤ m ∧ m < 256) : u_and ⟨A, X, Y, S, pk b0 b1 b2 b3 b4 b5 b6 b7⟩ m = ⟨bAnd .u8 A m, X, Y, S, pk b0 (zer (bAnd .u8 A m)) b2 b3 b4 b5 b6 (neg (bAnd .u8 A m))⟩ := uAND_eq A X Y S m b0 b1 b2 b3 b4 b5 b6 b7 ha hx hy hs hm
theorem read_ANC (A X Y S m : Int) (b0 b1 b2 b3 b4 b5 b6 b7 : Bool) (ha : 0 ≤ A ∧ A < 256) (hx : 0 ≤ X ∧ X < 256) (hy : 0 ≤ Y ∧ Y < 256) (hs : 0 ≤ S ∧ S < 256) (hm : 0 ≤ m ∧ m < 256) : own (uRead_14 ⟨A, X, Y, S, pk b0 b1 b2 b3 b4 b5 b6 b7⟩ m) = rRead_ANC ⟨A, X, Y, S, pk b0 b1 b2 b3 b4 b5 b6 b7⟩ m := by
  rw [show uRead_14 ⟨A, X, Y, S, pk b0 b1 b2 b3 b4 b5 b6 b7⟩ m = u_anc ⟨A, X, Y, S, pk b0 b1 b2 b3 b4 b5 b6 b7⟩ m from rfl]
  unfold u_anc rRead_ANC
  simp only [uAND_all A X Y S m b0 b1 b2 b3 b4 b5 b6 b7 ha hx hy hs hm, wide_and ha hm]
  have h := byte_and A m
  generalize bAnd .u8 A m = n at h
  rw [has_128 h.1 h.2, uFlag_1, rSet_1 _ _ _ _ _ _ _ _ _ _ _ _ _ _ (neg_div h)]
  simp only
  rw [rSign_eq _ _ _ _ _ _ _ _ _ _ _ _ _ h]
  exact own_eq _ _ _ _ _ h hx hy hs (pk_b _ _ _ _ _ _ _ _)
theorem shr_1 (a : Int) : bShr .u8 a 1 = a / 2 := by
  show a.fdiv 2 = _
  exact Int.fdiv_eq_ediv_of_nonneg _ (by decide)
theorem shl_1 (a : Int) : bShl .u8 a 1 = (a * 2) % 256 := by
  show IntKind.u8.wrap (a * 2) = _
  rw [IntKind.wrap_u8]
theorem shl_7 (a : Int) : bShl .u8 a 7 = (a * 128) % 256 := by
  show IntKind.u8.wrap (a * 128) = _
  rw [IntKind.wrap_u8]
theorem mod_b2i {n : Int} (h : 0 ≤ n) : n.tmod 2 = b2i (decide (n / 1 % 2 = 1)) := by
  rw [Int.tmod_eq_emod_of_nonneg h, b2i_dec _ (by omega)]; omega
theorem uShifted_eq (A X Y S m : Int) (b0 b1 b2 b3 b4 b5 b6 b7 out : Bool) (h : 0 ≤ m ∧ m < 256) : uShifted ⟨A, X, Y, S, pk b0 b1 b2 b3 b4 b5 b6 b7⟩ m out = (⟨A, X, Y, S, pk out (zer (m)) b2 b3 b4 b5 b6 (neg (m))⟩, m) := by
  unfold uShifted
  rw [uFlag_1, uSign_eq _ _ _ _ _ _ _ _ _ _ _ _ _ h]
theorem lsr_eq (A X Y S m : Int) (b0 b1 b2 b3 b4 b5 b6 b7 : Bool) (h : 0 ≤ m ∧ m < 256) : u_lsr ⟨A, X, Y, S, pk b0 b1 b2 b3 b4 b5 b6 b7⟩ m = (⟨A, X, Y, S, pk (decide (m / 1 % 2 = 1)) (zer (m / 2)) b2 b3 b4 b5 b6 (neg (m / 2))⟩, m / 2) := by
  unfold u_lsr
  rw [shr_1, has_1 h.1 h.2, uShifted_eq _ _ _ _ _ _ _ _ _ _ _ _ _ _ (by omega)]
theorem read_ALR (A X Y S m : Int) (b0 b1 b2 b3 b4 b5 b6 b7 : Bool) (ha : 0 ≤ A ∧ A < 256) (hx : 0 ≤ X ∧ X < 256) (hy : 0 ≤ Y ∧ Y < 256) (hs : 0 ≤ S ∧ S < 256) (hm : 0 ≤ m ∧ m < 256) : own (uRead_15 ⟨A, X, Y, S, pk b0 b1 b2 b3 b4 b5 b6 b7⟩ m) = rRead_ALR ⟨A, X, Y, S, pk b0 b1 b2 b3 b4 b5 b6 b7⟩ m := by
  rw [show uRead_15 ⟨A, X, Y, S, pk b0 b1 b2 b3 b4 b5 b6 b7⟩ m = u_alr ⟨A, X, Y, S, pk b0 b1 b2 b3 b4 b5 b6 b7⟩ m from rfl]
  unfold u_alr rRead_ALR
  simp only [uAND_all A X Y S m b0 b1 b2 b3 b4 b5 b6 b7 ha hx hy hs hm, wide_and ha hm]
  have h := byte_and A m
  generalize bAnd .u8 A m = n at h
  rw [lsr_eq _ _ _ _ _ _ _ _ _ _ _ _ _ h, rSet_1 _ _ _ _ _ _ _ _ _ _ _ _ _ _ (mod_b2i h.1)]
  simp only
  have e : IntKind.i64.wrap (n.tdiv 2) = n / 2 := by rw [Int.tdiv_eq_ediv_of_nonneg h.1, i64_in _ (by omega)]
  rw [e, rSign_eq _ _ _ _ _ _ _ _ _ _ _ _ _ (by omega)]
  exact own_eq _ _ _ _ _ (by omega) hx hy hs (pk_b _ _ _ _ _ _ _ _)
theorem or_top {a : Int} (b : Bool) (h : 0 ≤ a ∧ a < 128) : bOr .u8 a (b2i b * 128 % 256) = a + 128 * b2i b := by
  have hb := b2i_b b
  have e : b2i b * 128 % 256 = b2i b * 128 := by omega
  have c : bOr .u8 a (b2i b * 128) = bOr .u8 (b2i b * 128) a := by unfold bOr; rw [BitVec.or_comm]
  rw [e, c, bOr_low (k := .u8) rfl 7 (by omega) (by show b2i b * 128 < 256; omega) h.1 (by show a < 128; omega) (by show b2i b * 128 % 128 = 0; omega) (by decide)]
  omega
theorem or_low1 {a : Int} (b : Bool) (h : 0 ≤ a ∧ a < 256) (h2 : a % 2 = 0) : bOr .u8 a (b2i b) = a + b2i b := by
  have hb := b2i_b b
  exact bOr_low (k := .u8) rfl 1 h.1 (by show a < 256; omega) hb.1 (by show b2i b < 2; omega) (by show a % 2 = 0; omega) (by decide)
theorem and1_pk (b0 b1 b2 b3 b4 b5 b6 b7 : Bool) : bAnd .u8 (pk b0 b1 b2 b3 b4 b5 b6 b7) 1 = b2i b0 := by
  have hp := pk_b b0 b1 b2 b3 b4 b5 b6 b7
  rw [and_1 hp.1 hp.2, bit_1, Int.mul_one]
theorem half_xor {a : Int} (h : 0 ≤ a ∧ a < 256) : ((bAnd .u8 (bXor .u8 (bShr .u8 a 1) a) 32 : Int) != 0) = decide (a / 64 % 2 ≠ a / 32 % 2) := by
  have hx := byte_xor (bShr .u8 a 1) a
  rw [has_32 hx.1 hx.2, decide_eq_decide, shr_1, bitp_xor 5 32 rfl (by omega) h]
  omega
theorem read_ARR (A X Y S m : Int) (b0 b1 b2 b3 b4 b5 b6 b7 : Bool) (ha : 0 ≤ A ∧ A < 256) (hx : 0 ≤ X ∧ X < 256) (hy : 0 ≤ Y ∧ Y < 256) (hs : 0 ≤ S ∧ S < 256) (hm : 0 ≤ m ∧ m < 256) : own (uRead_16 ⟨A, X, Y, S, pk b0 b1 b2 b3 b4 b5 b6 b7⟩ m) = rRead_ARR ⟨A, X, Y, S, pk b0 b1 b2 b3 b4 b5 b6 b7⟩ m := by
  have hb := b2i_b b0
  rw [show uRead_16 ⟨A, X, Y, S, pk b0 b1 b2 b3 b4 b5 b6 b7⟩ m = u_arr ⟨A, X, Y, S, pk b0 b1 b2 b3 b4 b5 b6 b7⟩ m from rfl]
  unfold u_arr rRead_ARR
  simp only [and1_pk, shl_7, shr_1, wide_and ha hm, rHas_1]
  have h := byte_and A m
  generalize bAnd .u8 A m = n at h
  have e : IntKind.i64.wrap ((IntKind.i64.wrap (n.tdiv 2)) + (IntKind.i64.wrap (128 * b2i b0))) = n / 2 + 128 * b2i b0 := by
    rw [Int.tdiv_eq_ediv_of_nonneg h.1, i64_in (n / 2) (by omega), i64_in (128 * b2i b0) (by omega), i64_in _ (by omega)]
  rw [or_top b0 (by omega)]
  simp only [e]
  have ha' : 0 ≤ n / 2 + 128 * b2i b0 ∧ n / 2 + 128 * b2i b0 < 256 := by omega
  generalize n / 2 + 128 * b2i b0 = a at ha'
  have e2 : ((bAnd .u8 (bXor .u8 (a / 2) a) 32 : Int) != 0) = decide (a / 64 % 2 ≠ a / 32 % 2) := by
    have := half_xor ha'
    rwa [shr_1] at this
  have e3 : (IntKind.i64.wrap (rHas a 64 + rHas a 32)).tmod 2 = b2i (decide (a / 64 % 2 ≠ a / 32 % 2)) := by
    rw [rHasN_64 ha'.1 ha'.2, rHasN_32 ha'.1 ha'.2, b2i_dec _ (by omega), b2i_dec _ (by omega), i64_in _ (by omega), Int.tmod_eq_emod_of_nonneg (by omega), b2i_if]
    split <;> omega
  rw [uLoad_eq _ _ _ _ _ _ _ _ _ _ _ _ _ ha', has_64 ha'.1 ha'.2, uFlag_1, e2, uFlag_64, rSet_1 _ _ _ _ _ _ _ _ _ _ _ _ _ _ (rHasN_64 ha'.1 ha'.2), rSet_64 _ _ _ _ _ _ _ _ _ _ _ _ _ _ e3]
  simp only
  rw [rSign_eq _ _ _ _ _ _ _ _ _ _ _ _ _ ha']
  exact own_eq _ _ _ _ _ ha' hx hy hs (pk_b _ _ _ _ _ _ _ _)
theorem read_AXS (A X Y S m : Int) (b0 b1 b2 b3 b4 b5 b6 b7 : Bool) (ha : 0 ≤ A ∧ A < 256) (hx : 0 ≤ X ∧ X < 256) (hy : 0 ≤ Y ∧ Y < 256) (hs : 0 ≤ S ∧ S < 256) (hm : 0 ≤ m ∧ m < 256) : own (uRead_17 ⟨A, X, Y, S, pk b0 b1 b2 b3 b4 b5 b6 b7⟩ m) = rRead_AXS ⟨A, X, Y, S, pk b0 b1 b2 b3 b4 b5 b6 b7⟩ m := by
  rw [show uRead_17 ⟨A, X, Y, S, pk b0 b1 b2 b3 b4 b5 b6 b7⟩ m = u_axs ⟨A, X, Y, S, pk b0 b1 b2 b3 b4 b5 b6 b7⟩ m from rfl]
  unfold u_axs rRead_AXS
  simp only [wide_and ha hx]
  have h := byte_and A X
  generalize bAnd .u8 A X = n at h
  have e : (IntKind.i64.wrap ((IntKind.i64.wrap (n + 256)) - m)).tmod 256 = (n - m) % 256 := by
    rw [i64_in (n + 256) (by omega), i64_in _ (by omega), Int.tmod_eq_emod_of_nonneg (by omega)]; omega
  rw [uCMP_eq A X Y S n m b0 b1 b2 b3 b4 b5 b6 b7 h hm, rLESS_eq A X Y S n m b0 b1 b2 b3 b4 b5 b6 b7 h hm, u8_sub, e]
  unfold u_ldx
  simp only
  rw [uSign_eq _ _ _ _ _ _ _ _ _ _ _ _ _ (by omega)]
  exact own_eq _ _ _ _ _ ha (by omega) hy hs (pk_b _ _ _ _ _ _ _ _)
theorem read_LAS (A X Y S m : Int) (b0 b1 b2 b3 b4 b5 b6 b7 : Bool) (ha : 0 ≤ A ∧ A < 256) (hx : 0 ≤ X ∧ X < 256) (hy : 0 ≤ Y ∧ Y < 256) (hs : 0 ≤ S ∧ S < 256) (hm : 0 ≤ m ∧ m < 256) : own (uRead_18 ⟨A, X, Y, S, pk b0 b1 b2 b3 b4 b5 b6 b7⟩ m) = rRead_LAS ⟨A, X, Y, S, pk b0 b1 b2 b3 b4 b5 b6 b7⟩ m := by
  rw [show uRead_18 ⟨A, X, Y, S, pk b0 b1 b2 b3 b4 b5 b6 b7⟩ m = u_las ⟨A, X, Y, S, pk b0 b1 b2 b3 b4 b5 b6 b7⟩ m from rfl]
  unfold u_las rRead_LAS u_lax
  simp only [wide_and hs hm]
  have h := byte_and S m
  generalize bAnd .u8 S m = n at h
  rw [uLoad_eq _ _ _ _ _ _ _ _ _ _ _ _ _ h, rSign_eq _ _ _ _ _ _ _ _ _ _ _ _ _ h]
  exact own_eq _ _ _ _ _ h h hy h (pk_b _ _ _ _ _ _ _ _)

end Go.Proofs.Ytfjeifmenlnkkaa
