/-
  Layer 8: the plain laws on reading. No condition.
-/
import Derived.Test.YtfjeifmenlnkkaaAG
namespace Go.Proofs.Ytfjeifmenlnkkaa
open Go VX IntWalk
set_option maxRecDepth 100000
set_option linter.unusedSimpArgs false
set_option linter.unusedVariables false

theorem same5 {a b : RUnit} (h : a = b) : (((a.A : Int) == b.A) && (((a.X : Int) == b.X) && (((a.Y : Int) == b.Y) && (((a.S : Int) == b.S) && (((a.P : Int) == b.P) && true))))) = true := by
  subst h; simp

theorem rKind_not1 (op : Int) (h : 19 ≤ op ∧ op < 256) : (((rKind (IntKind.i64.wrap op)) : Int) == 1) = false := by
  rw [i64_in op (by omega)]
  unfold rKind
  rw [if_neg (by simp; omega)]
  repeat' split
  all_goals decide
theorem aKind_not1 (op : Int) (h : 19 ≤ op ∧ op < 256) : (((aKind op) : Int) != 1) = true := by
  unfold aKind
  rw [if_neg (by simp; omega)]
  repeat' split
  all_goals decide

theorem reads_true (u : Unit) (hu : Bytes u) (op m : Int) (ho : 0 ≤ op ∧ op < 256) (hm : 0 ≤ m ∧ m < 256) : FnSpec Try.prog 3 1000 [Unit.enc u, .int .u8 op, .int .u8 m] [] (.bool true) [] := by
  obtain ⟨A, X, Y, S, P⟩ := u
  obtain ⟨ha, hx, hy, hs, hp⟩ := hu
  obtain ⟨b0, b1, b2, b3, b4, b5, b6, b7, hP⟩ := pk_of P hp
  simp only at ha hx hy hs hp hP
  subst hP
  have eo : own ⟨A, X, Y, S, pk b0 b1 b2 b3 b4 b5 b6 b7⟩ = ⟨A, X, Y, S, pk b0 b1 b2 b3 b4 b5 b6 b7⟩ := own_eq _ _ _ _ _ ha hx hy hs hp
  have em : IntKind.i64.wrap m = m := i64_in m (by omega)
  by_cases h : op < 19
  · obtain rfl | rfl | rfl | rfl | rfl | rfl | rfl | rfl | rfl | rfl | rfl | rfl | rfl | rfl | rfl | rfl | rfl | rfl | rfl : op = 0 ∨ op = 1 ∨ op = 2 ∨ op = 3 ∨ op = 4 ∨ op = 5 ∨ op = 6 ∨ op = 7 ∨ op = 8 ∨ op = 9 ∨ op = 10 ∨ op = 11 ∨ op = 12 ∨ op = 13 ∨ op = 14 ∨ op = 15 ∨ op = 16 ∨ op = 17 ∨ op = 18 := by omega
    · have := lawReads_0_p1 ⟨A, X, Y, S, pk b0 b1 b2 b3 b4 b5 b6 b7⟩ m awake_t
      rwa [em, eo, same5 (read_NOP A X Y S m b0 b1 b2 b3 b4 b5 b6 b7 ha hx hy hs hm)] at this
    · have := lawReads_1_p1 ⟨A, X, Y, S, pk b0 b1 b2 b3 b4 b5 b6 b7⟩ m awake_t
      rwa [em, eo, same5 (read_ORA A X Y S m b0 b1 b2 b3 b4 b5 b6 b7 ha hx hy hs hm)] at this
    · have := lawReads_2_p1 ⟨A, X, Y, S, pk b0 b1 b2 b3 b4 b5 b6 b7⟩ m awake_t
      rwa [em, eo, same5 (read_AND A X Y S m b0 b1 b2 b3 b4 b5 b6 b7 ha hx hy hs hm)] at this
    · have := lawReads_3_p1 ⟨A, X, Y, S, pk b0 b1 b2 b3 b4 b5 b6 b7⟩ m awake_t
      rwa [em, eo, same5 (read_EOR A X Y S m b0 b1 b2 b3 b4 b5 b6 b7 ha hx hy hs hm)] at this
    · have := lawReads_4_p1 ⟨A, X, Y, S, pk b0 b1 b2 b3 b4 b5 b6 b7⟩ m awake_t
      rwa [em, eo, same5 (read_ADC A X Y S m b0 b1 b2 b3 b4 b5 b6 b7 ha hx hy hs hm)] at this
    · have := lawReads_5_p1 ⟨A, X, Y, S, pk b0 b1 b2 b3 b4 b5 b6 b7⟩ m awake_t
      rwa [em, eo, same5 (read_SBC A X Y S m b0 b1 b2 b3 b4 b5 b6 b7 ha hx hy hs hm)] at this
    · have := lawReads_6_p1 ⟨A, X, Y, S, pk b0 b1 b2 b3 b4 b5 b6 b7⟩ m awake_t
      rwa [em, eo, same5 (read_CMP A X Y S m b0 b1 b2 b3 b4 b5 b6 b7 ha hx hy hs hm)] at this
    · have := lawReads_7_p1 ⟨A, X, Y, S, pk b0 b1 b2 b3 b4 b5 b6 b7⟩ m awake_t
      rwa [em, eo, same5 (read_CPX A X Y S m b0 b1 b2 b3 b4 b5 b6 b7 ha hx hy hs hm)] at this
    · have := lawReads_8_p1 ⟨A, X, Y, S, pk b0 b1 b2 b3 b4 b5 b6 b7⟩ m awake_t
      rwa [em, eo, same5 (read_CPY A X Y S m b0 b1 b2 b3 b4 b5 b6 b7 ha hx hy hs hm)] at this
    · have := lawReads_9_p1 ⟨A, X, Y, S, pk b0 b1 b2 b3 b4 b5 b6 b7⟩ m awake_t
      rwa [em, eo, same5 (read_LDA A X Y S m b0 b1 b2 b3 b4 b5 b6 b7 ha hx hy hs hm)] at this
    · have := lawReads_10_p1 ⟨A, X, Y, S, pk b0 b1 b2 b3 b4 b5 b6 b7⟩ m awake_t
      rwa [em, eo, same5 (read_LDX A X Y S m b0 b1 b2 b3 b4 b5 b6 b7 ha hx hy hs hm)] at this
    · have := lawReads_11_p1 ⟨A, X, Y, S, pk b0 b1 b2 b3 b4 b5 b6 b7⟩ m awake_t
      rwa [em, eo, same5 (read_LDY A X Y S m b0 b1 b2 b3 b4 b5 b6 b7 ha hx hy hs hm)] at this
    · have := lawReads_12_p1 ⟨A, X, Y, S, pk b0 b1 b2 b3 b4 b5 b6 b7⟩ m awake_t
      rwa [em, eo, same5 (read_BIT A X Y S m b0 b1 b2 b3 b4 b5 b6 b7 ha hx hy hs hm)] at this
    · have := lawReads_13_p1 ⟨A, X, Y, S, pk b0 b1 b2 b3 b4 b5 b6 b7⟩ m awake_t
      rwa [em, eo, same5 (read_LAX A X Y S m b0 b1 b2 b3 b4 b5 b6 b7 ha hx hy hs hm)] at this
    · have := lawReads_14_p1 ⟨A, X, Y, S, pk b0 b1 b2 b3 b4 b5 b6 b7⟩ m awake_t
      rwa [em, eo, same5 (read_ANC A X Y S m b0 b1 b2 b3 b4 b5 b6 b7 ha hx hy hs hm)] at this
    · have := lawReads_15_p1 ⟨A, X, Y, S, pk b0 b1 b2 b3 b4 b5 b6 b7⟩ m awake_t
      rwa [em, eo, same5 (read_ALR A X Y S m b0 b1 b2 b3 b4 b5 b6 b7 ha hx hy hs hm)] at this
    · have := lawReads_16_p1 ⟨A, X, Y, S, pk b0 b1 b2 b3 b4 b5 b6 b7⟩ m awake_t
      rwa [em, eo, same5 (read_ARR A X Y S m b0 b1 b2 b3 b4 b5 b6 b7 ha hx hy hs hm)] at this
    · have := lawReads_17_p1 ⟨A, X, Y, S, pk b0 b1 b2 b3 b4 b5 b6 b7⟩ m awake_t
      rwa [em, eo, same5 (read_AXS A X Y S m b0 b1 b2 b3 b4 b5 b6 b7 ha hx hy hs hm)] at this
    · have := lawReads_18_p1 ⟨A, X, Y, S, pk b0 b1 b2 b3 b4 b5 b6 b7⟩ m awake_t
      rwa [em, eo, same5 (read_LAS A X Y S m b0 b1 b2 b3 b4 b5 b6 b7 ha hx hy hs hm)] at this
  · have := lawReads_else_p1 ⟨A, X, Y, S, pk b0 b1 b2 b3 b4 b5 b6 b7⟩ op m (rKind_not1 op (by omega)) (aKind_not1 op (by omega)) awake_t
    rwa [same5 (show own (uRead_else ⟨A, X, Y, S, pk b0 b1 b2 b3 b4 b5 b6 b7⟩ op m) = own ⟨A, X, Y, S, pk b0 b1 b2 b3 b4 b5 b6 b7⟩ from rfl)] at this

theorem i8_byte (n : Int) (h : 0 ≤ n ∧ n < 256) : IntKind.i8.wrap n = if n > 127 then n - 256 else n := by
  simp only [IntKind.wrap, IntKind.bits, IntKind.signed]; simp
  split <;> split <;> omega

theorem has_pk6 (b0 b1 b2 b3 b4 b5 b6 b7 : Bool) : ((bAnd .u8 (pk b0 b1 b2 b3 b4 b5 b6 b7) 64 : Int) != 0) = b6 := by
  have hp := pk_b b0 b1 b2 b3 b4 b5 b6 b7
  rw [has_64 hp.1 hp.2, bit_64]
  cases b6 <;> rfl
theorem b2i_ne (b : Bool) : ((b2i b : Int) != 0) = b := by cases b <;> rfl
theorem b2i_eq0 (b : Bool) : ((b2i b : Int) == 0) = !b := by cases b <;> rfl

theorem adds_true (u : Unit) (hu : Bytes u) (m : Int) (hm : 0 ≤ m ∧ m < 256) : FnSpec Try.prog 4 1000 [Unit.enc u, .int .u8 m] [] (.bool true) [] := by
  obtain ⟨A, X, Y, S, P⟩ := u
  obtain ⟨ha, hx, hy, hs, hp⟩ := hu
  obtain ⟨b0, b1, b2, b3, b4, b5, b6, b7, hP⟩ := pk_of P hp
  simp only at ha hx hy hs hp hP
  subst hP
  have hc := b2i_b b0
  have e : uRead_4 ⟨A, X, Y, S, pk b0 b1 b2 b3 b4 b5 b6 b7⟩ m = _ := uADC_eq A X Y S m b0 b1 b2 b3 b4 b5 b6 b7 ha hx hy hs hm
  have := lawAdds_p1 ⟨A, X, Y, S, pk b0 b1 b2 b3 b4 b5 b6 b7⟩ m awake_t ?_ ?_ ?_ ?_
  · rw [e] at this
    simpa using this
  · rw [e]
    simp only [and1_pk]
    rw [beq_iff_eq]
    have h2 := b2i_b (decide (A + m + b2i b0 > 255))
    simp (disch := omega) only [i64_in]
    rw [b2i_if]
    split <;> omega
  · rw [e]
    simp only [and1_pk, has_pk6]
    rw [i8_byte A ha, i8_byte m hm, i8_byte _ (by omega)]
    have h1 : -128 ≤ (if A > 127 then A - 256 else A) ∧ (if A > 127 then A - 256 else A) ≤ 127 := by split <;> omega
    have h2 : -128 ≤ (if m > 127 then m - 256 else m) ∧ (if m > 127 then m - 256 else m) ≤ 127 := by split <;> omega
    have h3 : -128 ≤ (if (A + m + b2i b0) % 256 > 127 then (A + m + b2i b0) % 256 - 256 else (A + m + b2i b0) % 256) ∧ (if (A + m + b2i b0) % 256 > 127 then (A + m + b2i b0) % 256 - 256 else (A + m + b2i b0) % 256) ≤ 127 := by split <;> omega
    simp (disch := omega) only [i64_in]
    rw [beq_iff_eq]
    unfold ovf
    rw [Bool.eq_iff_iff]
    simp only [decide_eq_true_eq, bne_iff_ne, ne_eq]
    split <;> split <;> split <;> omega
  · rw [e]; simp
  · rw [e]; simp

theorem borrows_true (u : Unit) (hu : Bytes u) (m : Int) (hm : 0 ≤ m ∧ m < 256) : FnSpec Try.prog 5 1000 [Unit.enc u, .int .u8 m] [] (.bool true) [] := by
  obtain ⟨A, X, Y, S, P⟩ := u
  obtain ⟨ha, hx, hy, hs, hp⟩ := hu
  obtain ⟨b0, b1, b2, b3, b4, b5, b6, b7, hP⟩ := pk_of P hp
  simp only at ha hx hy hs hp hP
  subst hP
  have e0 : uFlag ⟨A, X, Y, S, pk b0 b1 b2 b3 b4 b5 b6 b7⟩ 1 true = ⟨A, X, Y, S, pk true b1 b2 b3 b4 b5 b6 b7⟩ := uFlag_1 A X Y S b0 b1 b2 b3 b4 b5 b6 b7 true
  have e1 := (congrArg (fun v => uRead_5 v m) e0).trans (uSBC_eq A X Y S m true b1 b2 b3 b4 b5 b6 b7 ha hx hy hs hm)
  have e2 := (congrArg (fun v => uRead_4 (uFlag v 1 false) m) e1).trans ((congrArg (fun v => uRead_4 v m) (uFlag_1 _ X Y S _ _ _ _ _ _ _ _ false)).trans (uADC_eq _ X Y S m false _ _ _ _ _ _ _ (by omega) hx hy hs hm))
  have t1 : b2i true = 1 := rfl
  have t0 : b2i false = 0 := rfl
  rw [t1] at e1
  rw [t1, t0] at e2
  have := lawBorrows_p1 ⟨A, X, Y, S, pk b0 b1 b2 b3 b4 b5 b6 b7⟩ m awake_t ?_ ?_ ?_
  · rw [e1] at this
    simp only [and1_pk, b2i_ne] at this
    have h : (decide (A + (255 - m) + 1 > 255) == decide (A ≥ m)) = true := by
      rw [beq_iff_eq, decide_eq_decide]; omega
    rwa [h] at this
  · rw [e2, beq_iff_eq]
    simp only
    omega
  · rw [e1, beq_iff_eq, u8_sub]
    simp only
    omega
  · rw [e2, e1]
    simp only [and1_pk, b2i_ne, b2i_eq0]
    rw [beq_iff_eq, ← decide_not, decide_eq_decide]
    omega

theorem sub_and (a m : Nat) : a - (a &&& m) = a &&& (a ^^^ (a &&& m)) := by
  have h1 : (a &&& (a ^^^ (a &&& m))) ||| (a &&& m) = a := by
    apply Nat.eq_of_testBit_eq
    intro i
    simp only [Nat.testBit_or, Nat.testBit_and, Nat.testBit_xor]
    cases a.testBit i <;> cases m.testBit i <;> rfl
  have h2 : (a &&& (a ^^^ (a &&& m))) &&& (a &&& m) = 0 := by
    apply Nat.eq_of_testBit_eq
    intro i
    simp only [Nat.testBit_and, Nat.testBit_xor, Nat.zero_testBit]
    cases a.testBit i <;> cases m.testBit i <;> rfl
  have := or_add h2
  omega

theorem bits_true (u : Unit) (hu : Bytes u) (bit : Int) (on : Bool) (hb : 0 ≤ bit ∧ bit < 256) : FnSpec Try.prog 6 1000 [Unit.enc u, .int .u8 bit, .bool on] [] (.bool true) [] := by
  obtain ⟨A, X, Y, S, P⟩ := u
  obtain ⟨ha, hx, hy, hs, hp⟩ := hu
  simp only at hp
  obtain ⟨p, rfl⟩ := Int.eq_ofNat_of_zero_le hp.1
  obtain ⟨m, rfl⟩ := Int.eq_ofNat_of_zero_le hb.1
  have hp : p < 256 := by omega
  have hm : m < 256 := by omega
  have hpm : p &&& m ≤ p := Nat.and_le_left
  have hq : p - (p &&& m) < 256 := by omega
  cases on
  · have e : uFlag ⟨A, X, Y, S, (p : Int)⟩ (m : Int) false = ⟨A, X, Y, S, ((p - (p &&& m) : Nat) : Int)⟩ := by
      unfold uFlag
      rw [if_neg (by decide), andnot_nat (k := .u8) rfl hp hm]
    have := lawBits_p2 ⟨A, X, Y, S, (p : Int)⟩ (m : Int) false awake_t rfl ?_ ?_ ?_ ?_ ?_
    · rw [e] at this; simpa using this
    · rw [e]
      simp only
      rw [and_nat (k := .u8) rfl hq hm, and_split]; rfl
    · rw [e]
      simp only
      rw [andnot_nat (k := .u8) rfl hq hm, andnot_nat (k := .u8) rfl hp hm, and_split]; simp
    · rw [e]; simp
    · rw [e]; simp
    · rw [e]; simp
  · have hor : p - (p &&& m) ||| m < 256 := Nat.or_lt_two_pow (n := 8) hq hm
    have e : uFlag ⟨A, X, Y, S, (p : Int)⟩ (m : Int) true = ⟨A, X, Y, S, ((p - (p &&& m) ||| m : Nat) : Int)⟩ := by
      unfold uFlag
      rw [if_pos rfl, andnot_nat (k := .u8) rfl hp hm, or_nat (k := .u8) rfl hq hm]
    have em : (p - (p &&& m) ||| m) &&& m = m := by
      apply Nat.eq_of_testBit_eq
      intro i
      simp only [Nat.testBit_or, Nat.testBit_and]
      cases (p - (p &&& m)).testBit i <;> cases m.testBit i <;> rfl
    have := lawBits_p1 ⟨A, X, Y, S, (p : Int)⟩ (m : Int) true awake_t rfl ?_ ?_ ?_ ?_ ?_
    · rw [e] at this; simpa using this
    · rw [e]
      simp only
      rw [and_nat (k := .u8) rfl hor hm, em]; simp
    · rw [e]
      simp only
      rw [andnot_nat (k := .u8) rfl hor hm, andnot_nat (k := .u8) rfl hp hm, em]
      have : (p - (p &&& m) ||| m) - m = p - (p &&& m) := by rw [or_add (and_split p m)]; omega
      rw [this]; simp
    · rw [e]; simp
    · rw [e]; simp
    · rw [e]; simp

end Go.Proofs.Ytfjeifmenlnkkaa
