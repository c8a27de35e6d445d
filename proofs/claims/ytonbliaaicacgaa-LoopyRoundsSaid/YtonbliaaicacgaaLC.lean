/-
  Layer 14: what the functions come to, as quotients and remainders; the plain laws of the statements on reading, mirroring and colours. No condition.
-/
import Derived.Test.YtonbliaaicacgaaLB
namespace Go.Proofs.Ytonbliaaicacgaa
open Go VX IntWalk
set_option maxRecDepth 100000
set_option linter.unusedSimpArgs false
set_option linter.unusedVariables false

theorem awake_t : (!awake) = false := by decide

theorem rOf_eq (n : Int) (h0 : 0 ≤ n) (h1 : n < 32768) : rOf n = ⟨n % 32, n / 32 % 32, n / 1024 % 2, n / 2048 % 2, n / 4096 % 8⟩ := by
  unfold rOf
  simp (disch := omega) only [Int.tmod_eq_emod_of_nonneg, Int.tdiv_eq_ediv_of_nonneg, i64_in]

theorem own_V (s : Scroll) (h0 : 0 ≤ s.V) (h1 : s.V < 65536) : (own s).V = ⟨s.V % 32, s.V / 32 % 32, s.V / 1024 % 2, s.V / 2048 % 2, s.V / 4096 % 8⟩ := by
  show rOf _ = _
  simp (disch := omega) only [Int.tmod_eq_emod_of_nonneg, i64_in]
  rw [rOf_eq _ (by omega) (by omega)]
  simp only [Place.mk.injEq]
  refine ⟨?_, ?_, ?_, ?_, ?_⟩ <;> omega

theorem sName_eq (s : Scroll) (h0 : 0 ≤ s.V) (h1 : s.V < 65536) : sName s = 8192 + s.V % 4096 := by
  unfold sName
  simp (disch := omega) only [and_u16_4095, Int.ediv_one, Int.mul_one, or_u16_lo12]

theorem rName_eq (p : Place) (h1 : 0 ≤ p.Column ∧ p.Column < 32) (h2 : 0 ≤ p.Line ∧ p.Line < 32) (h3 : 0 ≤ p.Across ∧ p.Across < 2) (h4 : 0 ≤ p.Down ∧ p.Down < 2) : rName p = 8192 + p.Column + 32 * p.Line + 1024 * p.Across + 2048 * p.Down := by
  unfold rName
  simp (disch := omega) only [i64_in]

theorem rShade_eq (p : Place) (h1 : 0 ≤ p.Column ∧ p.Column < 32) (h2 : 0 ≤ p.Line ∧ p.Line < 32) (h3 : 0 ≤ p.Across ∧ p.Across < 2) (h4 : 0 ≤ p.Down ∧ p.Down < 2) :
    rShade p = (9152 + 1024 * (p.Across + 2 * p.Down) + 8 * (p.Line / 4) + p.Column / 4, p.Column % 4 / 2 * 2 + p.Line % 4 / 2 * 4) := by
  unfold rShade
  simp (disch := omega) only [Int.tmod_eq_emod_of_nonneg, Int.tdiv_eq_ediv_of_nonneg, i64_in]

theorem or_9152 (q : Int) (h0 : 0 ≤ q) (h1 : q < 4) : bOr .u16 9152 (q * 1024) = 9152 + q * 1024 := by
  obtain rfl | rfl | rfl | rfl : q = 0 ∨ q = 1 ∨ q = 2 ∨ q = 3 := by omega
  all_goals decide
theorem or_bits (x y : Int) (hx : x = 0 ∨ x = 1) (hy : y = 0 ∨ y = 1) : bOr .u16 (x * 2) (y * 4) = x * 2 + y * 4 := by
  rcases hx with rfl | rfl <;> rcases hy with rfl | rfl <;> decide

theorem sShade_eq (s : Scroll) (h0 : 0 ≤ s.V) (h1 : s.V < 65536) : sShade s = (9152 + s.V / 1024 % 4 * 1024 + s.V / 128 % 8 * 8 + s.V / 4 % 8, s.V / 2 % 2 * 2 + s.V / 64 % 2 * 4) := by
  unfold sShade
  simp (disch := omega) only [and_u16_3072, and_u16_992, and_u16_31, and_u16_2, shr_u16_5, shr_u16_2, shl_u16_3, shl_u16_1, u16_in]
  rw [or_9152 _ (by omega) (by omega)]
  simp (disch := omega) only [or_u16_lo6, or_u16_lo3]
  have e : s.V / 32 % 32 * 32 / 32 / 2 % 2 * 2 * 2 = s.V / 64 % 2 * 4 := by omega
  rw [e, or_bits _ _ (by omega) (by omega)]
  simp (disch := omega) only [u8_in]
  simp only [Prod.mk.injEq]
  constructor <;> omega

theorem reads_plain (s : Scroll) (h0 : 0 ≤ s.V) (h1 : s.V < 65536) : ((IntKind.i64.wrap (sName s)) : Int) = rName (own s).V ∧ ((IntKind.i64.wrap (sShade s).1) : Int) = (rShade (own s).V).1 ∧ ((IntKind.i64.wrap (sShade s).2) : Int) = (rShade (own s).V).2 ∧
    ((IntKind.i64.wrap (sRow s)) : Int) = (own s).V.Row := by
  rw [own_V s h0 h1, rName_eq _ (by constructor <;> simp only <;> omega) (by constructor <;> simp only <;> omega) (by constructor <;> simp only <;> omega) (by constructor <;> simp only <;> omega), rShade_eq _ (by constructor <;> simp only <;> omega) (by constructor <;> simp only <;> omega) (by constructor <;> simp only <;> omega) (by constructor <;> simp only <;> omega), sName_eq s h0 h1, sShade_eq s h0 h1]
  unfold sRow
  simp (disch := omega) only [and_u16_28672, shr_u16_12, u8_in, i64_in]
  refine ⟨?_, ?_, ?_, ?_⟩ <;> omega

theorem mirror_eq (a : Int) (u : Bool) (h0 : 0 ≤ a) (h1 : a < 65536) : mirror a u = bif u then a % 2048 else a % 1024 + a / 2048 % 2 * 1024 := by
  unfold mirror
  cases u
  · simp (disch := omega) only [Bool.not_false, if_true, shr_u16_1, and_u16_1023, and_u16_1024, Int.ediv_one, Int.mul_one, or_u16_hi10, cond_false]
    omega
  · simp (disch := omega) only [Bool.not_true, Bool.false_eq_true, if_false, and_u16_2047, Int.ediv_one, Int.mul_one, cond_true]

theorem rMirror_eq (a : Int) (u : Bool) (h0 : 0 ≤ a) (h1 : a < 65536) : rMirror a u = bif u then a % 2048 else a % 1024 + a / 2048 % 2 * 1024 := by
  unfold rMirror
  cases u
  · simp (disch := omega) only [Bool.false_eq_true, if_false, cond_false, Int.tmod_eq_emod_of_nonneg, Int.tdiv_eq_ediv_of_nonneg, i64_in]
    omega
  · simp (disch := omega) only [if_true, cond_true, Int.tmod_eq_emod_of_nonneg, Int.tdiv_eq_ediv_of_nonneg, i64_in]
    omega

theorem beq_iff {a b : Int} {u : Bool} (h : a = b ↔ u = true) : (a == b) = u := by
  cases u
  · have : a ≠ b := fun e => Bool.noConfusion (h.1 e)
    simpa using this
  · simpa using h.2 rfl

theorem mirrors_plain (a : Int) (u : Bool) (h0 : 0 ≤ a) (h1 : a < 65536) : ((IntKind.i64.wrap (mirror a u)) : Int) = rMirror (IntKind.i64.wrap a) u ∧ mirror a u < 2048 ∧
    ((mirror (bXor .u16 a 1024) u == mirror a u) = !u) ∧ ((mirror (bXor .u16 a 2048) u == mirror a u) = u) ∧ mirror (bXor .u16 a 4096) u = mirror a u := by
  simp (disch := omega) only [i64_in, xor_u16_1024, xor_u16_2048, xor_u16_4096]
  rw [mirror_eq a u h0 h1, mirror_eq _ u (by omega) (by omega), mirror_eq _ u (by omega) (by omega), mirror_eq _ u (by omega) (by omega), rMirror_eq a u h0 h1]
  cases u <;> simp only [cond_true, cond_false]
  · refine ⟨by simp (disch := omega) only [i64_in], by omega, beq_iff ?_, beq_iff ?_, by omega⟩ <;> simp <;> omega
  · refine ⟨by simp (disch := omega) only [i64_in], by omega, beq_iff ?_, beq_iff ?_, by omega⟩ <;> simp <;> omega

theorem colour_mod (a : Int) (h0 : 0 ≤ a) (h1 : a < 65536) : colour a = colour (a % 32) := by
  unfold colour
  simp (disch := omega) only [and_u16_31, Int.ediv_one, Int.mul_one, Int.emod_emod_of_dvd]
theorem rColour_mod (a : Int) (h0 : 0 ≤ a) (h1 : a < 65536) : rColour a = rColour (a % 32) := by
  unfold rColour
  simp (disch := omega) only [Int.tmod_eq_emod_of_nonneg]
  rw [Int.emod_emod_of_dvd a (Int.dvd_refl 32)]

def coloursB (c : Nat) : Bool :=
  (IntKind.i64.wrap (colour c) == rColour c) && ((colour (IntKind.u16.wrap (colour c)) == colour c) && (((c : Int) % 4 == 0) == (colour ((c : Int) + 16 - 2 * ((c : Int) / 16 % 2 * 16)) == colour c)))
theorem colours_all : allN coloursB 5 0 = true := by kernel_rfl

theorem colours_plain (a : Int) (h0 : 0 ≤ a) (h1 : a < 65536) : ((IntKind.i64.wrap (colour a)) : Int) = rColour (IntKind.i64.wrap a) ∧ colour (IntKind.u16.wrap (colour a)) = colour a ∧
    (((bAnd .u16 a 3 : Int) == 0) == (colour (bXor .u16 a 16) == colour a)) = true := by
  simp (disch := omega) only [i64_in, xor_u16_16, and_u16_3]
  have h := allN_int colours_all (a % 32) (by omega) (by omega)
  have e : ((a % 32).toNat : Int) = a % 32 := Int.toNat_of_nonneg (by omega)
  simp only [coloursB, Bool.and_eq_true, beq_iff_eq, e] at h
  obtain ⟨h2, h3, h4⟩ := h
  rw [colour_mod a h0 h1, rColour_mod a h0 h1, colour_mod (a + 16 - 2 * (a / 16 % 2 * 16)) (by omega) (by omega)]
  refine ⟨h2, h3, ?_⟩
  have e1 : (a + 16 - 2 * (a / 16 % 2 * 16)) % 32 = a % 32 + 16 - 2 * (a % 32 / 16 % 2 * 16) := by omega
  have e2 : a / 1 % 4 * 1 = a % 32 % 4 := by omega
  have e3 : a % 4 = a % 32 % 4 := by omega
  rw [e1]
  first | rw [e2] | rw [e3]
  rw [h4]
  simp

end Go.Proofs.Ytonbliaaicacgaa
