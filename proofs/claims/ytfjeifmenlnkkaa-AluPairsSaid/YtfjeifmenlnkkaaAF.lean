/-
  Layer 8: flags as Bools; what setting a flag does, of the program and of the reference. No condition.
-/
import Derived.Test.YtfjeifmenlnkkaaAE
import Derived.Test.YtfjeifmenlnkkaaVO
namespace Go.Proofs.Ytfjeifmenlnkkaa
open Go VX IntWalk
set_option maxRecDepth 100000
set_option linter.unusedSimpArgs false
set_option linter.unusedVariables false

theorem awake_t : (!awake) = false := by decide

def b2i (b : Bool) : Int := bif b then 1 else 0
theorem b2i_b (b : Bool) : 0 ≤ b2i b ∧ b2i b ≤ 1 := by cases b <;> decide

/-- The flags, laid into a byte. -/
def pk (b0 b1 b2 b3 b4 b5 b6 b7 : Bool) : Int := b2i b0 + 2 * b2i b1 + 4 * b2i b2 + 8 * b2i b3 + 16 * b2i b4 + 32 * b2i b5 + 64 * b2i b6 + 128 * b2i b7

theorem pk_b (b0 b1 b2 b3 b4 b5 b6 b7 : Bool) : 0 ≤ pk b0 b1 b2 b3 b4 b5 b6 b7 ∧ pk b0 b1 b2 b3 b4 b5 b6 b7 < 256 := by
  have := b2i_b b0; have := b2i_b b1; have := b2i_b b2; have := b2i_b b3; have := b2i_b b4; have := b2i_b b5; have := b2i_b b6; have := b2i_b b7
  unfold pk; omega

theorem b2i_dec (x : Int) (h : 0 ≤ x ∧ x ≤ 1) : b2i (decide (x = 1)) = x := by
  obtain rfl | rfl : x = 0 ∨ x = 1 := by omega
  · rfl
  · rfl

theorem pk_of (P : Int) (h : 0 ≤ P ∧ P < 256) : ∃ b0 b1 b2 b3 b4 b5 b6 b7, P = pk b0 b1 b2 b3 b4 b5 b6 b7 := by
  refine ⟨decide (P % 2 = 1), decide (P / 2 % 2 = 1), decide (P / 4 % 2 = 1), decide (P / 8 % 2 = 1), decide (P / 16 % 2 = 1), decide (P / 32 % 2 = 1), decide (P / 64 % 2 = 1), decide (P / 128 % 2 = 1), ?_⟩
  unfold pk
  rw [b2i_dec _ (by omega), b2i_dec _ (by omega), b2i_dec _ (by omega), b2i_dec _ (by omega), b2i_dec _ (by omega), b2i_dec _ (by omega), b2i_dec _ (by omega), b2i_dec _ (by omega)]
  omega

theorem bit_1 (b0 b1 b2 b3 b4 b5 b6 b7 : Bool) : pk b0 b1 b2 b3 b4 b5 b6 b7 / 1 % 2 = b2i b0 := by
  have := b2i_b b0; have := b2i_b b1; have := b2i_b b2; have := b2i_b b3; have := b2i_b b4; have := b2i_b b5; have := b2i_b b6; have := b2i_b b7
  unfold pk; omega
theorem and_1 {a : Int} (h0 : 0 ≤ a) (h1 : a < 256) : bAnd .u8 a 1 = a / 1 % 2 * 1 := by
  have := bAnd_field (k := .u8) rfl 0 1 (m := 1) rfl h0 h1 (by decide)
  simpa using this
theorem clear_1 {a : Int} (h0 : 0 ≤ a) (h1 : a < 256) : bAndNot .u8 a 1 = a - a / 1 % 2 * 1 := by
  rw [bAndNot_eq (k := .u8) rfl h0 h1 (by decide) (by decide), and_1 h0 h1]
theorem put_1 {a : Int} (h0 : 0 ≤ a) (h1 : a < 256) : bOr .u8 (bAndNot .u8 a 1) 1 = a - a / 1 % 2 * 1 + 1 := by
  have e : bAnd .u8 1 1 = 1 := by decide
  have := bOr_put (k := .u8) rfl (a := a) (b := 1) (m := 1) h0 h1 (by decide) (by decide) (by decide) (by decide)
  rw [e, and_1 h0 h1] at this
  exact this
theorem uFlag_1 (A X Y S : Int) (b0 b1 b2 b3 b4 b5 b6 b7 on : Bool) : uFlag ⟨A, X, Y, S, pk b0 b1 b2 b3 b4 b5 b6 b7⟩ 1 on = ⟨A, X, Y, S, pk on b1 b2 b3 b4 b5 b6 b7⟩ := by
  have hb := pk_b b0 b1 b2 b3 b4 b5 b6 b7
  unfold uFlag
  cases on
  · rw [if_neg (by decide)]
    simp only [Unit.mk.injEq, true_and]
    rw [clear_1 hb.1 hb.2, bit_1]
    unfold pk; simp only [b2i, cond_false]; omega
  · rw [if_pos rfl]
    simp only [Unit.mk.injEq, true_and]
    rw [put_1 hb.1 hb.2, bit_1]
    unfold pk; simp only [b2i, cond_true]; omega
theorem rHas_1 (b0 b1 b2 b3 b4 b5 b6 b7 : Bool) : rHas (pk b0 b1 b2 b3 b4 b5 b6 b7) 1 = b2i b0 := by
  have hb := pk_b b0 b1 b2 b3 b4 b5 b6 b7
  unfold rHas
  have hd : (pk b0 b1 b2 b3 b4 b5 b6 b7).tdiv 1 = pk b0 b1 b2 b3 b4 b5 b6 b7 / 1 := Int.tdiv_eq_ediv_of_nonneg hb.1
  rw [hd, i64_in _ (by omega), Int.tmod_eq_emod_of_nonneg (by omega), bit_1]
theorem rSet_1 (A X Y S n : Int) (b0 b1 b2 b3 b4 b5 b6 b7 on : Bool) (hn : n = b2i on) : rSet ⟨A, X, Y, S, pk b0 b1 b2 b3 b4 b5 b6 b7⟩ 1 n = ⟨A, X, Y, S, pk on b1 b2 b3 b4 b5 b6 b7⟩ := by
  subst hn
  have hb := pk_b b0 b1 b2 b3 b4 b5 b6 b7
  have h1 := b2i_b b0
  have h2 := b2i_b on
  unfold rSet
  simp only [rHas_1, RUnit.mk.injEq, true_and]
  rw [i64_in (b2i on - b2i b0) (by omega), i64_in ((b2i on - b2i b0) * 1) (by omega), i64_in _ (by omega)]
  unfold pk; omega
theorem has_1 {m : Int} (h0 : 0 ≤ m) (h1 : m < 256) : ((bAnd .u8 m 1 : Int) != 0) = decide (m / 1 % 2 = 1) := by
  rw [and_1 h0 h1]
  obtain h | h : m / 1 % 2 = 0 ∨ m / 1 % 2 = 1 := by omega
  · rw [h]; rfl
  · rw [h]; rfl
theorem rHasN_1 {m : Int} (h0 : 0 ≤ m) (h1 : m < 256) : rHas m 1 = b2i (decide (m / 1 % 2 = 1)) := by
  unfold rHas
  have hd : m.tdiv 1 = m / 1 := Int.tdiv_eq_ediv_of_nonneg h0
  rw [hd, i64_in _ (by omega), Int.tmod_eq_emod_of_nonneg (by omega), b2i_dec _ (by omega)]

theorem bit_2 (b0 b1 b2 b3 b4 b5 b6 b7 : Bool) : pk b0 b1 b2 b3 b4 b5 b6 b7 / 2 % 2 = b2i b1 := by
  have := b2i_b b0; have := b2i_b b1; have := b2i_b b2; have := b2i_b b3; have := b2i_b b4; have := b2i_b b5; have := b2i_b b6; have := b2i_b b7
  unfold pk; omega
theorem and_2 {a : Int} (h0 : 0 ≤ a) (h1 : a < 256) : bAnd .u8 a 2 = a / 2 % 2 * 2 := by
  have := bAnd_field (k := .u8) rfl 1 1 (m := 2) rfl h0 h1 (by decide)
  simpa using this
theorem clear_2 {a : Int} (h0 : 0 ≤ a) (h1 : a < 256) : bAndNot .u8 a 2 = a - a / 2 % 2 * 2 := by
  rw [bAndNot_eq (k := .u8) rfl h0 h1 (by decide) (by decide), and_2 h0 h1]
theorem put_2 {a : Int} (h0 : 0 ≤ a) (h1 : a < 256) : bOr .u8 (bAndNot .u8 a 2) 2 = a - a / 2 % 2 * 2 + 2 := by
  have e : bAnd .u8 2 2 = 2 := by decide
  have := bOr_put (k := .u8) rfl (a := a) (b := 2) (m := 2) h0 h1 (by decide) (by decide) (by decide) (by decide)
  rw [e, and_2 h0 h1] at this
  exact this
theorem uFlag_2 (A X Y S : Int) (b0 b1 b2 b3 b4 b5 b6 b7 on : Bool) : uFlag ⟨A, X, Y, S, pk b0 b1 b2 b3 b4 b5 b6 b7⟩ 2 on = ⟨A, X, Y, S, pk b0 on b2 b3 b4 b5 b6 b7⟩ := by
  have hb := pk_b b0 b1 b2 b3 b4 b5 b6 b7
  unfold uFlag
  cases on
  · rw [if_neg (by decide)]
    simp only [Unit.mk.injEq, true_and]
    rw [clear_2 hb.1 hb.2, bit_2]
    unfold pk; simp only [b2i, cond_false]; omega
  · rw [if_pos rfl]
    simp only [Unit.mk.injEq, true_and]
    rw [put_2 hb.1 hb.2, bit_2]
    unfold pk; simp only [b2i, cond_true]; omega
theorem rHas_2 (b0 b1 b2 b3 b4 b5 b6 b7 : Bool) : rHas (pk b0 b1 b2 b3 b4 b5 b6 b7) 2 = b2i b1 := by
  have hb := pk_b b0 b1 b2 b3 b4 b5 b6 b7
  unfold rHas
  have hd : (pk b0 b1 b2 b3 b4 b5 b6 b7).tdiv 2 = pk b0 b1 b2 b3 b4 b5 b6 b7 / 2 := Int.tdiv_eq_ediv_of_nonneg hb.1
  rw [hd, i64_in _ (by omega), Int.tmod_eq_emod_of_nonneg (by omega), bit_2]
theorem rSet_2 (A X Y S n : Int) (b0 b1 b2 b3 b4 b5 b6 b7 on : Bool) (hn : n = b2i on) : rSet ⟨A, X, Y, S, pk b0 b1 b2 b3 b4 b5 b6 b7⟩ 2 n = ⟨A, X, Y, S, pk b0 on b2 b3 b4 b5 b6 b7⟩ := by
  subst hn
  have hb := pk_b b0 b1 b2 b3 b4 b5 b6 b7
  have h1 := b2i_b b1
  have h2 := b2i_b on
  unfold rSet
  simp only [rHas_2, RUnit.mk.injEq, true_and]
  rw [i64_in (b2i on - b2i b1) (by omega), i64_in ((b2i on - b2i b1) * 2) (by omega), i64_in _ (by omega)]
  unfold pk; omega
theorem has_2 {m : Int} (h0 : 0 ≤ m) (h1 : m < 256) : ((bAnd .u8 m 2 : Int) != 0) = decide (m / 2 % 2 = 1) := by
  rw [and_2 h0 h1]
  obtain h | h : m / 2 % 2 = 0 ∨ m / 2 % 2 = 1 := by omega
  · rw [h]; rfl
  · rw [h]; rfl
theorem rHasN_2 {m : Int} (h0 : 0 ≤ m) (h1 : m < 256) : rHas m 2 = b2i (decide (m / 2 % 2 = 1)) := by
  unfold rHas
  have hd : m.tdiv 2 = m / 2 := Int.tdiv_eq_ediv_of_nonneg h0
  rw [hd, i64_in _ (by omega), Int.tmod_eq_emod_of_nonneg (by omega), b2i_dec _ (by omega)]

theorem bit_4 (b0 b1 b2 b3 b4 b5 b6 b7 : Bool) : pk b0 b1 b2 b3 b4 b5 b6 b7 / 4 % 2 = b2i b2 := by
  have := b2i_b b0; have := b2i_b b1; have := b2i_b b2; have := b2i_b b3; have := b2i_b b4; have := b2i_b b5; have := b2i_b b6; have := b2i_b b7
  unfold pk; omega
theorem and_4 {a : Int} (h0 : 0 ≤ a) (h1 : a < 256) : bAnd .u8 a 4 = a / 4 % 2 * 4 := by
  have := bAnd_field (k := .u8) rfl 2 1 (m := 4) rfl h0 h1 (by decide)
  simpa using this
theorem clear_4 {a : Int} (h0 : 0 ≤ a) (h1 : a < 256) : bAndNot .u8 a 4 = a - a / 4 % 2 * 4 := by
  rw [bAndNot_eq (k := .u8) rfl h0 h1 (by decide) (by decide), and_4 h0 h1]
theorem put_4 {a : Int} (h0 : 0 ≤ a) (h1 : a < 256) : bOr .u8 (bAndNot .u8 a 4) 4 = a - a / 4 % 2 * 4 + 4 := by
  have e : bAnd .u8 4 4 = 4 := by decide
  have := bOr_put (k := .u8) rfl (a := a) (b := 4) (m := 4) h0 h1 (by decide) (by decide) (by decide) (by decide)
  rw [e, and_4 h0 h1] at this
  exact this
theorem uFlag_4 (A X Y S : Int) (b0 b1 b2 b3 b4 b5 b6 b7 on : Bool) : uFlag ⟨A, X, Y, S, pk b0 b1 b2 b3 b4 b5 b6 b7⟩ 4 on = ⟨A, X, Y, S, pk b0 b1 on b3 b4 b5 b6 b7⟩ := by
  have hb := pk_b b0 b1 b2 b3 b4 b5 b6 b7
  unfold uFlag
  cases on
  · rw [if_neg (by decide)]
    simp only [Unit.mk.injEq, true_and]
    rw [clear_4 hb.1 hb.2, bit_4]
    unfold pk; simp only [b2i, cond_false]; omega
  · rw [if_pos rfl]
    simp only [Unit.mk.injEq, true_and]
    rw [put_4 hb.1 hb.2, bit_4]
    unfold pk; simp only [b2i, cond_true]; omega
theorem rHas_4 (b0 b1 b2 b3 b4 b5 b6 b7 : Bool) : rHas (pk b0 b1 b2 b3 b4 b5 b6 b7) 4 = b2i b2 := by
  have hb := pk_b b0 b1 b2 b3 b4 b5 b6 b7
  unfold rHas
  have hd : (pk b0 b1 b2 b3 b4 b5 b6 b7).tdiv 4 = pk b0 b1 b2 b3 b4 b5 b6 b7 / 4 := Int.tdiv_eq_ediv_of_nonneg hb.1
  rw [hd, i64_in _ (by omega), Int.tmod_eq_emod_of_nonneg (by omega), bit_4]
theorem rSet_4 (A X Y S n : Int) (b0 b1 b2 b3 b4 b5 b6 b7 on : Bool) (hn : n = b2i on) : rSet ⟨A, X, Y, S, pk b0 b1 b2 b3 b4 b5 b6 b7⟩ 4 n = ⟨A, X, Y, S, pk b0 b1 on b3 b4 b5 b6 b7⟩ := by
  subst hn
  have hb := pk_b b0 b1 b2 b3 b4 b5 b6 b7
  have h1 := b2i_b b2
  have h2 := b2i_b on
  unfold rSet
  simp only [rHas_4, RUnit.mk.injEq, true_and]
  rw [i64_in (b2i on - b2i b2) (by omega), i64_in ((b2i on - b2i b2) * 4) (by omega), i64_in _ (by omega)]
  unfold pk; omega
theorem has_4 {m : Int} (h0 : 0 ≤ m) (h1 : m < 256) : ((bAnd .u8 m 4 : Int) != 0) = decide (m / 4 % 2 = 1) := by
  rw [and_4 h0 h1]
  obtain h | h : m / 4 % 2 = 0 ∨ m / 4 % 2 = 1 := by omega
  · rw [h]; rfl
  · rw [h]; rfl
theorem rHasN_4 {m : Int} (h0 : 0 ≤ m) (h1 : m < 256) : rHas m 4 = b2i (decide (m / 4 % 2 = 1)) := by
  unfold rHas
  have hd : m.tdiv 4 = m / 4 := Int.tdiv_eq_ediv_of_nonneg h0
  rw [hd, i64_in _ (by omega), Int.tmod_eq_emod_of_nonneg (by omega), b2i_dec _ (by omega)]

theorem bit_8 (b0 b1 b2 b3 b4 b5 b6 b7 : Bool) : pk b0 b1 b2 b3 b4 b5 b6 b7 / 8 % 2 = b2i b3 := by
  have := b2i_b b0; have := b2i_b b1; have := b2i_b b2; have := b2i_b b3; have := b2i_b b4; have := b2i_b b5; have := b2i_b b6; have := b2i_b b7
  unfold pk; omega
theorem and_8 {a : Int} (h0 : 0 ≤ a) (h1 : a < 256) : bAnd .u8 a 8 = a / 8 % 2 * 8 := by
  have := bAnd_field (k := .u8) rfl 3 1 (m := 8) rfl h0 h1 (by decide)
  simpa using this
theorem clear_8 {a : Int} (h0 : 0 ≤ a) (h1 : a < 256) : bAndNot .u8 a 8 = a - a / 8 % 2 * 8 := by
  rw [bAndNot_eq (k := .u8) rfl h0 h1 (by decide) (by decide), and_8 h0 h1]
theorem put_8 {a : Int} (h0 : 0 ≤ a) (h1 : a < 256) : bOr .u8 (bAndNot .u8 a 8) 8 = a - a / 8 % 2 * 8 + 8 := by
  have e : bAnd .u8 8 8 = 8 := by decide
  have := bOr_put (k := .u8) rfl (a := a) (b := 8) (m := 8) h0 h1 (by decide) (by decide) (by decide) (by decide)
  rw [e, and_8 h0 h1] at this
  exact this
theorem uFlag_8 (A X Y S : Int) (b0 b1 b2 b3 b4 b5 b6 b7 on : Bool) : uFlag ⟨A, X, Y, S, pk b0 b1 b2 b3 b4 b5 b6 b7⟩ 8 on = ⟨A, X, Y, S, pk b0 b1 b2 on b4 b5 b6 b7⟩ := by
  have hb := pk_b b0 b1 b2 b3 b4 b5 b6 b7
  unfold uFlag
  cases on
  · rw [if_neg (by decide)]
    simp only [Unit.mk.injEq, true_and]
    rw [clear_8 hb.1 hb.2, bit_8]
    unfold pk; simp only [b2i, cond_false]; omega
  · rw [if_pos rfl]
    simp only [Unit.mk.injEq, true_and]
    rw [put_8 hb.1 hb.2, bit_8]
    unfold pk; simp only [b2i, cond_true]; omega
theorem rHas_8 (b0 b1 b2 b3 b4 b5 b6 b7 : Bool) : rHas (pk b0 b1 b2 b3 b4 b5 b6 b7) 8 = b2i b3 := by
  have hb := pk_b b0 b1 b2 b3 b4 b5 b6 b7
  unfold rHas
  have hd : (pk b0 b1 b2 b3 b4 b5 b6 b7).tdiv 8 = pk b0 b1 b2 b3 b4 b5 b6 b7 / 8 := Int.tdiv_eq_ediv_of_nonneg hb.1
  rw [hd, i64_in _ (by omega), Int.tmod_eq_emod_of_nonneg (by omega), bit_8]
theorem rSet_8 (A X Y S n : Int) (b0 b1 b2 b3 b4 b5 b6 b7 on : Bool) (hn : n = b2i on) : rSet ⟨A, X, Y, S, pk b0 b1 b2 b3 b4 b5 b6 b7⟩ 8 n = ⟨A, X, Y, S, pk b0 b1 b2 on b4 b5 b6 b7⟩ := by
  subst hn
  have hb := pk_b b0 b1 b2 b3 b4 b5 b6 b7
  have h1 := b2i_b b3
  have h2 := b2i_b on
  unfold rSet
  simp only [rHas_8, RUnit.mk.injEq, true_and]
  rw [i64_in (b2i on - b2i b3) (by omega), i64_in ((b2i on - b2i b3) * 8) (by omega), i64_in _ (by omega)]
  unfold pk; omega
theorem has_8 {m : Int} (h0 : 0 ≤ m) (h1 : m < 256) : ((bAnd .u8 m 8 : Int) != 0) = decide (m / 8 % 2 = 1) := by
  rw [and_8 h0 h1]
  obtain h | h : m / 8 % 2 = 0 ∨ m / 8 % 2 = 1 := by omega
  · rw [h]; rfl
  · rw [h]; rfl
theorem rHasN_8 {m : Int} (h0 : 0 ≤ m) (h1 : m < 256) : rHas m 8 = b2i (decide (m / 8 % 2 = 1)) := by
  unfold rHas
  have hd : m.tdiv 8 = m / 8 := Int.tdiv_eq_ediv_of_nonneg h0
  rw [hd, i64_in _ (by omega), Int.tmod_eq_emod_of_nonneg (by omega), b2i_dec _ (by omega)]

theorem bit_64 (b0 b1 b2 b3 b4 b5 b6 b7 : Bool) : pk b0 b1 b2 b3 b4 b5 b6 b7 / 64 % 2 = b2i b6 := by
  have := b2i_b b0; have := b2i_b b1; have := b2i_b b2; have := b2i_b b3; have := b2i_b b4; have := b2i_b b5; have := b2i_b b6; have := b2i_b b7
  unfold pk; omega
theorem and_64 {a : Int} (h0 : 0 ≤ a) (h1 : a < 256) : bAnd .u8 a 64 = a / 64 % 2 * 64 := by
  have := bAnd_field (k := .u8) rfl 6 1 (m := 64) rfl h0 h1 (by decide)
  simpa using this
theorem clear_64 {a : Int} (h0 : 0 ≤ a) (h1 : a < 256) : bAndNot .u8 a 64 = a - a / 64 % 2 * 64 := by
  rw [bAndNot_eq (k := .u8) rfl h0 h1 (by decide) (by decide), and_64 h0 h1]
theorem put_64 {a : Int} (h0 : 0 ≤ a) (h1 : a < 256) : bOr .u8 (bAndNot .u8 a 64) 64 = a - a / 64 % 2 * 64 + 64 := by
  have e : bAnd .u8 64 64 = 64 := by decide
  have := bOr_put (k := .u8) rfl (a := a) (b := 64) (m := 64) h0 h1 (by decide) (by decide) (by decide) (by decide)
  rw [e, and_64 h0 h1] at this
  exact this
theorem uFlag_64 (A X Y S : Int) (b0 b1 b2 b3 b4 b5 b6 b7 on : Bool) : uFlag ⟨A, X, Y, S, pk b0 b1 b2 b3 b4 b5 b6 b7⟩ 64 on = ⟨A, X, Y, S, pk b0 b1 b2 b3 b4 b5 on b7⟩ := by
  have hb := pk_b b0 b1 b2 b3 b4 b5 b6 b7
  unfold uFlag
  cases on
  · rw [if_neg (by decide)]
    simp only [Unit.mk.injEq, true_and]
    rw [clear_64 hb.1 hb.2, bit_64]
    unfold pk; simp only [b2i, cond_false]; omega
  · rw [if_pos rfl]
    simp only [Unit.mk.injEq, true_and]
    rw [put_64 hb.1 hb.2, bit_64]
    unfold pk; simp only [b2i, cond_true]; omega
theorem rHas_64 (b0 b1 b2 b3 b4 b5 b6 b7 : Bool) : rHas (pk b0 b1 b2 b3 b4 b5 b6 b7) 64 = b2i b6 := by
  have hb := pk_b b0 b1 b2 b3 b4 b5 b6 b7
  unfold rHas
  have hd : (pk b0 b1 b2 b3 b4 b5 b6 b7).tdiv 64 = pk b0 b1 b2 b3 b4 b5 b6 b7 / 64 := Int.tdiv_eq_ediv_of_nonneg hb.1
  rw [hd, i64_in _ (by omega), Int.tmod_eq_emod_of_nonneg (by omega), bit_64]
theorem rSet_64 (A X Y S n : Int) (b0 b1 b2 b3 b4 b5 b6 b7 on : Bool) (hn : n = b2i on) : rSet ⟨A, X, Y, S, pk b0 b1 b2 b3 b4 b5 b6 b7⟩ 64 n = ⟨A, X, Y, S, pk b0 b1 b2 b3 b4 b5 on b7⟩ := by
  subst hn
  have hb := pk_b b0 b1 b2 b3 b4 b5 b6 b7
  have h1 := b2i_b b6
  have h2 := b2i_b on
  unfold rSet
  simp only [rHas_64, RUnit.mk.injEq, true_and]
  rw [i64_in (b2i on - b2i b6) (by omega), i64_in ((b2i on - b2i b6) * 64) (by omega), i64_in _ (by omega)]
  unfold pk; omega
theorem has_64 {m : Int} (h0 : 0 ≤ m) (h1 : m < 256) : ((bAnd .u8 m 64 : Int) != 0) = decide (m / 64 % 2 = 1) := by
  rw [and_64 h0 h1]
  obtain h | h : m / 64 % 2 = 0 ∨ m / 64 % 2 = 1 := by omega
  · rw [h]; rfl
  · rw [h]; rfl
theorem rHasN_64 {m : Int} (h0 : 0 ≤ m) (h1 : m < 256) : rHas m 64 = b2i (decide (m / 64 % 2 = 1)) := by
  unfold rHas
  have hd : m.tdiv 64 = m / 64 := Int.tdiv_eq_ediv_of_nonneg h0
  rw [hd, i64_in _ (by omega), Int.tmod_eq_emod_of_nonneg (by omega), b2i_dec _ (by omega)]

theorem bit_32 (b0 b1 b2 b3 b4 b5 b6 b7 : Bool) : pk b0 b1 b2 b3 b4 b5 b6 b7 / 32 % 2 = b2i b5 := by
  have := b2i_b b0; have := b2i_b b1; have := b2i_b b2; have := b2i_b b3; have := b2i_b b4; have := b2i_b b5; have := b2i_b b6; have := b2i_b b7
  unfold pk; omega
theorem and_32 {a : Int} (h0 : 0 ≤ a) (h1 : a < 256) : bAnd .u8 a 32 = a / 32 % 2 * 32 := by
  have := bAnd_field (k := .u8) rfl 5 1 (m := 32) rfl h0 h1 (by decide)
  simpa using this
theorem clear_32 {a : Int} (h0 : 0 ≤ a) (h1 : a < 256) : bAndNot .u8 a 32 = a - a / 32 % 2 * 32 := by
  rw [bAndNot_eq (k := .u8) rfl h0 h1 (by decide) (by decide), and_32 h0 h1]
theorem put_32 {a : Int} (h0 : 0 ≤ a) (h1 : a < 256) : bOr .u8 (bAndNot .u8 a 32) 32 = a - a / 32 % 2 * 32 + 32 := by
  have e : bAnd .u8 32 32 = 32 := by decide
  have := bOr_put (k := .u8) rfl (a := a) (b := 32) (m := 32) h0 h1 (by decide) (by decide) (by decide) (by decide)
  rw [e, and_32 h0 h1] at this
  exact this
theorem uFlag_32 (A X Y S : Int) (b0 b1 b2 b3 b4 b5 b6 b7 on : Bool) : uFlag ⟨A, X, Y, S, pk b0 b1 b2 b3 b4 b5 b6 b7⟩ 32 on = ⟨A, X, Y, S, pk b0 b1 b2 b3 b4 on b6 b7⟩ := by
  have hb := pk_b b0 b1 b2 b3 b4 b5 b6 b7
  unfold uFlag
  cases on
  · rw [if_neg (by decide)]
    simp only [Unit.mk.injEq, true_and]
    rw [clear_32 hb.1 hb.2, bit_32]
    unfold pk; simp only [b2i, cond_false]; omega
  · rw [if_pos rfl]
    simp only [Unit.mk.injEq, true_and]
    rw [put_32 hb.1 hb.2, bit_32]
    unfold pk; simp only [b2i, cond_true]; omega
theorem rHas_32 (b0 b1 b2 b3 b4 b5 b6 b7 : Bool) : rHas (pk b0 b1 b2 b3 b4 b5 b6 b7) 32 = b2i b5 := by
  have hb := pk_b b0 b1 b2 b3 b4 b5 b6 b7
  unfold rHas
  have hd : (pk b0 b1 b2 b3 b4 b5 b6 b7).tdiv 32 = pk b0 b1 b2 b3 b4 b5 b6 b7 / 32 := Int.tdiv_eq_ediv_of_nonneg hb.1
  rw [hd, i64_in _ (by omega), Int.tmod_eq_emod_of_nonneg (by omega), bit_32]
theorem rSet_32 (A X Y S n : Int) (b0 b1 b2 b3 b4 b5 b6 b7 on : Bool) (hn : n = b2i on) : rSet ⟨A, X, Y, S, pk b0 b1 b2 b3 b4 b5 b6 b7⟩ 32 n = ⟨A, X, Y, S, pk b0 b1 b2 b3 b4 on b6 b7⟩ := by
  subst hn
  have hb := pk_b b0 b1 b2 b3 b4 b5 b6 b7
  have h1 := b2i_b b5
  have h2 := b2i_b on
  unfold rSet
  simp only [rHas_32, RUnit.mk.injEq, true_and]
  rw [i64_in (b2i on - b2i b5) (by omega), i64_in ((b2i on - b2i b5) * 32) (by omega), i64_in _ (by omega)]
  unfold pk; omega
theorem has_32 {m : Int} (h0 : 0 ≤ m) (h1 : m < 256) : ((bAnd .u8 m 32 : Int) != 0) = decide (m / 32 % 2 = 1) := by
  rw [and_32 h0 h1]
  obtain h | h : m / 32 % 2 = 0 ∨ m / 32 % 2 = 1 := by omega
  · rw [h]; rfl
  · rw [h]; rfl
theorem rHasN_32 {m : Int} (h0 : 0 ≤ m) (h1 : m < 256) : rHas m 32 = b2i (decide (m / 32 % 2 = 1)) := by
  unfold rHas
  have hd : m.tdiv 32 = m / 32 := Int.tdiv_eq_ediv_of_nonneg h0
  rw [hd, i64_in _ (by omega), Int.tmod_eq_emod_of_nonneg (by omega), b2i_dec _ (by omega)]

theorem bit_128 (b0 b1 b2 b3 b4 b5 b6 b7 : Bool) : pk b0 b1 b2 b3 b4 b5 b6 b7 / 128 % 2 = b2i b7 := by
  have := b2i_b b0; have := b2i_b b1; have := b2i_b b2; have := b2i_b b3; have := b2i_b b4; have := b2i_b b5; have := b2i_b b6; have := b2i_b b7
  unfold pk; omega
theorem and_128 {a : Int} (h0 : 0 ≤ a) (h1 : a < 256) : bAnd .u8 a 128 = a / 128 % 2 * 128 := by
  have := bAnd_field (k := .u8) rfl 7 1 (m := 128) rfl h0 h1 (by decide)
  simpa using this
theorem clear_128 {a : Int} (h0 : 0 ≤ a) (h1 : a < 256) : bAndNot .u8 a 128 = a - a / 128 % 2 * 128 := by
  rw [bAndNot_eq (k := .u8) rfl h0 h1 (by decide) (by decide), and_128 h0 h1]
theorem put_128 {a : Int} (h0 : 0 ≤ a) (h1 : a < 256) : bOr .u8 (bAndNot .u8 a 128) 128 = a - a / 128 % 2 * 128 + 128 := by
  have e : bAnd .u8 128 128 = 128 := by decide
  have := bOr_put (k := .u8) rfl (a := a) (b := 128) (m := 128) h0 h1 (by decide) (by decide) (by decide) (by decide)
  rw [e, and_128 h0 h1] at this
  exact this
theorem uFlag_128 (A X Y S : Int) (b0 b1 b2 b3 b4 b5 b6 b7 on : Bool) : uFlag ⟨A, X, Y, S, pk b0 b1 b2 b3 b4 b5 b6 b7⟩ 128 on = ⟨A, X, Y, S, pk b0 b1 b2 b3 b4 b5 b6 on⟩ := by
  have hb := pk_b b0 b1 b2 b3 b4 b5 b6 b7
  unfold uFlag
  cases on
  · rw [if_neg (by decide)]
    simp only [Unit.mk.injEq, true_and]
    rw [clear_128 hb.1 hb.2, bit_128]
    unfold pk; simp only [b2i, cond_false]; omega
  · rw [if_pos rfl]
    simp only [Unit.mk.injEq, true_and]
    rw [put_128 hb.1 hb.2, bit_128]
    unfold pk; simp only [b2i, cond_true]; omega
theorem rHas_128 (b0 b1 b2 b3 b4 b5 b6 b7 : Bool) : rHas (pk b0 b1 b2 b3 b4 b5 b6 b7) 128 = b2i b7 := by
  have hb := pk_b b0 b1 b2 b3 b4 b5 b6 b7
  unfold rHas
  have hd : (pk b0 b1 b2 b3 b4 b5 b6 b7).tdiv 128 = pk b0 b1 b2 b3 b4 b5 b6 b7 / 128 := Int.tdiv_eq_ediv_of_nonneg hb.1
  rw [hd, i64_in _ (by omega), Int.tmod_eq_emod_of_nonneg (by omega), bit_128]
theorem rSet_128 (A X Y S n : Int) (b0 b1 b2 b3 b4 b5 b6 b7 on : Bool) (hn : n = b2i on) : rSet ⟨A, X, Y, S, pk b0 b1 b2 b3 b4 b5 b6 b7⟩ 128 n = ⟨A, X, Y, S, pk b0 b1 b2 b3 b4 b5 b6 on⟩ := by
  subst hn
  have hb := pk_b b0 b1 b2 b3 b4 b5 b6 b7
  have h1 := b2i_b b7
  have h2 := b2i_b on
  unfold rSet
  simp only [rHas_128, RUnit.mk.injEq, true_and]
  rw [i64_in (b2i on - b2i b7) (by omega), i64_in ((b2i on - b2i b7) * 128) (by omega), i64_in _ (by omega)]
  unfold pk; omega
theorem has_128 {m : Int} (h0 : 0 ≤ m) (h1 : m < 256) : ((bAnd .u8 m 128 : Int) != 0) = decide (m / 128 % 2 = 1) := by
  rw [and_128 h0 h1]
  obtain h | h : m / 128 % 2 = 0 ∨ m / 128 % 2 = 1 := by omega
  · rw [h]; rfl
  · rw [h]; rfl
theorem rHasN_128 {m : Int} (h0 : 0 ≤ m) (h1 : m < 256) : rHas m 128 = b2i (decide (m / 128 % 2 = 1)) := by
  unfold rHas
  have hd : m.tdiv 128 = m / 128 := Int.tdiv_eq_ediv_of_nonneg h0
  rw [hd, i64_in _ (by omega), Int.tmod_eq_emod_of_nonneg (by omega), b2i_dec _ (by omega)]


theorem rYes_eq (b : Bool) : rYes b = b2i b := by cases b <;> rfl

structure Bytes (u : Unit) : Prop where
  a : 0 ≤ u.A ∧ u.A < 256
  x : 0 ≤ u.X ∧ u.X < 256
  y : 0 ≤ u.Y ∧ u.Y < 256
  s : 0 ≤ u.S ∧ u.S < 256
  p : 0 ≤ u.P ∧ u.P < 256

theorem own_eq (A X Y S P : Int) (ha : 0 ≤ A ∧ A < 256) (hx : 0 ≤ X ∧ X < 256) (hy : 0 ≤ Y ∧ Y < 256) (hs : 0 ≤ S ∧ S < 256) (hp : 0 ≤ P ∧ P < 256) : own ⟨A, X, Y, S, P⟩ = ⟨A, X, Y, S, P⟩ := by
  unfold own
  simp (disch := omega) only [i64_in]

/-- The sign of a byte, and whether it is nought. -/
def neg (m : Int) : Bool := decide (m / 128 % 2 = 1)
def zer (m : Int) : Bool := m == 0

theorem uSign_eq (A X Y S m : Int) (b0 b1 b2 b3 b4 b5 b6 b7 : Bool) (h : 0 ≤ m ∧ m < 256) : uSign ⟨A, X, Y, S, pk b0 b1 b2 b3 b4 b5 b6 b7⟩ m = ⟨A, X, Y, S, pk b0 (zer m) b2 b3 b4 b5 b6 (neg m)⟩ := by
  unfold uSign
  rw [uFlag_128, uFlag_2, has_128 h.1 h.2]
  rfl

theorem rSign_eq (A X Y S m : Int) (b0 b1 b2 b3 b4 b5 b6 b7 : Bool) (h : 0 ≤ m ∧ m < 256) : rSign ⟨A, X, Y, S, pk b0 b1 b2 b3 b4 b5 b6 b7⟩ m = ⟨A, X, Y, S, pk b0 (zer m) b2 b3 b4 b5 b6 (neg m)⟩ := by
  unfold rSign
  have e : IntKind.i64.wrap (m.tdiv 128) = b2i (neg m) := by
    have hd : m.tdiv 128 = m / 128 := Int.tdiv_eq_ediv_of_nonneg h.1
    rw [hd, i64_in _ (by omega)]
    unfold neg
    rw [b2i_dec _ (by omega)]; omega
  rw [rSet_128 _ _ _ _ _ _ _ _ _ _ _ _ _ (neg m) e, show ((m : Int) == 0) = zer m from rfl, rSet_2 _ _ _ _ _ _ _ _ _ _ _ _ _ (zer m) (rYes_eq _)]

theorem uLoad_eq (A X Y S m : Int) (b0 b1 b2 b3 b4 b5 b6 b7 : Bool) (h : 0 ≤ m ∧ m < 256) : uLoad ⟨A, X, Y, S, pk b0 b1 b2 b3 b4 b5 b6 b7⟩ m = ⟨m, X, Y, S, pk b0 (zer m) b2 b3 b4 b5 b6 (neg m)⟩ := by
  unfold uLoad
  exact uSign_eq _ _ _ _ _ _ _ _ _ _ _ _ _ h

theorem byte_and (a b : Int) : 0 ≤ bAnd .u8 a b ∧ bAnd .u8 a b < 256 := by unfold bAnd; rw [IntKind.wrap_u8]; omega
theorem byte_or (a b : Int) : 0 ≤ bOr .u8 a b ∧ bOr .u8 a b < 256 := by unfold bOr; rw [IntKind.wrap_u8]; omega
theorem byte_xor (a b : Int) : 0 ≤ bXor .u8 a b ∧ bXor .u8 a b < 256 := by unfold bXor; rw [IntKind.wrap_u8]; omega

theorem ofInt_nat64 {a : Nat} (h : a < 256) : (BitVec.ofInt 64 (a : Int)).toNat = a := by
  rw [BitVec.toNat_ofInt]
  have : ((a : Int) % ((2 ^ 64 : Nat) : Int)) = ((a % 2 ^ 64 : Nat) : Int) := by norm_cast
  rw [this, Int.toNat_natCast, Nat.mod_eq_of_lt (by omega)]

theorem wide_and {a b : Int} (ha : 0 ≤ a ∧ a < 256) (hb : 0 ≤ b ∧ b < 256) : bAnd .i64 a b = bAnd .u8 a b := by
  obtain ⟨x, rfl⟩ := Int.eq_ofNat_of_zero_le ha.1
  obtain ⟨y, rfl⟩ := Int.eq_ofNat_of_zero_le hb.1
  have hx : x < 256 := by omega
  have hy : y < 256 := by omega
  rw [and_nat (k := .u8) rfl hx hy]
  unfold bAnd
  rw [BitVec.toNat_and]
  show IntKind.i64.wrap (((BitVec.ofInt 64 (x : Int)).toNat &&& (BitVec.ofInt 64 (y : Int)).toNat : Nat) : Int) = _
  rw [ofInt_nat64 hx, ofInt_nat64 hy]
  have : x &&& y ≤ x := Nat.and_le_left
  exact i64_in _ (by omega)
theorem wide_or {a b : Int} (ha : 0 ≤ a ∧ a < 256) (hb : 0 ≤ b ∧ b < 256) : bOr .i64 a b = bOr .u8 a b := by
  obtain ⟨x, rfl⟩ := Int.eq_ofNat_of_zero_le ha.1
  obtain ⟨y, rfl⟩ := Int.eq_ofNat_of_zero_le hb.1
  have hx : x < 256 := by omega
  have hy : y < 256 := by omega
  rw [or_nat (k := .u8) rfl hx hy]
  unfold bOr
  rw [BitVec.toNat_or]
  show IntKind.i64.wrap (((BitVec.ofInt 64 (x : Int)).toNat ||| (BitVec.ofInt 64 (y : Int)).toNat : Nat) : Int) = _
  rw [ofInt_nat64 hx, ofInt_nat64 hy]
  have : x ||| y < 2 ^ 8 := Nat.or_lt_two_pow hx hy
  exact i64_in _ (by omega)
theorem wide_xor {a b : Int} (ha : 0 ≤ a ∧ a < 256) (hb : 0 ≤ b ∧ b < 256) : bXor .i64 a b = bXor .u8 a b := by
  obtain ⟨x, rfl⟩ := Int.eq_ofNat_of_zero_le ha.1
  obtain ⟨y, rfl⟩ := Int.eq_ofNat_of_zero_le hb.1
  have hx : x < 256 := by omega
  have hy : y < 256 := by omega
  rw [xor_nat (k := .u8) rfl hx hy]
  unfold bXor
  rw [BitVec.toNat_xor]
  show IntKind.i64.wrap (((BitVec.ofInt 64 (x : Int)).toNat ^^^ (BitVec.ofInt 64 (y : Int)).toNat : Nat) : Int) = _
  rw [ofInt_nat64 hx, ofInt_nat64 hy]
  have : x ^^^ y < 2 ^ 8 := Nat.xor_lt_two_pow hx hy
  exact i64_in _ (by omega)

end Go.Proofs.Ytfjeifmenlnkkaa
