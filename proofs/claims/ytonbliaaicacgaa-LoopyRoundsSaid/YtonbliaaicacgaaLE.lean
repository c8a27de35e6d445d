/-
  Layer 14: the plain law of the scrolls. No condition.
-/
import Derived.Test.YtonbliaaicacgaaLD
namespace Go.Proofs.Ytonbliaaicacgaa
open Go VX IntWalk
set_option maxRecDepth 100000
set_option linter.unusedSimpArgs false
set_option linter.unusedVariables false

theorem and_two {a m : Int} (x y : Nat) (h0 : 0 ≤ a) (h1 : a < 65536) (hm : m = ((x ||| y : Nat) : Int)) (hx : x < 65536) (hy : y < 65536) (hd : x &&& y = 0) : bAnd .u16 a m = bAnd .u16 a x + bAnd .u16 a y := by
  obtain ⟨n, rfl⟩ := Int.eq_ofNat_of_zero_le h0
  subst hm
  have hn : n < 2 ^ IntKind.u16.bits := by show n < 65536; omega
  rw [and_nat (k := .u16) rfl hn (Nat.or_lt_two_pow (n := 16) hx hy), and_nat (k := .u16) rfl hn hx, and_nat (k := .u16) rfl hn hy, Nat.and_or_distrib_left, or_add]
  · exact Int.natCast_add _ _
  · have : (n &&& x) &&& (n &&& y) = n &&& (x &&& y) := by
      apply Nat.eq_of_testBit_eq
      intro i
      simp only [Nat.testBit_and]
      cases n.testBit i <;> simp
    rw [this, hd, Nat.and_zero]

theorem and_u16_30720 {a : Int} (h0 : 0 ≤ a) (h1 : a < 65536) : bAnd .u16 a 30720 = a / 2048 % 16 * 2048 := by
  have := bAnd_field (k := .u16) rfl 11 4 (m := 30720) rfl h0 h1 (by decide)
  simpa using this
theorem and_u16_31712 {a : Int} (h0 : 0 ≤ a) (h1 : a < 65536) : bAnd .u16 a 31712 = a / 2048 % 16 * 2048 + a / 32 % 32 * 32 := by
  rw [and_two 30720 992 h0 h1 (by decide) (by decide) (by decide) (by decide)]
  show bAnd .u16 a 30720 + bAnd .u16 a 992 = _
  rw [and_u16_30720 h0 h1, and_u16_992 h0 h1]
theorem and_u16_1055 {a : Int} (h0 : 0 ≤ a) (h1 : a < 65536) : bAnd .u16 a 1055 = a / 1024 % 2 * 1024 + a % 32 := by
  rw [and_two 1024 31 h0 h1 (by decide) (by decide) (by decide) (by decide)]
  show bAnd .u16 a 1024 + bAnd .u16 a 31 = _
  rw [and_u16_1024 h0 h1, and_u16_31 h0 h1]

theorem fits_of (V T X : Int) (W : Bool) (h1 : 0 ≤ V ∧ V < 65536) (h2 : 0 ≤ T ∧ T < 65536) (h3 : 0 ≤ X ∧ X < 256) : Fits ⟨V, T, X, W⟩ := ⟨h1.1, h1.2, h2.1, h2.2, h3.1, h3.2⟩
theorem good_of (V T X : Int) (W : Bool) (h1 : 0 ≤ V ∧ V < 32768) (h2 : 0 ≤ T ∧ T < 32768) (h3 : 0 ≤ X ∧ X < 8) : Good ⟨V, T, X, W⟩ := ⟨h1.1, h1.2, h2.1, h2.2, h3.1, h3.2⟩

theorem control_eq (s : Scroll) (h : Good s) (b : Int) (hb : 0 ≤ b ∧ b < 256) : sControl s b = ⟨s.V, s.T - s.T / 1024 % 4 * 1024 + b % 4 * 1024, s.X, s.W⟩ := by
  unfold sControl
  rw [right_good s h]
  obtain ⟨_, _, _, _, _, _⟩ := h
  simp (disch := omega) only [u16_in, shl_u16_10]
  have e : IntKind.u16.wrap (b * 1024) = b % 64 * 1024 := by rw [IntKind.wrap_u16]; omega
  rw [e, put_eq _ _ _ (by omega) (by omega) (by decide)]
  simp (disch := omega) only [and_u16_3072]
  simp only [Scroll.mk.injEq, true_and, and_true]
  omega

theorem offset1_eq (s : Scroll) (h : Good s) (b : Int) (hb : 0 ≤ b ∧ b < 256) (hw : s.W = false) : sOffset s b = ⟨s.V, s.T / 32 * 32 + b / 8, b % 8, true⟩ := by
  unfold sOffset
  rw [right_good s h, if_neg (by rw [hw]; decide), hw]
  obtain ⟨_, _, _, _, _, _⟩ := h
  simp (disch := omega) only [u16_in, shr_u16_3, and_u8_7, Int.ediv_one, Int.mul_one]
  rw [put_eq _ _ _ (by omega) (by omega) (by decide)]
  simp (disch := omega) only [and_u16_31, Int.ediv_one, Int.mul_one]
  simp only [Scroll.mk.injEq, true_and, Bool.not_false, and_true]
  omega

theorem offset2_eq (s : Scroll) (h : Good s) (b : Int) (hb : 0 ≤ b ∧ b < 256) (hw : s.W = true) : sOffset s b = ⟨s.V, s.T % 32 + b / 8 * 32 + s.T / 1024 % 4 * 1024 + b % 8 * 4096, s.X, false⟩ := by
  unfold sOffset
  rw [right_good s h, if_pos hw, hw]
  obtain ⟨_, _, _, _, _, _⟩ := h
  simp (disch := omega) only [u16_in, shr_u16_3, shl_u16_5, shl_u16_12]
  have e : IntKind.u16.wrap (b * 4096) = b % 16 * 4096 := by rw [IntKind.wrap_u16]; omega
  rw [e, put_eq s.T _ _ (by omega) (by omega) (by decide)]
  simp (disch := omega) only [and_u16_992]
  rw [put_eq _ _ _ (by omega) (by omega) (by decide)]
  simp (disch := omega) only [and_u16_28672]
  simp only [Scroll.mk.injEq, true_and, Bool.not_true, and_true]
  omega

/-- A place by its parts. -/
def at_ (c l a d r : Int) : Int := c + 32 * l + 1024 * a + 2048 * d + 4096 * r

structure Parts (c l a d r : Int) : Prop where
  c0 : 0 ≤ c
  c1 : c < 32
  l0 : 0 ≤ l
  l1 : l < 32
  a0 : 0 ≤ a
  a1 : a < 2
  d0 : 0 ≤ d
  d1 : d < 2
  r0 : 0 ≤ r
  r1 : r < 8

theorem at_b {c l a d r : Int} (h : Parts c l a d r) : 0 ≤ at_ c l a d r ∧ at_ c l a d r < 32768 := by
  obtain ⟨_, _, _, _, _, _, _, _, _, _⟩ := h
  unfold at_; omega
theorem at_c {c l a d r : Int} (h : Parts c l a d r) : at_ c l a d r % 32 = c := by
  obtain ⟨_, _, _, _, _, _, _, _, _, _⟩ := h
  unfold at_; omega
theorem at_l {c l a d r : Int} (h : Parts c l a d r) : at_ c l a d r / 32 % 32 = l := by
  obtain ⟨_, _, _, _, _, _, _, _, _, _⟩ := h
  unfold at_; omega
theorem at_a {c l a d r : Int} (h : Parts c l a d r) : at_ c l a d r / 1024 % 2 = a := by
  obtain ⟨_, _, _, _, _, _, _, _, _, _⟩ := h
  unfold at_; omega
theorem at_d {c l a d r : Int} (h : Parts c l a d r) : at_ c l a d r / 2048 % 2 = d := by
  obtain ⟨_, _, _, _, _, _, _, _, _, _⟩ := h
  unfold at_; omega
theorem at_r {c l a d r : Int} (h : Parts c l a d r) : at_ c l a d r / 4096 = r := by
  obtain ⟨_, _, _, _, _, _, _, _, _, _⟩ := h
  unfold at_; omega
theorem at_dr {c l a d r : Int} (h : Parts c l a d r) : at_ c l a d r / 2048 % 16 = d + 2 * r := by
  obtain ⟨_, _, _, _, _, _, _, _, _, _⟩ := h
  unfold at_; omega
theorem of_parts (V : Int) (h0 : 0 ≤ V) (h1 : V < 32768) : ∃ c l a d r, Parts c l a d r ∧ V = at_ c l a d r :=
  ⟨V % 32, V / 32 % 32, V / 1024 % 2, V / 2048 % 2, V / 4096, ⟨by omega, by omega, by omega, by omega, by omega, by omega, by omega, by omega, by omega, by omega⟩, by unfold at_; omega⟩

theorem good_at {c l a d r T X : Int} {W : Bool} (h : Parts c l a d r) (hT : 0 ≤ T ∧ T < 32768) (hX : 0 ≤ X ∧ X < 8) : Good ⟨at_ c l a d r, T, X, W⟩ := good_of _ _ _ _ (at_b h) hT hX

theorem line_at {c l a d r c' l' a' d' r' X : Int} {W : Bool} (h : Parts c l a d r) (h' : Parts c' l' a' d' r') (hX : 0 ≤ X ∧ X < 8) : sLine ⟨at_ c l a d r, at_ c' l' a' d' r', X, W⟩ = ⟨at_ c' l a' d r, at_ c' l' a' d' r', X, W⟩ := by
  have hb := at_b h
  have hb' := at_b h'
  unfold sLine
  rw [right_good _ (good_at h hb' hX), put_eq _ _ _ (by simp only; omega) (by simp only; omega) (by decide)]
  simp (disch := omega) only [and_u16_1055, Int.ediv_one, Int.mul_one]
  rw [at_a h, at_c h, at_a h', at_c h']
  simp only [Scroll.mk.injEq, true_and, and_true]
  unfold at_; omega

theorem top_at {c l a d r c' l' a' d' r' X : Int} {W : Bool} (h : Parts c l a d r) (h' : Parts c' l' a' d' r') (hX : 0 ≤ X ∧ X < 8) : sTop ⟨at_ c l a d r, at_ c' l' a' d' r', X, W⟩ = ⟨at_ c l' a d' r', at_ c' l' a' d' r', X, W⟩ := by
  have hb := at_b h
  have hb' := at_b h'
  unfold sTop
  rw [right_good _ (good_at h hb' hX), put_eq _ _ _ (by simp only; omega) (by simp only; omega) (by decide)]
  simp (disch := omega) only [and_u16_31712]
  rw [at_l h, at_dr h, at_l h', at_dr h']
  simp only [Scroll.mk.injEq, true_and, and_true]
  unfold at_; omega

theorem right_at {c l a d r T X : Int} {W : Bool} (h : Parts c l a d r) (hT : 0 ≤ T ∧ T < 32768) (hX : 0 ≤ X ∧ X < 8) : ∃ c' a', Parts c' l a' d r ∧ sRight ⟨at_ c l a d r, T, X, W⟩ = ⟨at_ c' l a' d r, T, X, W⟩ ∧ c' + 32 * a' = (c + 32 * a + 1) % 64 := by
  have hb := at_b h
  unfold sRight
  rw [right_good _ (good_at h hT hX)]
  rw [bAndNot_eq (k := .u16) rfl (by simp only; omega) (Int.lt_of_lt_of_le (b := 32768) (by simp only; omega) (by decide)) (by decide) (by decide)]
  simp (disch := omega) only [and_u16_31, Int.ediv_one, Int.mul_one, beq_iff_eq]
  rw [at_c h]
  obtain ⟨_, _, _, _, _, _, _, _, _, _⟩ := h
  have h2 : (at_ c l a d r - c) / 1024 % 2 = a := by unfold at_; omega
  have h3 : 0 ≤ at_ c l a d r - c ∧ at_ c l a d r - c < 65536 := by unfold at_ at *; omega
  rw [xor_u16_1024 h3.1 h3.2, h2]
  by_cases hc : c = 31
  · rw [if_pos hc]
    refine ⟨0, 1 - a, ⟨by omega, by omega, by omega, by omega, by omega, by omega, by omega, by omega, by omega, by omega⟩, ?_, by omega⟩
    simp only [Scroll.mk.injEq, true_and, and_true]
    unfold at_; omega
  · rw [if_neg hc]
    refine ⟨c + 1, a, ⟨by omega, by omega, by omega, by omega, by omega, by omega, by omega, by omega, by omega, by omega⟩, ?_, by omega⟩
    simp (disch := omega) only [u16_in]
    simp only [Scroll.mk.injEq, true_and, and_true]
    unfold at_; omega

theorem rights (k : Nat) : ∀ {c l a d r T X : Int} {W : Bool}, Parts c l a d r → 0 ≤ T ∧ T < 32768 → 0 ≤ X ∧ X < 8 → ∃ c' a', Parts c' l a' d r ∧ it sRight k ⟨at_ c l a d r, T, X, W⟩ = ⟨at_ c' l a' d r, T, X, W⟩ ∧ c' + 32 * a' = (c + 32 * a + k) % 64 := by
  induction k with
  | zero =>
    intro c l a d r T X W h hT hX
    refine ⟨c, a, h, rfl, ?_⟩
    obtain ⟨_, _, _, _, _, _, _, _, _, _⟩ := h
    omega
  | succ k ih =>
    intro c l a d r T X W h hT hX
    obtain ⟨c1, a1, g, e, e1⟩ := right_at (W := W) h hT hX
    obtain ⟨c2, a2, g2, f, f1⟩ := ih (W := W) g hT hX
    refine ⟨c2, a2, g2, ?_, ?_⟩
    · show it sRight k (sRight _) = _
      rw [e, f]
    · rw [f1, e1]; omega

theorem down_at {c l a d r T X : Int} {W : Bool} (h : Parts c l a d r) (hl : l < 30) (hT : 0 ≤ T ∧ T < 32768) (hX : 0 ≤ X ∧ X < 8) : ∃ l' d' r', Parts c l' a d' r' ∧ l' < 30 ∧ sDown ⟨at_ c l a d r, T, X, W⟩ = ⟨at_ c l' a d' r', T, X, W⟩ ∧ 240 * d' + 8 * l' + r' = (240 * d + 8 * l + r + 1) % 480 := by
  have hb := at_b h
  unfold sDown
  rw [right_good _ (good_at h hT hX)]
  rw [bAndNot_eq (a := at_ c l a d r) (m := 28672) (k := .u16) rfl (by omega) (Int.lt_of_lt_of_le (b := 32768) (by omega) (by decide)) (by decide) (by decide)]
  simp (disch := omega) only [and_u16_28672]
  have hr8 : at_ c l a d r / 4096 % 8 = r := by
    rw [at_r h]; obtain ⟨_, _, _, _, _, _, _, _, _, _⟩ := h; omega
  rw [hr8]
  obtain ⟨_, _, _, _, _, _, _, _, _, _⟩ := h
  have e : at_ c l a d r - r * 4096 = c + 32 * l + 1024 * a + 2048 * d := by unfold at_; omega
  rw [e]
  have el : (c + 32 * l + 1024 * a + 2048 * d) / 32 % 32 = l := by omega
  rw [bAndNot_eq (k := .u16) rfl (by omega) (Int.lt_of_lt_of_le (b := 32768) (by omega) (by decide)) (by decide) (by decide)]
  simp (disch := omega) only [and_u16_992, beq_iff_eq, bne_iff_ne, ne_eq]
  rw [el]
  have ed : (c + 32 * l + 1024 * a + 2048 * d - l * 32) / 2048 % 2 = d := by omega
  rw [xor_u16_2048 (by omega) (by omega), ed]
  by_cases h7 : r = 7
  · rw [if_neg (by omega)]
    by_cases h29 : l = 29
    · rw [if_pos (by omega)]
      refine ⟨0, 1 - d, 0, ⟨by omega, by omega, by omega, by omega, by omega, by omega, by omega, by omega, by omega, by omega⟩, by omega, ?_, by omega⟩
      simp only [Scroll.mk.injEq, true_and, and_true]
      unfold at_; omega
    · rw [if_neg (by omega), if_neg (by omega)]
      refine ⟨l + 1, d, 0, ⟨by omega, by omega, by omega, by omega, by omega, by omega, by omega, by omega, by omega, by omega⟩, by omega, ?_, by omega⟩
      simp (disch := omega) only [u16_in]
      simp only [Scroll.mk.injEq, true_and, and_true]
      unfold at_; omega
  · rw [if_pos (by omega)]
    refine ⟨l, d, r + 1, ⟨by omega, by omega, by omega, by omega, by omega, by omega, by omega, by omega, by omega, by omega⟩, by omega, ?_, by omega⟩
    simp (disch := omega) only [u16_in]
    simp only [Scroll.mk.injEq, true_and, and_true]
    unfold at_; omega

theorem downs (k : Nat) : ∀ {c l a d r T X : Int} {W : Bool}, Parts c l a d r → l < 30 → 0 ≤ T ∧ T < 32768 → 0 ≤ X ∧ X < 8 → ∃ l' d' r', Parts c l' a d' r' ∧ l' < 30 ∧ it sDown k ⟨at_ c l a d r, T, X, W⟩ = ⟨at_ c l' a d' r', T, X, W⟩ ∧ 240 * d' + 8 * l' + r' = (240 * d + 8 * l + r + k) % 480 := by
  induction k with
  | zero =>
    intro c l a d r T X W h hl hT hX
    refine ⟨l, d, r, h, hl, rfl, ?_⟩
    obtain ⟨_, _, _, _, _, _, _, _, _, _⟩ := h
    omega
  | succ k ih =>
    intro c l a d r T X W h hl hT hX
    obtain ⟨l1, d1, r1, g, gl, e, e1⟩ := down_at (W := W) h hl hT hX
    obtain ⟨l2, d2, r2, g2, gl2, f, f1⟩ := ih (W := W) g gl hT hX
    refine ⟨l2, d2, r2, g2, gl2, ?_, ?_⟩
    · show it sDown k (sDown _) = _
      rw [e, f]
    · rw [f1, e1]; omega

theorem top_all (s : Scroll) (h : Fits s) (which px py : Int) (hw : 0 ≤ which ∧ which < 256) (hx : 0 ≤ px ∧ px < 256) (hy : 0 ≤ py ∧ py < 240) :
    ∃ T, (0 ≤ T ∧ T < 32768) ∧ Parts (px / 8) (py / 8) (which % 2) (which / 2 % 2) (py % 8) ∧ sTop (sLine (sOffset (sOffset (sControl (sLook s) which) px) py)) = ⟨at_ (px / 8) (py / 8) (which % 2) (which / 2 % 2) (py % 8), T, px % 8, false⟩ := by
  have hX := h.x0
  have hP : Parts (px / 8) (py / 8) (which % 2) (which / 2 % 2) (py % 8) := ⟨by omega, by omega, by omega, by omega, by omega, by omega, by omega, by omega, by omega, by omega⟩
  refine ⟨at_ (px / 8) (py / 8) (which % 2) (which / 2 % 2) (py % 8), at_b hP, hP, ?_⟩
  rw [look_eq s h]
  generalize hV : s.V % 32768 = V
  have hV0 : 0 ≤ V ∧ V < 32768 := by omega
  generalize hT : s.T % 32768 = T
  have hT0 : 0 ≤ T ∧ T < 32768 := by omega
  rw [control_eq _ (good_of _ _ _ _ hV0 hT0 (by omega)) which hw]
  have hT1 : 0 ≤ T - T / 1024 % 4 * 1024 + which % 4 * 1024 ∧ T - T / 1024 % 4 * 1024 + which % 4 * 1024 < 32768 := by omega
  have hT2 : (T - T / 1024 % 4 * 1024 + which % 4 * 1024) / 1024 % 4 = which % 4 := by omega
  simp only
  generalize T - T / 1024 % 4 * 1024 + which % 4 * 1024 = T1 at hT1 hT2
  rw [offset1_eq _ (good_of _ _ _ _ hV0 hT1 (by omega)) px hx rfl]
  simp only
  have hT3 : 0 ≤ T1 / 32 * 32 + px / 8 ∧ T1 / 32 * 32 + px / 8 < 32768 := by omega
  have hT4 : (T1 / 32 * 32 + px / 8) / 1024 % 4 = which % 4 := by omega
  have hT5 : (T1 / 32 * 32 + px / 8) % 32 = px / 8 := by omega
  generalize T1 / 32 * 32 + px / 8 = T2 at hT3 hT4 hT5
  rw [offset2_eq _ (good_of _ _ _ _ hV0 hT3 (by omega)) py (by omega) rfl]
  simp only
  rw [hT4, hT5]
  have e : px / 8 + py / 8 * 32 + which % 4 * 1024 + py % 8 * 4096 = at_ (px / 8) (py / 8) (which % 2) (which / 2 % 2) (py % 8) := by unfold at_; omega
  rw [e]
  obtain ⟨c, l, a, d, r, hp, rfl⟩ := of_parts V hV0.1 hV0.2
  rw [line_at hp hP (by omega), top_at ⟨hP.c0, hP.c1, hp.l0, hp.l1, hP.a0, hP.a1, hp.d0, hp.d1, hp.r0, hp.r1⟩ hP (by omega)]

theorem scrolls_true (s : Scroll) (hs : Fits s) (which px py rr dd : Int) (hw : 0 ≤ which ∧ which < 256) (hx : 0 ≤ px ∧ px < 256) (hy : 0 ≤ py ∧ py < 256) (hr : 0 ≤ rr ∧ rr < 256) (hd : 0 ≤ dd ∧ dd < 256) :
    FnSpec Try.prog 8 1000 [Scroll.enc s, .int .u8 which, .int .u8 px, .int .u8 py, .int .u8 rr, .int .u8 dd] [] (.bool true) [] := by
  have ey : Int.tmod py 240 = py % 240 := Int.tmod_eq_emod_of_nonneg hy.1
  obtain ⟨T, hT, hP, e⟩ := top_all s hs which px (py % 240) hw hx (by omega)
  have l1 := iter_for (S := Scroll) (n := rr) (g := sRight) (w := IntKind.u8.wrap) (step := lawScrolls_L1n s which px py rr dd) (fun i t => rfl) (u8_next rr hr.2) rr.toNat 0 (sTop (sLine (sOffset (sOffset (sControl (sLook s) which) px) (Int.tmod py 240)))) (by decide) (by omega)
  have l2 := iter_for (S := Scroll) (n := dd) (g := sDown) (w := IntKind.u8.wrap) (step := lawScrolls_L2n s which px py rr dd (rr, it sRight rr.toNat (sTop (sLine (sOffset (sOffset (sControl (sLook s) which) px) (Int.tmod py 240)))))) (fun i t => rfl) (u8_next dd hd.2) dd.toNat 0 (it sRight rr.toNat (sTop (sLine (sOffset (sOffset (sControl (sLook s) which) px) (Int.tmod py 240))))) (by decide) (by omega)
  have hk : ((rr.toNat : Nat) : Int) = rr := Int.toNat_of_nonneg hr.1
  have hk2 : ((dd.toNat : Nat) : Int) = dd := Int.toNat_of_nonneg hd.1
  have hX : 0 ≤ px % 8 ∧ px % 8 < 8 := by omega
  obtain ⟨c1, a1, g1, e1, f1⟩ := rights rr.toNat (W := false) hP hT hX
  obtain ⟨l3, d3, r3, g3, gl3, e3, f3⟩ := downs dd.toNat (W := false) g1 (by omega) hT hX
  have key : it sDown dd.toNat (it sRight rr.toNat (sTop (sLine (sOffset (sOffset (sControl (sLook s) which) px) (Int.tmod py 240))))) = ⟨at_ c1 l3 a1 d3 r3, T, px % 8, false⟩ := by rw [ey, e, e1, e3]
  have hb := at_b g3
  have hof : rOf (at_ c1 l3 a1 d3 r3) = ⟨c1, l3, a1, d3, r3⟩ := by
    have h8 : at_ c1 l3 a1 d3 r3 / 4096 % 8 = r3 := by rw [at_r g3]; have := g3.r0; have := g3.r1; omega
    rw [rOf_eq _ hb.1 hb.2, at_c g3, at_l g3, at_a g3, at_d g3, h8]
  have := lawScrolls_p1 s which px py rr dd _ _ l1 _ _ l2 awake_t ?_ ?_
  · rw [key] at this
    exact this
  · simp only
    rw [key]
    simp only
    rw [i64_in (at_ c1 l3 a1 d3 r3) (by omega), hof]
    obtain ⟨_, _, _, _, _, _, _, _, _, _⟩ := g3
    simp (disch := omega) only [and_u8_1, Int.ediv_one, Int.mul_one, i64_in, Int.tmod_eq_emod_of_nonneg, beq_iff_eq]
    omega
  · simp only
    rw [key]
    simp only
    rw [i64_in (at_ c1 l3 a1 d3 r3) (by omega), hof]
    obtain ⟨_, _, _, _, _, _, _, _, _, _⟩ := g3
    rw [ey]
    simp (disch := omega) only [and_u8_1, shr_u8_1, Int.ediv_one, Int.mul_one, i64_in, Int.tmod_eq_emod_of_nonneg, beq_iff_eq]
    omega

end Go.Proofs.Ytonbliaaicacgaa
