/-
  Layer 8: the law on flags that no operation touches. Written by gen_ao.py. No condition.
-/
import Derived.Test.YtfjeifmenlnkkaaAN
import Derived.Test.YtfjeifmenlnkkaaAL
namespace Go.Proofs.Ytfjeifmenlnkkaa
open Go VX IntWalk
set_option maxRecDepth 100000
set_option linter.unusedSimpArgs false
set_option linter.unusedVariables false

theorem xor_same {x y m : Int} (hx : 0 ≤ x ∧ x < 256) (hy : 0 ≤ y ∧ y < 256) (hm : 0 ≤ m ∧ m < 256) (h : bAnd .u8 x m = bAnd .u8 y m) : ((bAnd .u8 (bXor .u8 x y) m : Int) == 0) = true := by
  obtain ⟨x, rfl⟩ := Int.eq_ofNat_of_zero_le hx.1
  obtain ⟨y, rfl⟩ := Int.eq_ofNat_of_zero_le hy.1
  obtain ⟨m, rfl⟩ := Int.eq_ofNat_of_zero_le hm.1
  have hx : x < 256 := by omega
  have hy : y < 256 := by omega
  have hm : m < 256 := by omega
  rw [and_nat (k := .u8) rfl hx hm, and_nat (k := .u8) rfl hy hm] at h
  have h : x &&& m = y &&& m := by omega
  rw [xor_nat (k := .u8) rfl hx hy, and_nat (k := .u8) rfl (Nat.xor_lt_two_pow (n := 8) hx hy) hm, Nat.and_xor_distrib_right, h, Nat.xor_self]
  rfl
theorem and_60 {a : Int} (h0 : 0 ≤ a) (h1 : a < 256) : bAnd .u8 a 60 = a / 4 % 16 * 4 := by
  have := bAnd_field (k := .u8) rfl 2 4 (m := 60) rfl h0 h1 (by decide)
  simpa using this
theorem and_56 {a : Int} (h0 : 0 ≤ a) (h1 : a < 256) : bAnd .u8 a 56 = a / 8 % 8 * 8 := by
  have := bAnd_field (k := .u8) rfl 3 3 (m := 56) rfl h0 h1 (by decide)
  simpa using this
theorem and_48 {a : Int} (h0 : 0 ≤ a) (h1 : a < 256) : bAnd .u8 a 48 = a / 16 % 4 * 16 := by
  have := bAnd_field (k := .u8) rfl 4 2 (m := 48) rfl h0 h1 (by decide)
  simpa using this
theorem and_52 {a : Int} (h0 : 0 ≤ a) (h1 : a < 256) : bAnd .u8 a 52 = a / 4 % 2 * 4 + a / 16 % 4 * 16 := by
  have e : bAnd .u8 a 52 = bAnd .u8 a 4 + bAnd .u8 a 48 := by
    obtain ⟨n, rfl⟩ := Int.eq_ofNat_of_zero_le h0
    have hn : n < 256 := by omega
    have e1 := and_nat (k := .u8) rfl hn (show 52 < 256 by decide)
    have e2 := and_nat (k := .u8) rfl hn (show 4 < 256 by decide)
    have e3 := and_nat (k := .u8) rfl hn (show 48 < 256 by decide)
    have e4 : n &&& 52 = (n &&& 4) + (n &&& 48) := by
      rw [show 52 = 4 ||| 48 from rfl, Nat.and_or_distrib_left, or_add]
      have : (n &&& 4) &&& (n &&& 48) = n &&& (4 &&& 48) := by
        apply Nat.eq_of_testBit_eq
        intro i
        simp only [Nat.testBit_and]
        cases n.testBit i <;> simp
      rw [this]; simp
    have e5 : ((n &&& 52 : Nat) : Int) = ((n &&& 4 : Nat) : Int) + ((n &&& 48 : Nat) : Int) := by rw [e4]; exact Int.natCast_add _ _
    exact e1.trans (e5.trans (by rw [← e2, ← e3]; rfl))
  rw [e, and_4 h0 h1, and_48 h0 h1]

theorem still_60 (b0 b1 b2 b3 b4 b5 b6 b7 c0 c1 c6 c7 : Bool) : ((bAnd .u8 (bXor .u8 (pk c0 c1 b2 b3 b4 b5 c6 c7) (pk b0 b1 b2 b3 b4 b5 b6 b7)) 60 : Int) == 0) = true := by
  have h1 := pk_b c0 c1 b2 b3 b4 b5 c6 c7
  have h2 := pk_b b0 b1 b2 b3 b4 b5 b6 b7
  refine xor_same h1 h2 (by decide) ?_
  rw [and_60 h1.1 h1.2, and_60 h2.1 h2.2]
  have := b2i_b b0
  have := b2i_b b1
  have := b2i_b b2
  have := b2i_b b3
  have := b2i_b b4
  have := b2i_b b5
  have := b2i_b b6
  have := b2i_b b7
  have := b2i_b c0
  have := b2i_b c1
  have := b2i_b c6
  have := b2i_b c7
  unfold pk; omega

theorem still_56 (b0 b1 b2 b3 b4 b5 b6 b7 c0 c1 c2 c6 c7 : Bool) : ((bAnd .u8 (bXor .u8 (pk c0 c1 c2 b3 b4 b5 c6 c7) (pk b0 b1 b2 b3 b4 b5 b6 b7)) 56 : Int) == 0) = true := by
  have h1 := pk_b c0 c1 c2 b3 b4 b5 c6 c7
  have h2 := pk_b b0 b1 b2 b3 b4 b5 b6 b7
  refine xor_same h1 h2 (by decide) ?_
  rw [and_56 h1.1 h1.2, and_56 h2.1 h2.2]
  have := b2i_b b0
  have := b2i_b b1
  have := b2i_b b2
  have := b2i_b b3
  have := b2i_b b4
  have := b2i_b b5
  have := b2i_b b6
  have := b2i_b b7
  have := b2i_b c0
  have := b2i_b c1
  have := b2i_b c2
  have := b2i_b c6
  have := b2i_b c7
  unfold pk; omega

theorem still_52 (b0 b1 b2 b3 b4 b5 b6 b7 c0 c1 c3 c6 c7 : Bool) : ((bAnd .u8 (bXor .u8 (pk c0 c1 b2 c3 b4 b5 c6 c7) (pk b0 b1 b2 b3 b4 b5 b6 b7)) 52 : Int) == 0) = true := by
  have h1 := pk_b c0 c1 b2 c3 b4 b5 c6 c7
  have h2 := pk_b b0 b1 b2 b3 b4 b5 b6 b7
  refine xor_same h1 h2 (by decide) ?_
  rw [and_52 h1.1 h1.2, and_52 h2.1 h2.2]
  have := b2i_b b0
  have := b2i_b b1
  have := b2i_b b2
  have := b2i_b b3
  have := b2i_b b4
  have := b2i_b b5
  have := b2i_b b6
  have := b2i_b b7
  have := b2i_b c0
  have := b2i_b c1
  have := b2i_b c3
  have := b2i_b c6
  have := b2i_b c7
  unfold pk; omega

/-- The four flags in the middle are these. -/
def Mid (b2 b3 b4 b5 : Bool) (u : Unit) : Prop := ∃ c0 c1 c6 c7, u.P = pk c0 c1 b2 b3 b4 b5 c6 c7
theorem Mid.still {b0 b1 b2 b3 b4 b5 b6 b7 : Bool} {u : Unit} (h : Mid b2 b3 b4 b5 u) : ((bAnd .u8 (bXor .u8 u.P (pk b0 b1 b2 b3 b4 b5 b6 b7)) 60 : Int) == 0) = true := by
  obtain ⟨c0, c1, c6, c7, e⟩ := h
  rw [e]; exact still_60 _ _ _ _ _ _ _ _ _ _ _ _
variable {b2 b3 b4 b5 : Bool} {u : Unit}

theorem Mid.f1 (h : Mid b2 b3 b4 b5 u) (on : Bool) : Mid b2 b3 b4 b5 (uFlag u 1 on) := by
  obtain ⟨A, X, Y, S, P⟩ := u
  obtain ⟨c0, c1, c6, c7, e⟩ := h
  simp only at e
  subst e
  rw [uFlag_1]
  exact ⟨on, c1, c6, c7, rfl⟩
theorem Mid.f2 (h : Mid b2 b3 b4 b5 u) (on : Bool) : Mid b2 b3 b4 b5 (uFlag u 2 on) := by
  obtain ⟨A, X, Y, S, P⟩ := u
  obtain ⟨c0, c1, c6, c7, e⟩ := h
  simp only at e
  subst e
  rw [uFlag_2]
  exact ⟨c0, on, c6, c7, rfl⟩
theorem Mid.f64 (h : Mid b2 b3 b4 b5 u) (on : Bool) : Mid b2 b3 b4 b5 (uFlag u 64 on) := by
  obtain ⟨A, X, Y, S, P⟩ := u
  obtain ⟨c0, c1, c6, c7, e⟩ := h
  simp only at e
  subst e
  rw [uFlag_64]
  exact ⟨c0, c1, on, c7, rfl⟩
theorem Mid.f128 (h : Mid b2 b3 b4 b5 u) (on : Bool) : Mid b2 b3 b4 b5 (uFlag u 128 on) := by
  obtain ⟨A, X, Y, S, P⟩ := u
  obtain ⟨c0, c1, c6, c7, e⟩ := h
  simp only at e
  subst e
  rw [uFlag_128]
  exact ⟨c0, c1, c6, on, rfl⟩
theorem Mid.sign (h : Mid b2 b3 b4 b5 u) (m : Int) : Mid b2 b3 b4 b5 (uSign u m) := (h.f128 _).f2 _
theorem Mid.load (h : Mid b2 b3 b4 b5 u) (m : Int) : Mid b2 b3 b4 b5 (uLoad u m) := Mid.sign (u := ⟨m, u.X, u.Y, u.S, u.P⟩) h m
theorem Mid.adc (h : Mid b2 b3 b4 b5 u) (m : Int) : Mid b2 b3 b4 b5 (u_adc u m) := ((h.f1 _).f64 _).load _
theorem Mid.comp (h : Mid b2 b3 b4 b5 u) (r m : Int) : Mid b2 b3 b4 b5 (uCompare u r m) := (h.f1 _).sign _
theorem Mid.ldx (h : Mid b2 b3 b4 b5 u) (m : Int) : Mid b2 b3 b4 b5 (u_ldx u m) := Mid.sign (u := ⟨u.A, m, u.Y, u.S, u.P⟩) h m
theorem Mid.ldy (h : Mid b2 b3 b4 b5 u) (m : Int) : Mid b2 b3 b4 b5 (u_ldy u m) := Mid.sign (u := ⟨u.A, u.X, m, u.S, u.P⟩) h m
theorem Mid.lax (h : Mid b2 b3 b4 b5 u) (m : Int) : Mid b2 b3 b4 b5 (u_lax u m) := Mid.load (u := ⟨u.A, m, u.Y, u.S, u.P⟩) h m
theorem Mid.shifted (h : Mid b2 b3 b4 b5 u) (m : Int) (out : Bool) : Mid b2 b3 b4 b5 (uShifted u m out).1 := (h.f1 _).sign _
theorem Mid.anc (h : Mid b2 b3 b4 b5 u) (m : Int) : Mid b2 b3 b4 b5 (u_anc u m) := Mid.f1 (u := u_and u m) (h.load _) _
theorem Mid.alr (h : Mid b2 b3 b4 b5 u) (m : Int) : Mid b2 b3 b4 b5 (u_alr u m) := Mid.shifted (u := u_and u m) (h.load _) _ _
theorem Mid.axs (h : Mid b2 b3 b4 b5 u) (m : Int) : Mid b2 b3 b4 b5 (u_axs u m) := (h.comp _ _).ldx _
theorem Mid.las (h : Mid b2 b3 b4 b5 u) (m : Int) : Mid b2 b3 b4 b5 (u_las u m) := Mid.lax (u := ⟨u.A, u.X, u.Y, bAnd .u8 u.S m, u.P⟩) h _

theorem Mid.r0 (h : Mid b2 b3 b4 b5 u) (m : Int) : Mid b2 b3 b4 b5 (uRead_0 u m) := h
theorem Mid.r1 (h : Mid b2 b3 b4 b5 u) (m : Int) : Mid b2 b3 b4 b5 (uRead_1 u m) := h.load _
theorem Mid.r2 (h : Mid b2 b3 b4 b5 u) (m : Int) : Mid b2 b3 b4 b5 (uRead_2 u m) := h.load _
theorem Mid.r3 (h : Mid b2 b3 b4 b5 u) (m : Int) : Mid b2 b3 b4 b5 (uRead_3 u m) := h.load _
theorem Mid.r4 (h : Mid b2 b3 b4 b5 u) (m : Int) : Mid b2 b3 b4 b5 (uRead_4 u m) := h.adc _
theorem Mid.r5 (h : Mid b2 b3 b4 b5 u) (m : Int) : Mid b2 b3 b4 b5 (uRead_5 u m) := h.adc _
theorem Mid.r6 (h : Mid b2 b3 b4 b5 u) (m : Int) : Mid b2 b3 b4 b5 (uRead_6 u m) := h.comp _ _
theorem Mid.r7 (h : Mid b2 b3 b4 b5 u) (m : Int) : Mid b2 b3 b4 b5 (uRead_7 u m) := h.comp _ _
theorem Mid.r8 (h : Mid b2 b3 b4 b5 u) (m : Int) : Mid b2 b3 b4 b5 (uRead_8 u m) := h.comp _ _
theorem Mid.r9 (h : Mid b2 b3 b4 b5 u) (m : Int) : Mid b2 b3 b4 b5 (uRead_9 u m) := h.load _
theorem Mid.r10 (h : Mid b2 b3 b4 b5 u) (m : Int) : Mid b2 b3 b4 b5 (uRead_10 u m) := h.ldx _
theorem Mid.r11 (h : Mid b2 b3 b4 b5 u) (m : Int) : Mid b2 b3 b4 b5 (uRead_11 u m) := h.ldy _
theorem Mid.r12 (h : Mid b2 b3 b4 b5 u) (m : Int) : Mid b2 b3 b4 b5 (uRead_12 u m) := ((h.f128 _).f64 _).f2 _
theorem Mid.r13 (h : Mid b2 b3 b4 b5 u) (m : Int) : Mid b2 b3 b4 b5 (uRead_13 u m) := h.lax _
theorem Mid.r14 (h : Mid b2 b3 b4 b5 u) (m : Int) : Mid b2 b3 b4 b5 (uRead_14 u m) := h.anc _
theorem Mid.r15 (h : Mid b2 b3 b4 b5 u) (m : Int) : Mid b2 b3 b4 b5 (uRead_15 u m) := h.alr _
theorem Mid.r16 (h : Mid b2 b3 b4 b5 u) (m : Int) : Mid b2 b3 b4 b5 (uRead_16 u m) := ((h.load _).f1 _).f64 _
theorem Mid.r17 (h : Mid b2 b3 b4 b5 u) (m : Int) : Mid b2 b3 b4 b5 (uRead_17 u m) := h.axs _
theorem Mid.r18 (h : Mid b2 b3 b4 b5 u) (m : Int) : Mid b2 b3 b4 b5 (uRead_18 u m) := h.las _
theorem Mid.w19 (h : Mid b2 b3 b4 b5 u) (m : Int) : Mid b2 b3 b4 b5 (uChange_19 u m).1 := h.shifted _ _
theorem Mid.w20 (h : Mid b2 b3 b4 b5 u) (m : Int) : Mid b2 b3 b4 b5 (uChange_20 u m).1 := h.shifted _ _
theorem Mid.w21 (h : Mid b2 b3 b4 b5 u) (m : Int) : Mid b2 b3 b4 b5 (uChange_21 u m).1 := h.shifted _ _
theorem Mid.w22 (h : Mid b2 b3 b4 b5 u) (m : Int) : Mid b2 b3 b4 b5 (uChange_22 u m).1 := h.shifted _ _
theorem Mid.w23 (h : Mid b2 b3 b4 b5 u) (m : Int) : Mid b2 b3 b4 b5 (uChange_23 u m).1 := h.sign _
theorem Mid.w24 (h : Mid b2 b3 b4 b5 u) (m : Int) : Mid b2 b3 b4 b5 (uChange_24 u m).1 := h.sign _
theorem Mid.w25 (h : Mid b2 b3 b4 b5 u) (m : Int) : Mid b2 b3 b4 b5 (uChange_25 u m).1 := Mid.r1 (h.w19 m) _
theorem Mid.w26 (h : Mid b2 b3 b4 b5 u) (m : Int) : Mid b2 b3 b4 b5 (uChange_26 u m).1 := Mid.r2 (h.w21 m) _
theorem Mid.w27 (h : Mid b2 b3 b4 b5 u) (m : Int) : Mid b2 b3 b4 b5 (uChange_27 u m).1 := Mid.r3 (h.w20 m) _
theorem Mid.w28 (h : Mid b2 b3 b4 b5 u) (m : Int) : Mid b2 b3 b4 b5 (uChange_28 u m).1 := Mid.r4 (h.w22 m) _
theorem Mid.w29 (h : Mid b2 b3 b4 b5 u) (m : Int) : Mid b2 b3 b4 b5 (uChange_29 u m).1 := Mid.r6 (h.w24 m) _
theorem Mid.w30 (h : Mid b2 b3 b4 b5 u) (m : Int) : Mid b2 b3 b4 b5 (uChange_30 u m).1 := Mid.r5 (h.w23 m) _
theorem Mid.s19 (h : Mid b2 b3 b4 b5 u) : Mid b2 b3 b4 b5 (uSelf_19 u) := h.w19 _
theorem Mid.s20 (h : Mid b2 b3 b4 b5 u) : Mid b2 b3 b4 b5 (uSelf_20 u) := h.w20 _
theorem Mid.s21 (h : Mid b2 b3 b4 b5 u) : Mid b2 b3 b4 b5 (uSelf_21 u) := h.w21 _
theorem Mid.s22 (h : Mid b2 b3 b4 b5 u) : Mid b2 b3 b4 b5 (uSelf_22 u) := h.w22 _
theorem Mid.s35 (h : Mid b2 b3 b4 b5 u) : Mid b2 b3 b4 b5 (uSelf_35 u) := h.ldx _
theorem Mid.s36 (h : Mid b2 b3 b4 b5 u) : Mid b2 b3 b4 b5 (uSelf_36 u) := h.ldy _
theorem Mid.s37 (h : Mid b2 b3 b4 b5 u) : Mid b2 b3 b4 b5 (uSelf_37 u) := h.load _
theorem Mid.s38 (h : Mid b2 b3 b4 b5 u) : Mid b2 b3 b4 b5 (uSelf_38 u) := h.load _
theorem Mid.s39 (h : Mid b2 b3 b4 b5 u) : Mid b2 b3 b4 b5 (uSelf_39 u) := h.ldx _
theorem Mid.s40 (h : Mid b2 b3 b4 b5 u) : Mid b2 b3 b4 b5 (uSelf_40 u) := h
theorem Mid.s41 (h : Mid b2 b3 b4 b5 u) : Mid b2 b3 b4 b5 (uSelf_41 u) := h.ldx _
theorem Mid.s42 (h : Mid b2 b3 b4 b5 u) : Mid b2 b3 b4 b5 (uSelf_42 u) := h.ldy _
theorem Mid.s43 (h : Mid b2 b3 b4 b5 u) : Mid b2 b3 b4 b5 (uSelf_43 u) := h.ldx _
theorem Mid.s44 (h : Mid b2 b3 b4 b5 u) : Mid b2 b3 b4 b5 (uSelf_44 u) := h.ldy _
theorem Mid.s45 (h : Mid b2 b3 b4 b5 u) : Mid b2 b3 b4 b5 (uSelf_45 u) := h.f1 _
theorem Mid.s46 (h : Mid b2 b3 b4 b5 u) : Mid b2 b3 b4 b5 (uSelf_46 u) := h.f1 _
theorem Mid.s49 (h : Mid b2 b3 b4 b5 u) : Mid b2 b3 b4 b5 (uSelf_49 u) := h.f64 _

theorem flags_true (u : Unit) (hu : Bytes u) (op m : Int) (ho : 0 ≤ op ∧ op < 256) (hm : 0 ≤ m ∧ m < 256) : FnSpec Try.prog 13 1000 [Unit.enc u, .int .u8 op, .int .u8 m] [] (.bool true) [] := by
  obtain ⟨A, X, Y, S, P⟩ := u
  obtain ⟨ha, hx, hy, hs, hp⟩ := hu
  obtain ⟨b0, b1, b2, b3, b4, b5, b6, b7, hP⟩ := pk_of P hp
  simp only at ha hx hy hs hp hP
  subst hP
  have eo : own ⟨A, X, Y, S, pk b0 b1 b2 b3 b4 b5 b6 b7⟩ = ⟨A, X, Y, S, pk b0 b1 b2 b3 b4 b5 b6 b7⟩ := own_eq _ _ _ _ _ ha hx hy hs hp
  have h : Mid b2 b3 b4 b5 ⟨A, X, Y, S, pk b0 b1 b2 b3 b4 b5 b6 b7⟩ := ⟨b0, b1, b6, b7, rfl⟩
  by_cases h1 : op < 70
  · by_cases h2 : op < 35
    · obtain rfl | rfl | rfl | rfl | rfl | rfl | rfl | rfl | rfl | rfl | rfl | rfl | rfl | rfl | rfl | rfl | rfl | rfl | rfl | rfl | rfl | rfl | rfl | rfl | rfl | rfl | rfl | rfl | rfl | rfl | rfl | rfl | rfl | rfl | rfl : op = 0 ∨ op = 1 ∨ op = 2 ∨ op = 3 ∨ op = 4 ∨ op = 5 ∨ op = 6 ∨ op = 7 ∨ op = 8 ∨ op = 9 ∨ op = 10 ∨ op = 11 ∨ op = 12 ∨ op = 13 ∨ op = 14 ∨ op = 15 ∨ op = 16 ∨ op = 17 ∨ op = 18 ∨ op = 19 ∨ op = 20 ∨ op = 21 ∨ op = 22 ∨ op = 23 ∨ op = 24 ∨ op = 25 ∨ op = 26 ∨ op = 27 ∨ op = 28 ∨ op = 29 ∨ op = 30 ∨ op = 31 ∨ op = 32 ∨ op = 33 ∨ op = 34 := by omega
      · have := lawFlags_0_p1 ⟨A, X, Y, S, pk b0 b1 b2 b3 b4 b5 b6 b7⟩ m awake_t (h.r0 m).still (h).still
        rwa [show ((bAnd .u8 (bXor .u8 (uSelf_0 ⟨A, X, Y, S, pk b0 b1 b2 b3 b4 b5 b6 b7⟩).P (pk b0 b1 b2 b3 b4 b5 b6 b7)) 60 : Int) == 0) = true from (h).still] at this
      · have := lawFlags_1_p1 ⟨A, X, Y, S, pk b0 b1 b2 b3 b4 b5 b6 b7⟩ m awake_t (h.r1 m).still (h).still
        rwa [show ((bAnd .u8 (bXor .u8 (uSelf_1 ⟨A, X, Y, S, pk b0 b1 b2 b3 b4 b5 b6 b7⟩).P (pk b0 b1 b2 b3 b4 b5 b6 b7)) 60 : Int) == 0) = true from (h).still] at this
      · have := lawFlags_2_p1 ⟨A, X, Y, S, pk b0 b1 b2 b3 b4 b5 b6 b7⟩ m awake_t (h.r2 m).still (h).still
        rwa [show ((bAnd .u8 (bXor .u8 (uSelf_2 ⟨A, X, Y, S, pk b0 b1 b2 b3 b4 b5 b6 b7⟩).P (pk b0 b1 b2 b3 b4 b5 b6 b7)) 60 : Int) == 0) = true from (h).still] at this
      · have := lawFlags_3_p1 ⟨A, X, Y, S, pk b0 b1 b2 b3 b4 b5 b6 b7⟩ m awake_t (h.r3 m).still (h).still
        rwa [show ((bAnd .u8 (bXor .u8 (uSelf_3 ⟨A, X, Y, S, pk b0 b1 b2 b3 b4 b5 b6 b7⟩).P (pk b0 b1 b2 b3 b4 b5 b6 b7)) 60 : Int) == 0) = true from (h).still] at this
      · have := lawFlags_4_p1 ⟨A, X, Y, S, pk b0 b1 b2 b3 b4 b5 b6 b7⟩ m awake_t (h.r4 m).still (h).still
        rwa [show ((bAnd .u8 (bXor .u8 (uSelf_4 ⟨A, X, Y, S, pk b0 b1 b2 b3 b4 b5 b6 b7⟩).P (pk b0 b1 b2 b3 b4 b5 b6 b7)) 60 : Int) == 0) = true from (h).still] at this
      · have := lawFlags_5_p1 ⟨A, X, Y, S, pk b0 b1 b2 b3 b4 b5 b6 b7⟩ m awake_t (h.r5 m).still (h).still
        rwa [show ((bAnd .u8 (bXor .u8 (uSelf_5 ⟨A, X, Y, S, pk b0 b1 b2 b3 b4 b5 b6 b7⟩).P (pk b0 b1 b2 b3 b4 b5 b6 b7)) 60 : Int) == 0) = true from (h).still] at this
      · have := lawFlags_6_p1 ⟨A, X, Y, S, pk b0 b1 b2 b3 b4 b5 b6 b7⟩ m awake_t (h.r6 m).still (h).still
        rwa [show ((bAnd .u8 (bXor .u8 (uSelf_6 ⟨A, X, Y, S, pk b0 b1 b2 b3 b4 b5 b6 b7⟩).P (pk b0 b1 b2 b3 b4 b5 b6 b7)) 60 : Int) == 0) = true from (h).still] at this
      · have := lawFlags_7_p1 ⟨A, X, Y, S, pk b0 b1 b2 b3 b4 b5 b6 b7⟩ m awake_t (h.r7 m).still (h).still
        rwa [show ((bAnd .u8 (bXor .u8 (uSelf_7 ⟨A, X, Y, S, pk b0 b1 b2 b3 b4 b5 b6 b7⟩).P (pk b0 b1 b2 b3 b4 b5 b6 b7)) 60 : Int) == 0) = true from (h).still] at this
      · have := lawFlags_8_p1 ⟨A, X, Y, S, pk b0 b1 b2 b3 b4 b5 b6 b7⟩ m awake_t (h.r8 m).still (h).still
        rwa [show ((bAnd .u8 (bXor .u8 (uSelf_8 ⟨A, X, Y, S, pk b0 b1 b2 b3 b4 b5 b6 b7⟩).P (pk b0 b1 b2 b3 b4 b5 b6 b7)) 60 : Int) == 0) = true from (h).still] at this
      · have := lawFlags_9_p1 ⟨A, X, Y, S, pk b0 b1 b2 b3 b4 b5 b6 b7⟩ m awake_t (h.r9 m).still (h).still
        rwa [show ((bAnd .u8 (bXor .u8 (uSelf_9 ⟨A, X, Y, S, pk b0 b1 b2 b3 b4 b5 b6 b7⟩).P (pk b0 b1 b2 b3 b4 b5 b6 b7)) 60 : Int) == 0) = true from (h).still] at this
      · have := lawFlags_10_p1 ⟨A, X, Y, S, pk b0 b1 b2 b3 b4 b5 b6 b7⟩ m awake_t (h.r10 m).still (h).still
        rwa [show ((bAnd .u8 (bXor .u8 (uSelf_10 ⟨A, X, Y, S, pk b0 b1 b2 b3 b4 b5 b6 b7⟩).P (pk b0 b1 b2 b3 b4 b5 b6 b7)) 60 : Int) == 0) = true from (h).still] at this
      · have := lawFlags_11_p1 ⟨A, X, Y, S, pk b0 b1 b2 b3 b4 b5 b6 b7⟩ m awake_t (h.r11 m).still (h).still
        rwa [show ((bAnd .u8 (bXor .u8 (uSelf_11 ⟨A, X, Y, S, pk b0 b1 b2 b3 b4 b5 b6 b7⟩).P (pk b0 b1 b2 b3 b4 b5 b6 b7)) 60 : Int) == 0) = true from (h).still] at this
      · have := lawFlags_12_p1 ⟨A, X, Y, S, pk b0 b1 b2 b3 b4 b5 b6 b7⟩ m awake_t (h.r12 m).still (h).still
        rwa [show ((bAnd .u8 (bXor .u8 (uSelf_12 ⟨A, X, Y, S, pk b0 b1 b2 b3 b4 b5 b6 b7⟩).P (pk b0 b1 b2 b3 b4 b5 b6 b7)) 60 : Int) == 0) = true from (h).still] at this
      · have := lawFlags_13_p1 ⟨A, X, Y, S, pk b0 b1 b2 b3 b4 b5 b6 b7⟩ m awake_t (h.r13 m).still (h).still
        rwa [show ((bAnd .u8 (bXor .u8 (uSelf_13 ⟨A, X, Y, S, pk b0 b1 b2 b3 b4 b5 b6 b7⟩).P (pk b0 b1 b2 b3 b4 b5 b6 b7)) 60 : Int) == 0) = true from (h).still] at this
      · have := lawFlags_14_p1 ⟨A, X, Y, S, pk b0 b1 b2 b3 b4 b5 b6 b7⟩ m awake_t (h.r14 m).still (h).still
        rwa [show ((bAnd .u8 (bXor .u8 (uSelf_14 ⟨A, X, Y, S, pk b0 b1 b2 b3 b4 b5 b6 b7⟩).P (pk b0 b1 b2 b3 b4 b5 b6 b7)) 60 : Int) == 0) = true from (h).still] at this
      · have := lawFlags_15_p1 ⟨A, X, Y, S, pk b0 b1 b2 b3 b4 b5 b6 b7⟩ m awake_t (h.r15 m).still (h).still
        rwa [show ((bAnd .u8 (bXor .u8 (uSelf_15 ⟨A, X, Y, S, pk b0 b1 b2 b3 b4 b5 b6 b7⟩).P (pk b0 b1 b2 b3 b4 b5 b6 b7)) 60 : Int) == 0) = true from (h).still] at this
      · have := lawFlags_16_p1 ⟨A, X, Y, S, pk b0 b1 b2 b3 b4 b5 b6 b7⟩ m awake_t (h.r16 m).still (h).still
        rwa [show ((bAnd .u8 (bXor .u8 (uSelf_16 ⟨A, X, Y, S, pk b0 b1 b2 b3 b4 b5 b6 b7⟩).P (pk b0 b1 b2 b3 b4 b5 b6 b7)) 60 : Int) == 0) = true from (h).still] at this
      · have := lawFlags_17_p1 ⟨A, X, Y, S, pk b0 b1 b2 b3 b4 b5 b6 b7⟩ m awake_t (h.r17 m).still (h).still
        rwa [show ((bAnd .u8 (bXor .u8 (uSelf_17 ⟨A, X, Y, S, pk b0 b1 b2 b3 b4 b5 b6 b7⟩).P (pk b0 b1 b2 b3 b4 b5 b6 b7)) 60 : Int) == 0) = true from (h).still] at this
      · have := lawFlags_18_p1 ⟨A, X, Y, S, pk b0 b1 b2 b3 b4 b5 b6 b7⟩ m awake_t (h.r18 m).still (h).still
        rwa [show ((bAnd .u8 (bXor .u8 (uSelf_18 ⟨A, X, Y, S, pk b0 b1 b2 b3 b4 b5 b6 b7⟩).P (pk b0 b1 b2 b3 b4 b5 b6 b7)) 60 : Int) == 0) = true from (h).still] at this
      · have := lawFlags_19_p1 ⟨A, X, Y, S, pk b0 b1 b2 b3 b4 b5 b6 b7⟩ m awake_t (h).still (h.w19 m).still
        rwa [show ((bAnd .u8 (bXor .u8 (uSelf_19 ⟨A, X, Y, S, pk b0 b1 b2 b3 b4 b5 b6 b7⟩).P (pk b0 b1 b2 b3 b4 b5 b6 b7)) 60 : Int) == 0) = true from (h.s19).still] at this
      · have := lawFlags_20_p1 ⟨A, X, Y, S, pk b0 b1 b2 b3 b4 b5 b6 b7⟩ m awake_t (h).still (h.w20 m).still
        rwa [show ((bAnd .u8 (bXor .u8 (uSelf_20 ⟨A, X, Y, S, pk b0 b1 b2 b3 b4 b5 b6 b7⟩).P (pk b0 b1 b2 b3 b4 b5 b6 b7)) 60 : Int) == 0) = true from (h.s20).still] at this
      · have := lawFlags_21_p1 ⟨A, X, Y, S, pk b0 b1 b2 b3 b4 b5 b6 b7⟩ m awake_t (h).still (h.w21 m).still
        rwa [show ((bAnd .u8 (bXor .u8 (uSelf_21 ⟨A, X, Y, S, pk b0 b1 b2 b3 b4 b5 b6 b7⟩).P (pk b0 b1 b2 b3 b4 b5 b6 b7)) 60 : Int) == 0) = true from (h.s21).still] at this
      · have := lawFlags_22_p1 ⟨A, X, Y, S, pk b0 b1 b2 b3 b4 b5 b6 b7⟩ m awake_t (h).still (h.w22 m).still
        rwa [show ((bAnd .u8 (bXor .u8 (uSelf_22 ⟨A, X, Y, S, pk b0 b1 b2 b3 b4 b5 b6 b7⟩).P (pk b0 b1 b2 b3 b4 b5 b6 b7)) 60 : Int) == 0) = true from (h.s22).still] at this
      · have := lawFlags_23_p1 ⟨A, X, Y, S, pk b0 b1 b2 b3 b4 b5 b6 b7⟩ m awake_t (h).still (h.w23 m).still
        rwa [show ((bAnd .u8 (bXor .u8 (uSelf_23 ⟨A, X, Y, S, pk b0 b1 b2 b3 b4 b5 b6 b7⟩).P (pk b0 b1 b2 b3 b4 b5 b6 b7)) 60 : Int) == 0) = true from (h).still] at this
      · have := lawFlags_24_p1 ⟨A, X, Y, S, pk b0 b1 b2 b3 b4 b5 b6 b7⟩ m awake_t (h).still (h.w24 m).still
        rwa [show ((bAnd .u8 (bXor .u8 (uSelf_24 ⟨A, X, Y, S, pk b0 b1 b2 b3 b4 b5 b6 b7⟩).P (pk b0 b1 b2 b3 b4 b5 b6 b7)) 60 : Int) == 0) = true from (h).still] at this
      · have := lawFlags_25_p1 ⟨A, X, Y, S, pk b0 b1 b2 b3 b4 b5 b6 b7⟩ m awake_t (h).still (h.w25 m).still
        rwa [show ((bAnd .u8 (bXor .u8 (uSelf_25 ⟨A, X, Y, S, pk b0 b1 b2 b3 b4 b5 b6 b7⟩).P (pk b0 b1 b2 b3 b4 b5 b6 b7)) 60 : Int) == 0) = true from (h).still] at this
      · have := lawFlags_26_p1 ⟨A, X, Y, S, pk b0 b1 b2 b3 b4 b5 b6 b7⟩ m awake_t (h).still (h.w26 m).still
        rwa [show ((bAnd .u8 (bXor .u8 (uSelf_26 ⟨A, X, Y, S, pk b0 b1 b2 b3 b4 b5 b6 b7⟩).P (pk b0 b1 b2 b3 b4 b5 b6 b7)) 60 : Int) == 0) = true from (h).still] at this
      · have := lawFlags_27_p1 ⟨A, X, Y, S, pk b0 b1 b2 b3 b4 b5 b6 b7⟩ m awake_t (h).still (h.w27 m).still
        rwa [show ((bAnd .u8 (bXor .u8 (uSelf_27 ⟨A, X, Y, S, pk b0 b1 b2 b3 b4 b5 b6 b7⟩).P (pk b0 b1 b2 b3 b4 b5 b6 b7)) 60 : Int) == 0) = true from (h).still] at this
      · have := lawFlags_28_p1 ⟨A, X, Y, S, pk b0 b1 b2 b3 b4 b5 b6 b7⟩ m awake_t (h).still (h.w28 m).still
        rwa [show ((bAnd .u8 (bXor .u8 (uSelf_28 ⟨A, X, Y, S, pk b0 b1 b2 b3 b4 b5 b6 b7⟩).P (pk b0 b1 b2 b3 b4 b5 b6 b7)) 60 : Int) == 0) = true from (h).still] at this
      · have := lawFlags_29_p1 ⟨A, X, Y, S, pk b0 b1 b2 b3 b4 b5 b6 b7⟩ m awake_t (h).still (h.w29 m).still
        rwa [show ((bAnd .u8 (bXor .u8 (uSelf_29 ⟨A, X, Y, S, pk b0 b1 b2 b3 b4 b5 b6 b7⟩).P (pk b0 b1 b2 b3 b4 b5 b6 b7)) 60 : Int) == 0) = true from (h).still] at this
      · have := lawFlags_30_p1 ⟨A, X, Y, S, pk b0 b1 b2 b3 b4 b5 b6 b7⟩ m awake_t (h).still (h.w30 m).still
        rwa [show ((bAnd .u8 (bXor .u8 (uSelf_30 ⟨A, X, Y, S, pk b0 b1 b2 b3 b4 b5 b6 b7⟩).P (pk b0 b1 b2 b3 b4 b5 b6 b7)) 60 : Int) == 0) = true from (h).still] at this
      · have := lawFlags_31_p1 ⟨A, X, Y, S, pk b0 b1 b2 b3 b4 b5 b6 b7⟩ m awake_t (h).still (h).still
        rwa [show ((bAnd .u8 (bXor .u8 (uSelf_31 ⟨A, X, Y, S, pk b0 b1 b2 b3 b4 b5 b6 b7⟩).P (pk b0 b1 b2 b3 b4 b5 b6 b7)) 60 : Int) == 0) = true from (h).still] at this
      · have := lawFlags_32_p1 ⟨A, X, Y, S, pk b0 b1 b2 b3 b4 b5 b6 b7⟩ m awake_t (h).still (h).still
        rwa [show ((bAnd .u8 (bXor .u8 (uSelf_32 ⟨A, X, Y, S, pk b0 b1 b2 b3 b4 b5 b6 b7⟩).P (pk b0 b1 b2 b3 b4 b5 b6 b7)) 60 : Int) == 0) = true from (h).still] at this
      · have := lawFlags_33_p1 ⟨A, X, Y, S, pk b0 b1 b2 b3 b4 b5 b6 b7⟩ m awake_t (h).still (h).still
        rwa [show ((bAnd .u8 (bXor .u8 (uSelf_33 ⟨A, X, Y, S, pk b0 b1 b2 b3 b4 b5 b6 b7⟩).P (pk b0 b1 b2 b3 b4 b5 b6 b7)) 60 : Int) == 0) = true from (h).still] at this
      · have := lawFlags_34_p1 ⟨A, X, Y, S, pk b0 b1 b2 b3 b4 b5 b6 b7⟩ m awake_t (h).still (h).still
        rwa [show ((bAnd .u8 (bXor .u8 (uSelf_34 ⟨A, X, Y, S, pk b0 b1 b2 b3 b4 b5 b6 b7⟩).P (pk b0 b1 b2 b3 b4 b5 b6 b7)) 60 : Int) == 0) = true from (h).still] at this
    · obtain rfl | rfl | rfl | rfl | rfl | rfl | rfl | rfl | rfl | rfl | rfl | rfl | rfl | rfl | rfl | rfl | rfl | rfl | rfl | rfl | rfl | rfl | rfl | rfl | rfl | rfl | rfl | rfl | rfl | rfl | rfl | rfl | rfl | rfl | rfl : op = 35 ∨ op = 36 ∨ op = 37 ∨ op = 38 ∨ op = 39 ∨ op = 40 ∨ op = 41 ∨ op = 42 ∨ op = 43 ∨ op = 44 ∨ op = 45 ∨ op = 46 ∨ op = 47 ∨ op = 48 ∨ op = 49 ∨ op = 50 ∨ op = 51 ∨ op = 52 ∨ op = 53 ∨ op = 54 ∨ op = 55 ∨ op = 56 ∨ op = 57 ∨ op = 58 ∨ op = 59 ∨ op = 60 ∨ op = 61 ∨ op = 62 ∨ op = 63 ∨ op = 64 ∨ op = 65 ∨ op = 66 ∨ op = 67 ∨ op = 68 ∨ op = 69 := by omega
      · have := lawFlags_35_p1 ⟨A, X, Y, S, pk b0 b1 b2 b3 b4 b5 b6 b7⟩ m awake_t (h).still (h).still
        rwa [show ((bAnd .u8 (bXor .u8 (uSelf_35 ⟨A, X, Y, S, pk b0 b1 b2 b3 b4 b5 b6 b7⟩).P (pk b0 b1 b2 b3 b4 b5 b6 b7)) 60 : Int) == 0) = true from (h.s35).still] at this
      · have := lawFlags_36_p1 ⟨A, X, Y, S, pk b0 b1 b2 b3 b4 b5 b6 b7⟩ m awake_t (h).still (h).still
        rwa [show ((bAnd .u8 (bXor .u8 (uSelf_36 ⟨A, X, Y, S, pk b0 b1 b2 b3 b4 b5 b6 b7⟩).P (pk b0 b1 b2 b3 b4 b5 b6 b7)) 60 : Int) == 0) = true from (h.s36).still] at this
      · have := lawFlags_37_p1 ⟨A, X, Y, S, pk b0 b1 b2 b3 b4 b5 b6 b7⟩ m awake_t (h).still (h).still
        rwa [show ((bAnd .u8 (bXor .u8 (uSelf_37 ⟨A, X, Y, S, pk b0 b1 b2 b3 b4 b5 b6 b7⟩).P (pk b0 b1 b2 b3 b4 b5 b6 b7)) 60 : Int) == 0) = true from (h.s37).still] at this
      · have := lawFlags_38_p1 ⟨A, X, Y, S, pk b0 b1 b2 b3 b4 b5 b6 b7⟩ m awake_t (h).still (h).still
        rwa [show ((bAnd .u8 (bXor .u8 (uSelf_38 ⟨A, X, Y, S, pk b0 b1 b2 b3 b4 b5 b6 b7⟩).P (pk b0 b1 b2 b3 b4 b5 b6 b7)) 60 : Int) == 0) = true from (h.s38).still] at this
      · have := lawFlags_39_p1 ⟨A, X, Y, S, pk b0 b1 b2 b3 b4 b5 b6 b7⟩ m awake_t (h).still (h).still
        rwa [show ((bAnd .u8 (bXor .u8 (uSelf_39 ⟨A, X, Y, S, pk b0 b1 b2 b3 b4 b5 b6 b7⟩).P (pk b0 b1 b2 b3 b4 b5 b6 b7)) 60 : Int) == 0) = true from (h.s39).still] at this
      · have := lawFlags_40_p1 ⟨A, X, Y, S, pk b0 b1 b2 b3 b4 b5 b6 b7⟩ m awake_t (h).still (h).still
        rwa [show ((bAnd .u8 (bXor .u8 (uSelf_40 ⟨A, X, Y, S, pk b0 b1 b2 b3 b4 b5 b6 b7⟩).P (pk b0 b1 b2 b3 b4 b5 b6 b7)) 60 : Int) == 0) = true from (h.s40).still] at this
      · have := lawFlags_41_p1 ⟨A, X, Y, S, pk b0 b1 b2 b3 b4 b5 b6 b7⟩ m awake_t (h).still (h).still
        rwa [show ((bAnd .u8 (bXor .u8 (uSelf_41 ⟨A, X, Y, S, pk b0 b1 b2 b3 b4 b5 b6 b7⟩).P (pk b0 b1 b2 b3 b4 b5 b6 b7)) 60 : Int) == 0) = true from (h.s41).still] at this
      · have := lawFlags_42_p1 ⟨A, X, Y, S, pk b0 b1 b2 b3 b4 b5 b6 b7⟩ m awake_t (h).still (h).still
        rwa [show ((bAnd .u8 (bXor .u8 (uSelf_42 ⟨A, X, Y, S, pk b0 b1 b2 b3 b4 b5 b6 b7⟩).P (pk b0 b1 b2 b3 b4 b5 b6 b7)) 60 : Int) == 0) = true from (h.s42).still] at this
      · have := lawFlags_43_p1 ⟨A, X, Y, S, pk b0 b1 b2 b3 b4 b5 b6 b7⟩ m awake_t (h).still (h).still
        rwa [show ((bAnd .u8 (bXor .u8 (uSelf_43 ⟨A, X, Y, S, pk b0 b1 b2 b3 b4 b5 b6 b7⟩).P (pk b0 b1 b2 b3 b4 b5 b6 b7)) 60 : Int) == 0) = true from (h.s43).still] at this
      · have := lawFlags_44_p1 ⟨A, X, Y, S, pk b0 b1 b2 b3 b4 b5 b6 b7⟩ m awake_t (h).still (h).still
        rwa [show ((bAnd .u8 (bXor .u8 (uSelf_44 ⟨A, X, Y, S, pk b0 b1 b2 b3 b4 b5 b6 b7⟩).P (pk b0 b1 b2 b3 b4 b5 b6 b7)) 60 : Int) == 0) = true from (h.s44).still] at this
      · have := lawFlags_45_p1 ⟨A, X, Y, S, pk b0 b1 b2 b3 b4 b5 b6 b7⟩ m awake_t (h).still (h).still
        rwa [show ((bAnd .u8 (bXor .u8 (uSelf_45 ⟨A, X, Y, S, pk b0 b1 b2 b3 b4 b5 b6 b7⟩).P (pk b0 b1 b2 b3 b4 b5 b6 b7)) 60 : Int) == 0) = true from (h.s45).still] at this
      · have := lawFlags_46_p1 ⟨A, X, Y, S, pk b0 b1 b2 b3 b4 b5 b6 b7⟩ m awake_t (h).still (h).still
        rwa [show ((bAnd .u8 (bXor .u8 (uSelf_46 ⟨A, X, Y, S, pk b0 b1 b2 b3 b4 b5 b6 b7⟩).P (pk b0 b1 b2 b3 b4 b5 b6 b7)) 60 : Int) == 0) = true from (h.s46).still] at this
      · have := lawFlags_47_p1 ⟨A, X, Y, S, pk b0 b1 b2 b3 b4 b5 b6 b7⟩ m awake_t (still_56 _ _ _ _ _ _ _ _ _ _ _ _ _) (still_56 _ _ _ _ _ _ _ _ _ _ _ _ _)
        rw [show uSelf_47 ⟨A, X, Y, S, pk b0 b1 b2 b3 b4 b5 b6 b7⟩ = uFlag ⟨A, X, Y, S, pk b0 b1 b2 b3 b4 b5 b6 b7⟩ 4 false from rfl, uFlag_4] at this
        rwa [show ((bAnd .u8 (bXor .u8 (pk b0 b1 false b3 b4 b5 b6 b7) (pk b0 b1 b2 b3 b4 b5 b6 b7)) 56 : Int) == 0) = true from still_56 _ _ _ _ _ _ _ _ _ _ _ _ _] at this
      · have := lawFlags_48_p1 ⟨A, X, Y, S, pk b0 b1 b2 b3 b4 b5 b6 b7⟩ m awake_t (still_56 _ _ _ _ _ _ _ _ _ _ _ _ _) (still_56 _ _ _ _ _ _ _ _ _ _ _ _ _)
        rw [show uSelf_48 ⟨A, X, Y, S, pk b0 b1 b2 b3 b4 b5 b6 b7⟩ = uFlag ⟨A, X, Y, S, pk b0 b1 b2 b3 b4 b5 b6 b7⟩ 4 true from rfl, uFlag_4] at this
        rwa [show ((bAnd .u8 (bXor .u8 (pk b0 b1 true b3 b4 b5 b6 b7) (pk b0 b1 b2 b3 b4 b5 b6 b7)) 56 : Int) == 0) = true from still_56 _ _ _ _ _ _ _ _ _ _ _ _ _] at this
      · have := lawFlags_49_p1 ⟨A, X, Y, S, pk b0 b1 b2 b3 b4 b5 b6 b7⟩ m awake_t (h).still (h).still
        rwa [show ((bAnd .u8 (bXor .u8 (uSelf_49 ⟨A, X, Y, S, pk b0 b1 b2 b3 b4 b5 b6 b7⟩).P (pk b0 b1 b2 b3 b4 b5 b6 b7)) 60 : Int) == 0) = true from (h.s49).still] at this
      · have := lawFlags_50_p1 ⟨A, X, Y, S, pk b0 b1 b2 b3 b4 b5 b6 b7⟩ m awake_t (still_52 _ _ _ _ _ _ _ _ _ _ _ _ _) (still_52 _ _ _ _ _ _ _ _ _ _ _ _ _)
        rw [show uSelf_50 ⟨A, X, Y, S, pk b0 b1 b2 b3 b4 b5 b6 b7⟩ = uFlag ⟨A, X, Y, S, pk b0 b1 b2 b3 b4 b5 b6 b7⟩ 8 false from rfl, uFlag_8] at this
        rwa [show ((bAnd .u8 (bXor .u8 (pk b0 b1 b2 false b4 b5 b6 b7) (pk b0 b1 b2 b3 b4 b5 b6 b7)) 52 : Int) == 0) = true from still_52 _ _ _ _ _ _ _ _ _ _ _ _ _] at this
      · have := lawFlags_51_p1 ⟨A, X, Y, S, pk b0 b1 b2 b3 b4 b5 b6 b7⟩ m awake_t (still_52 _ _ _ _ _ _ _ _ _ _ _ _ _) (still_52 _ _ _ _ _ _ _ _ _ _ _ _ _)
        rw [show uSelf_51 ⟨A, X, Y, S, pk b0 b1 b2 b3 b4 b5 b6 b7⟩ = uFlag ⟨A, X, Y, S, pk b0 b1 b2 b3 b4 b5 b6 b7⟩ 8 true from rfl, uFlag_8] at this
        rwa [show ((bAnd .u8 (bXor .u8 (pk b0 b1 b2 true b4 b5 b6 b7) (pk b0 b1 b2 b3 b4 b5 b6 b7)) 52 : Int) == 0) = true from still_52 _ _ _ _ _ _ _ _ _ _ _ _ _] at this
      · have := lawFlags_52_p1 ⟨A, X, Y, S, pk b0 b1 b2 b3 b4 b5 b6 b7⟩ m awake_t (h).still (h).still
        rwa [show ((bAnd .u8 (bXor .u8 (uSelf_52 ⟨A, X, Y, S, pk b0 b1 b2 b3 b4 b5 b6 b7⟩).P (pk b0 b1 b2 b3 b4 b5 b6 b7)) 60 : Int) == 0) = true from (h).still] at this
      · have := lawFlags_53_p1 ⟨A, X, Y, S, pk b0 b1 b2 b3 b4 b5 b6 b7⟩ m awake_t (h).still (h).still
        rwa [show ((bAnd .u8 (bXor .u8 (uSelf_53 ⟨A, X, Y, S, pk b0 b1 b2 b3 b4 b5 b6 b7⟩).P (pk b0 b1 b2 b3 b4 b5 b6 b7)) 60 : Int) == 0) = true from (h).still] at this
      · have := lawFlags_54_p1 ⟨A, X, Y, S, pk b0 b1 b2 b3 b4 b5 b6 b7⟩ m awake_t (h).still (h).still
        rwa [show ((bAnd .u8 (bXor .u8 (uSelf_54 ⟨A, X, Y, S, pk b0 b1 b2 b3 b4 b5 b6 b7⟩).P (pk b0 b1 b2 b3 b4 b5 b6 b7)) 60 : Int) == 0) = true from (h).still] at this
      · have := lawFlags_55_p1 ⟨A, X, Y, S, pk b0 b1 b2 b3 b4 b5 b6 b7⟩ m awake_t (h).still (h).still
        rwa [show ((bAnd .u8 (bXor .u8 (uSelf_55 ⟨A, X, Y, S, pk b0 b1 b2 b3 b4 b5 b6 b7⟩).P (pk b0 b1 b2 b3 b4 b5 b6 b7)) 60 : Int) == 0) = true from (h).still] at this
      · have := lawFlags_56_p1 ⟨A, X, Y, S, pk b0 b1 b2 b3 b4 b5 b6 b7⟩ m awake_t (h).still (h).still
        rwa [show ((bAnd .u8 (bXor .u8 (uSelf_56 ⟨A, X, Y, S, pk b0 b1 b2 b3 b4 b5 b6 b7⟩).P (pk b0 b1 b2 b3 b4 b5 b6 b7)) 60 : Int) == 0) = true from (h).still] at this
      · have := lawFlags_57_p1 ⟨A, X, Y, S, pk b0 b1 b2 b3 b4 b5 b6 b7⟩ m awake_t (h).still (h).still
        rwa [show ((bAnd .u8 (bXor .u8 (uSelf_57 ⟨A, X, Y, S, pk b0 b1 b2 b3 b4 b5 b6 b7⟩).P (pk b0 b1 b2 b3 b4 b5 b6 b7)) 60 : Int) == 0) = true from (h).still] at this
      · have := lawFlags_58_p1 ⟨A, X, Y, S, pk b0 b1 b2 b3 b4 b5 b6 b7⟩ m awake_t (h).still (h).still
        rwa [show ((bAnd .u8 (bXor .u8 (uSelf_58 ⟨A, X, Y, S, pk b0 b1 b2 b3 b4 b5 b6 b7⟩).P (pk b0 b1 b2 b3 b4 b5 b6 b7)) 60 : Int) == 0) = true from (h).still] at this
      · have := lawFlags_59_p1 ⟨A, X, Y, S, pk b0 b1 b2 b3 b4 b5 b6 b7⟩ m awake_t (h).still (h).still
        rwa [show ((bAnd .u8 (bXor .u8 (uSelf_59 ⟨A, X, Y, S, pk b0 b1 b2 b3 b4 b5 b6 b7⟩).P (pk b0 b1 b2 b3 b4 b5 b6 b7)) 60 : Int) == 0) = true from (h).still] at this
      · have := lawFlags_60_p1 ⟨A, X, Y, S, pk b0 b1 b2 b3 b4 b5 b6 b7⟩ m awake_t (h).still (h).still
        rwa [show ((bAnd .u8 (bXor .u8 (uSelf_60 ⟨A, X, Y, S, pk b0 b1 b2 b3 b4 b5 b6 b7⟩).P (pk b0 b1 b2 b3 b4 b5 b6 b7)) 60 : Int) == 0) = true from (h).still] at this
      · have := lawFlags_61_p1 ⟨A, X, Y, S, pk b0 b1 b2 b3 b4 b5 b6 b7⟩ m awake_t (h).still (h).still
        rwa [show ((bAnd .u8 (bXor .u8 (uSelf_61 ⟨A, X, Y, S, pk b0 b1 b2 b3 b4 b5 b6 b7⟩).P (pk b0 b1 b2 b3 b4 b5 b6 b7)) 60 : Int) == 0) = true from (h).still] at this
      · have := lawFlags_62_p1 ⟨A, X, Y, S, pk b0 b1 b2 b3 b4 b5 b6 b7⟩ m awake_t (h).still (h).still
        rwa [show ((bAnd .u8 (bXor .u8 (uSelf_62 ⟨A, X, Y, S, pk b0 b1 b2 b3 b4 b5 b6 b7⟩).P (pk b0 b1 b2 b3 b4 b5 b6 b7)) 60 : Int) == 0) = true from (h).still] at this
      · have := lawFlags_63_p1 ⟨A, X, Y, S, pk b0 b1 b2 b3 b4 b5 b6 b7⟩ m awake_t (h).still (h).still
        rwa [show ((bAnd .u8 (bXor .u8 (uSelf_63 ⟨A, X, Y, S, pk b0 b1 b2 b3 b4 b5 b6 b7⟩).P (pk b0 b1 b2 b3 b4 b5 b6 b7)) 60 : Int) == 0) = true from (h).still] at this
      · have := lawFlags_64_p1 ⟨A, X, Y, S, pk b0 b1 b2 b3 b4 b5 b6 b7⟩ m awake_t (h).still (h).still
        rwa [show ((bAnd .u8 (bXor .u8 (uSelf_64 ⟨A, X, Y, S, pk b0 b1 b2 b3 b4 b5 b6 b7⟩).P (pk b0 b1 b2 b3 b4 b5 b6 b7)) 60 : Int) == 0) = true from (h).still] at this
      · have := lawFlags_65_p1 ⟨A, X, Y, S, pk b0 b1 b2 b3 b4 b5 b6 b7⟩ m awake_t (h).still (h).still
        rwa [show ((bAnd .u8 (bXor .u8 (uSelf_65 ⟨A, X, Y, S, pk b0 b1 b2 b3 b4 b5 b6 b7⟩).P (pk b0 b1 b2 b3 b4 b5 b6 b7)) 60 : Int) == 0) = true from (h).still] at this
      · have := lawFlags_66_p1 ⟨A, X, Y, S, pk b0 b1 b2 b3 b4 b5 b6 b7⟩ m awake_t (h).still (h).still
        rwa [show ((bAnd .u8 (bXor .u8 (uSelf_66 ⟨A, X, Y, S, pk b0 b1 b2 b3 b4 b5 b6 b7⟩).P (pk b0 b1 b2 b3 b4 b5 b6 b7)) 60 : Int) == 0) = true from (h).still] at this
      · have := lawFlags_67_p1 ⟨A, X, Y, S, pk b0 b1 b2 b3 b4 b5 b6 b7⟩ m awake_t (h).still (h).still
        rwa [show ((bAnd .u8 (bXor .u8 (uSelf_67 ⟨A, X, Y, S, pk b0 b1 b2 b3 b4 b5 b6 b7⟩).P (pk b0 b1 b2 b3 b4 b5 b6 b7)) 60 : Int) == 0) = true from (h).still] at this
      · have := lawFlags_68_p1 ⟨A, X, Y, S, pk b0 b1 b2 b3 b4 b5 b6 b7⟩ m awake_t (h).still (h).still
        rwa [show ((bAnd .u8 (bXor .u8 (uSelf_68 ⟨A, X, Y, S, pk b0 b1 b2 b3 b4 b5 b6 b7⟩).P (pk b0 b1 b2 b3 b4 b5 b6 b7)) 60 : Int) == 0) = true from (h).still] at this
      · have := lawFlags_69_p1 ⟨A, X, Y, S, pk b0 b1 b2 b3 b4 b5 b6 b7⟩ m awake_t (h).still (h).still
        rwa [show ((bAnd .u8 (bXor .u8 (uSelf_69 ⟨A, X, Y, S, pk b0 b1 b2 b3 b4 b5 b6 b7⟩).P (pk b0 b1 b2 b3 b4 b5 b6 b7)) 60 : Int) == 0) = true from (h).still] at this
  · have := lawFlags_hi_p1 ⟨A, X, Y, S, pk b0 b1 b2 b3 b4 b5 b6 b7⟩ op m (by omega) awake_t h.still h.still
    rwa [show ((bAnd .u8 (bXor .u8 (uSelf_hi ⟨A, X, Y, S, pk b0 b1 b2 b3 b4 b5 b6 b7⟩ op).P (pk b0 b1 b2 b3 b4 b5 b6 b7)) 60 : Int) == 0) = true from h.still] at this

end Go.Proofs.Ytfjeifmenlnkkaa
