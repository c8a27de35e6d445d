/-
  Layer 8: the law on what is written and taken. Written by gen_ao.py. No condition.
-/
import Derived.Test.YtfjeifmenlnkkaaAH
import Derived.Test.YtfjeifmenlnkkaaAI
namespace Go.Proofs.Ytfjeifmenlnkkaa
open Go VX IntWalk
set_option maxRecDepth 100000
set_option linter.unusedSimpArgs false
set_option linter.unusedVariables false

theorem has_pk0 (b0 b1 b2 b3 b4 b5 b6 b7 : Bool) : ((bAnd .u8 (pk b0 b1 b2 b3 b4 b5 b6 b7) 1 : Int) != 0) = b0 := by
  have hp := pk_b b0 b1 b2 b3 b4 b5 b6 b7
  rw [has_1 hp.1 hp.2, bit_1]
  cases b0 <;> rfl

theorem has_pk1 (b0 b1 b2 b3 b4 b5 b6 b7 : Bool) : ((bAnd .u8 (pk b0 b1 b2 b3 b4 b5 b6 b7) 2 : Int) != 0) = b1 := by
  have hp := pk_b b0 b1 b2 b3 b4 b5 b6 b7
  rw [has_2 hp.1 hp.2, bit_2]
  cases b1 <;> rfl

theorem has_pk7 (b0 b1 b2 b3 b4 b5 b6 b7 : Bool) : ((bAnd .u8 (pk b0 b1 b2 b3 b4 b5 b6 b7) 128 : Int) != 0) = b7 := by
  have hp := pk_b b0 b1 b2 b3 b4 b5 b6 b7
  rw [has_128 hp.1 hp.2, bit_128]
  cases b7 <;> rfl

theorem stores_true (u : Unit) (hu : Bytes u) (op : Int) (ho : 0 ≤ op ∧ op < 256) : FnSpec Try.prog 8 1000 [Unit.enc u, .int .u8 op] [] (.bool true) [] := by
  obtain ⟨A, X, Y, S, P⟩ := u
  obtain ⟨ha, hx, hy, hs, hp⟩ := hu
  obtain ⟨b0, b1, b2, b3, b4, b5, b6, b7, hP⟩ := pk_of P hp
  simp only at ha hx hy hs hp hP
  subst hP
  have eo : own ⟨A, X, Y, S, pk b0 b1 b2 b3 b4 b5 b6 b7⟩ = ⟨A, X, Y, S, pk b0 b1 b2 b3 b4 b5 b6 b7⟩ := own_eq _ _ _ _ _ ha hx hy hs hp
  by_cases h : op < 70
  · by_cases h2 : op < 35
    · obtain rfl | rfl | rfl | rfl | rfl | rfl | rfl | rfl | rfl | rfl | rfl | rfl | rfl | rfl | rfl | rfl | rfl | rfl | rfl | rfl | rfl | rfl | rfl | rfl | rfl | rfl | rfl | rfl | rfl | rfl | rfl | rfl | rfl | rfl | rfl : op = 0 ∨ op = 1 ∨ op = 2 ∨ op = 3 ∨ op = 4 ∨ op = 5 ∨ op = 6 ∨ op = 7 ∨ op = 8 ∨ op = 9 ∨ op = 10 ∨ op = 11 ∨ op = 12 ∨ op = 13 ∨ op = 14 ∨ op = 15 ∨ op = 16 ∨ op = 17 ∨ op = 18 ∨ op = 19 ∨ op = 20 ∨ op = 21 ∨ op = 22 ∨ op = 23 ∨ op = 24 ∨ op = 25 ∨ op = 26 ∨ op = 27 ∨ op = 28 ∨ op = 29 ∨ op = 30 ∨ op = 31 ∨ op = 32 ∨ op = 33 ∨ op = 34 := by omega
      · exact lawStores_0_p1 ⟨A, X, Y, S, pk b0 b1 b2 b3 b4 b5 b6 b7⟩ awake_t
      · exact lawStores_1_p1 ⟨A, X, Y, S, pk b0 b1 b2 b3 b4 b5 b6 b7⟩ awake_t
      · exact lawStores_2_p1 ⟨A, X, Y, S, pk b0 b1 b2 b3 b4 b5 b6 b7⟩ awake_t
      · exact lawStores_3_p1 ⟨A, X, Y, S, pk b0 b1 b2 b3 b4 b5 b6 b7⟩ awake_t
      · exact lawStores_4_p1 ⟨A, X, Y, S, pk b0 b1 b2 b3 b4 b5 b6 b7⟩ awake_t
      · exact lawStores_5_p1 ⟨A, X, Y, S, pk b0 b1 b2 b3 b4 b5 b6 b7⟩ awake_t
      · exact lawStores_6_p1 ⟨A, X, Y, S, pk b0 b1 b2 b3 b4 b5 b6 b7⟩ awake_t
      · exact lawStores_7_p1 ⟨A, X, Y, S, pk b0 b1 b2 b3 b4 b5 b6 b7⟩ awake_t
      · exact lawStores_8_p1 ⟨A, X, Y, S, pk b0 b1 b2 b3 b4 b5 b6 b7⟩ awake_t
      · exact lawStores_9_p1 ⟨A, X, Y, S, pk b0 b1 b2 b3 b4 b5 b6 b7⟩ awake_t
      · exact lawStores_10_p1 ⟨A, X, Y, S, pk b0 b1 b2 b3 b4 b5 b6 b7⟩ awake_t
      · exact lawStores_11_p1 ⟨A, X, Y, S, pk b0 b1 b2 b3 b4 b5 b6 b7⟩ awake_t
      · exact lawStores_12_p1 ⟨A, X, Y, S, pk b0 b1 b2 b3 b4 b5 b6 b7⟩ awake_t
      · exact lawStores_13_p1 ⟨A, X, Y, S, pk b0 b1 b2 b3 b4 b5 b6 b7⟩ awake_t
      · exact lawStores_14_p1 ⟨A, X, Y, S, pk b0 b1 b2 b3 b4 b5 b6 b7⟩ awake_t
      · exact lawStores_15_p1 ⟨A, X, Y, S, pk b0 b1 b2 b3 b4 b5 b6 b7⟩ awake_t
      · exact lawStores_16_p1 ⟨A, X, Y, S, pk b0 b1 b2 b3 b4 b5 b6 b7⟩ awake_t
      · exact lawStores_17_p1 ⟨A, X, Y, S, pk b0 b1 b2 b3 b4 b5 b6 b7⟩ awake_t
      · exact lawStores_18_p1 ⟨A, X, Y, S, pk b0 b1 b2 b3 b4 b5 b6 b7⟩ awake_t
      · exact lawStores_19_p1 ⟨A, X, Y, S, pk b0 b1 b2 b3 b4 b5 b6 b7⟩ awake_t
      · exact lawStores_20_p1 ⟨A, X, Y, S, pk b0 b1 b2 b3 b4 b5 b6 b7⟩ awake_t
      · exact lawStores_21_p1 ⟨A, X, Y, S, pk b0 b1 b2 b3 b4 b5 b6 b7⟩ awake_t
      · exact lawStores_22_p1 ⟨A, X, Y, S, pk b0 b1 b2 b3 b4 b5 b6 b7⟩ awake_t
      · exact lawStores_23_p1 ⟨A, X, Y, S, pk b0 b1 b2 b3 b4 b5 b6 b7⟩ awake_t
      · exact lawStores_24_p1 ⟨A, X, Y, S, pk b0 b1 b2 b3 b4 b5 b6 b7⟩ awake_t
      · exact lawStores_25_p1 ⟨A, X, Y, S, pk b0 b1 b2 b3 b4 b5 b6 b7⟩ awake_t
      · exact lawStores_26_p1 ⟨A, X, Y, S, pk b0 b1 b2 b3 b4 b5 b6 b7⟩ awake_t
      · exact lawStores_27_p1 ⟨A, X, Y, S, pk b0 b1 b2 b3 b4 b5 b6 b7⟩ awake_t
      · exact lawStores_28_p1 ⟨A, X, Y, S, pk b0 b1 b2 b3 b4 b5 b6 b7⟩ awake_t
      · exact lawStores_29_p1 ⟨A, X, Y, S, pk b0 b1 b2 b3 b4 b5 b6 b7⟩ awake_t
      · exact lawStores_30_p1 ⟨A, X, Y, S, pk b0 b1 b2 b3 b4 b5 b6 b7⟩ awake_t
      · exact lawStores_31_p1 ⟨A, X, Y, S, pk b0 b1 b2 b3 b4 b5 b6 b7⟩ awake_t (by rw [eo, show uStore_31 ⟨A, X, Y, S, pk b0 b1 b2 b3 b4 b5 b6 b7⟩ = A from rfl, show rStore_STA ⟨A, X, Y, S, pk b0 b1 b2 b3 b4 b5 b6 b7⟩ = A from rfl, i64_in A (by omega), beq_self_eq_true])
      · exact lawStores_32_p1 ⟨A, X, Y, S, pk b0 b1 b2 b3 b4 b5 b6 b7⟩ awake_t (by rw [eo, show uStore_32 ⟨A, X, Y, S, pk b0 b1 b2 b3 b4 b5 b6 b7⟩ = X from rfl, show rStore_STX ⟨A, X, Y, S, pk b0 b1 b2 b3 b4 b5 b6 b7⟩ = X from rfl, i64_in X (by omega), beq_self_eq_true])
      · exact lawStores_33_p1 ⟨A, X, Y, S, pk b0 b1 b2 b3 b4 b5 b6 b7⟩ awake_t (by rw [eo, show uStore_33 ⟨A, X, Y, S, pk b0 b1 b2 b3 b4 b5 b6 b7⟩ = Y from rfl, show rStore_STY ⟨A, X, Y, S, pk b0 b1 b2 b3 b4 b5 b6 b7⟩ = Y from rfl, i64_in Y (by omega), beq_self_eq_true])
      · have hb := byte_and A X
        exact lawStores_34_p1 ⟨A, X, Y, S, pk b0 b1 b2 b3 b4 b5 b6 b7⟩ awake_t (by rw [eo, show uStore_34 ⟨A, X, Y, S, pk b0 b1 b2 b3 b4 b5 b6 b7⟩ = bAnd .u8 A X from rfl, show rStore_SAX ⟨A, X, Y, S, pk b0 b1 b2 b3 b4 b5 b6 b7⟩ = bAnd .i64 A X from rfl, wide_and ha hx, i64_in _ (by omega), beq_self_eq_true])
    · obtain rfl | rfl | rfl | rfl | rfl | rfl | rfl | rfl | rfl | rfl | rfl | rfl | rfl | rfl | rfl | rfl | rfl | rfl | rfl | rfl | rfl | rfl | rfl | rfl | rfl | rfl | rfl | rfl | rfl | rfl | rfl | rfl | rfl | rfl | rfl : op = 35 ∨ op = 36 ∨ op = 37 ∨ op = 38 ∨ op = 39 ∨ op = 40 ∨ op = 41 ∨ op = 42 ∨ op = 43 ∨ op = 44 ∨ op = 45 ∨ op = 46 ∨ op = 47 ∨ op = 48 ∨ op = 49 ∨ op = 50 ∨ op = 51 ∨ op = 52 ∨ op = 53 ∨ op = 54 ∨ op = 55 ∨ op = 56 ∨ op = 57 ∨ op = 58 ∨ op = 59 ∨ op = 60 ∨ op = 61 ∨ op = 62 ∨ op = 63 ∨ op = 64 ∨ op = 65 ∨ op = 66 ∨ op = 67 ∨ op = 68 ∨ op = 69 := by omega
      · exact lawStores_35_p1 ⟨A, X, Y, S, pk b0 b1 b2 b3 b4 b5 b6 b7⟩ awake_t
      · exact lawStores_36_p1 ⟨A, X, Y, S, pk b0 b1 b2 b3 b4 b5 b6 b7⟩ awake_t
      · exact lawStores_37_p1 ⟨A, X, Y, S, pk b0 b1 b2 b3 b4 b5 b6 b7⟩ awake_t
      · exact lawStores_38_p1 ⟨A, X, Y, S, pk b0 b1 b2 b3 b4 b5 b6 b7⟩ awake_t
      · exact lawStores_39_p1 ⟨A, X, Y, S, pk b0 b1 b2 b3 b4 b5 b6 b7⟩ awake_t
      · exact lawStores_40_p1 ⟨A, X, Y, S, pk b0 b1 b2 b3 b4 b5 b6 b7⟩ awake_t
      · exact lawStores_41_p1 ⟨A, X, Y, S, pk b0 b1 b2 b3 b4 b5 b6 b7⟩ awake_t
      · exact lawStores_42_p1 ⟨A, X, Y, S, pk b0 b1 b2 b3 b4 b5 b6 b7⟩ awake_t
      · exact lawStores_43_p1 ⟨A, X, Y, S, pk b0 b1 b2 b3 b4 b5 b6 b7⟩ awake_t
      · exact lawStores_44_p1 ⟨A, X, Y, S, pk b0 b1 b2 b3 b4 b5 b6 b7⟩ awake_t
      · exact lawStores_45_p1 ⟨A, X, Y, S, pk b0 b1 b2 b3 b4 b5 b6 b7⟩ awake_t
      · exact lawStores_46_p1 ⟨A, X, Y, S, pk b0 b1 b2 b3 b4 b5 b6 b7⟩ awake_t
      · exact lawStores_47_p1 ⟨A, X, Y, S, pk b0 b1 b2 b3 b4 b5 b6 b7⟩ awake_t
      · exact lawStores_48_p1 ⟨A, X, Y, S, pk b0 b1 b2 b3 b4 b5 b6 b7⟩ awake_t
      · exact lawStores_49_p1 ⟨A, X, Y, S, pk b0 b1 b2 b3 b4 b5 b6 b7⟩ awake_t
      · exact lawStores_50_p1 ⟨A, X, Y, S, pk b0 b1 b2 b3 b4 b5 b6 b7⟩ awake_t
      · exact lawStores_51_p1 ⟨A, X, Y, S, pk b0 b1 b2 b3 b4 b5 b6 b7⟩ awake_t
      · have e : (uTakes_52 ⟨A, X, Y, S, pk b0 b1 b2 b3 b4 b5 b6 b7⟩ == rTakes_BPL ⟨A, X, Y, S, pk b0 b1 b2 b3 b4 b5 b6 b7⟩) = true := by
          unfold uTakes_52 rTakes_BPL
          simp only [has_pk7, rHas_128]
          cases b7 <;> rfl
        have := lawStores_52_p1 ⟨A, X, Y, S, pk b0 b1 b2 b3 b4 b5 b6 b7⟩ awake_t
        rwa [eo, e] at this
      · have e : (uTakes_53 ⟨A, X, Y, S, pk b0 b1 b2 b3 b4 b5 b6 b7⟩ == rTakes_BMI ⟨A, X, Y, S, pk b0 b1 b2 b3 b4 b5 b6 b7⟩) = true := by
          unfold uTakes_53 rTakes_BMI
          simp only [has_pk7, rHas_128]
          cases b7 <;> rfl
        have := lawStores_53_p1 ⟨A, X, Y, S, pk b0 b1 b2 b3 b4 b5 b6 b7⟩ awake_t
        rwa [eo, e] at this
      · have e : (uTakes_54 ⟨A, X, Y, S, pk b0 b1 b2 b3 b4 b5 b6 b7⟩ == rTakes_BVC ⟨A, X, Y, S, pk b0 b1 b2 b3 b4 b5 b6 b7⟩) = true := by
          unfold uTakes_54 rTakes_BVC
          simp only [has_pk6, rHas_64]
          cases b6 <;> rfl
        have := lawStores_54_p1 ⟨A, X, Y, S, pk b0 b1 b2 b3 b4 b5 b6 b7⟩ awake_t
        rwa [eo, e] at this
      · have e : (uTakes_55 ⟨A, X, Y, S, pk b0 b1 b2 b3 b4 b5 b6 b7⟩ == rTakes_BVS ⟨A, X, Y, S, pk b0 b1 b2 b3 b4 b5 b6 b7⟩) = true := by
          unfold uTakes_55 rTakes_BVS
          simp only [has_pk6, rHas_64]
          cases b6 <;> rfl
        have := lawStores_55_p1 ⟨A, X, Y, S, pk b0 b1 b2 b3 b4 b5 b6 b7⟩ awake_t
        rwa [eo, e] at this
      · have e : (uTakes_56 ⟨A, X, Y, S, pk b0 b1 b2 b3 b4 b5 b6 b7⟩ == rTakes_BCC ⟨A, X, Y, S, pk b0 b1 b2 b3 b4 b5 b6 b7⟩) = true := by
          unfold uTakes_56 rTakes_BCC
          simp only [has_pk0, rHas_1]
          cases b0 <;> rfl
        have := lawStores_56_p1 ⟨A, X, Y, S, pk b0 b1 b2 b3 b4 b5 b6 b7⟩ awake_t
        rwa [eo, e] at this
      · have e : (uTakes_57 ⟨A, X, Y, S, pk b0 b1 b2 b3 b4 b5 b6 b7⟩ == rTakes_BCS ⟨A, X, Y, S, pk b0 b1 b2 b3 b4 b5 b6 b7⟩) = true := by
          unfold uTakes_57 rTakes_BCS
          simp only [has_pk0, rHas_1]
          cases b0 <;> rfl
        have := lawStores_57_p1 ⟨A, X, Y, S, pk b0 b1 b2 b3 b4 b5 b6 b7⟩ awake_t
        rwa [eo, e] at this
      · have e : (uTakes_58 ⟨A, X, Y, S, pk b0 b1 b2 b3 b4 b5 b6 b7⟩ == rTakes_BNE ⟨A, X, Y, S, pk b0 b1 b2 b3 b4 b5 b6 b7⟩) = true := by
          unfold uTakes_58 rTakes_BNE
          simp only [has_pk1, rHas_2]
          cases b1 <;> rfl
        have := lawStores_58_p1 ⟨A, X, Y, S, pk b0 b1 b2 b3 b4 b5 b6 b7⟩ awake_t
        rwa [eo, e] at this
      · have e : (uTakes_59 ⟨A, X, Y, S, pk b0 b1 b2 b3 b4 b5 b6 b7⟩ == rTakes_BEQ ⟨A, X, Y, S, pk b0 b1 b2 b3 b4 b5 b6 b7⟩) = true := by
          unfold uTakes_59 rTakes_BEQ
          simp only [has_pk1, rHas_2]
          cases b1 <;> rfl
        have := lawStores_59_p1 ⟨A, X, Y, S, pk b0 b1 b2 b3 b4 b5 b6 b7⟩ awake_t
        rwa [eo, e] at this
      · exact lawStores_60_p1 ⟨A, X, Y, S, pk b0 b1 b2 b3 b4 b5 b6 b7⟩ awake_t
      · exact lawStores_61_p1 ⟨A, X, Y, S, pk b0 b1 b2 b3 b4 b5 b6 b7⟩ awake_t
      · exact lawStores_62_p1 ⟨A, X, Y, S, pk b0 b1 b2 b3 b4 b5 b6 b7⟩ awake_t
      · exact lawStores_63_p1 ⟨A, X, Y, S, pk b0 b1 b2 b3 b4 b5 b6 b7⟩ awake_t
      · exact lawStores_64_p1 ⟨A, X, Y, S, pk b0 b1 b2 b3 b4 b5 b6 b7⟩ awake_t
      · exact lawStores_65_p1 ⟨A, X, Y, S, pk b0 b1 b2 b3 b4 b5 b6 b7⟩ awake_t
      · exact lawStores_66_p1 ⟨A, X, Y, S, pk b0 b1 b2 b3 b4 b5 b6 b7⟩ awake_t
      · exact lawStores_67_p1 ⟨A, X, Y, S, pk b0 b1 b2 b3 b4 b5 b6 b7⟩ awake_t
      · exact lawStores_68_p1 ⟨A, X, Y, S, pk b0 b1 b2 b3 b4 b5 b6 b7⟩ awake_t
      · exact lawStores_69_p1 ⟨A, X, Y, S, pk b0 b1 b2 b3 b4 b5 b6 b7⟩ awake_t
  · exact lawStores_hi_p1 ⟨A, X, Y, S, pk b0 b1 b2 b3 b4 b5 b6 b7⟩ op (by omega) awake_t

end Go.Proofs.Ytfjeifmenlnkkaa
