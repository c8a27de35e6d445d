/-
  Layer 8: the law on pairs. No condition.
-/
import Derived.Test.YtfjeifmenlnkkaaAF
import Derived.Test.YtfjeifmenlnkkaaAP
namespace Go.Proofs.Ytfjeifmenlnkkaa
open Go VX IntWalk
set_option maxRecDepth 100000

theorem same_unit {a b : Unit} (h : a = b) : (((a.A : Int) == b.A) && (((a.X : Int) == b.X) && (((a.Y : Int) == b.Y) && (((a.S : Int) == b.S) && (((a.P : Int) == b.P) && true))))) = true := by
  subst h; simp

theorem pairs_true (u : Unit) (m k : Int) (hk : 0 ≤ k ∧ k < 256) : FnSpec Try.prog 11 1000 [Unit.enc u, .int .u8 m, .int .u8 k] [] (.bool true) [] := by
  have e : Int.tmod k 6 = k % 6 := Int.tmod_eq_emod_of_nonneg hk.1
  obtain h | h | h | h | h | h : Int.tmod k 6 = 0 ∨ Int.tmod k 6 = 1 ∨ Int.tmod k 6 = 2 ∨ Int.tmod k 6 = 3 ∨ Int.tmod k 6 = 4 ∨ Int.tmod k 6 = 5 := by omega
  · have := lawPairs_0_p1 u m k h awake_t (beq_self_eq_true _)
    rwa [same_unit (show (uChange_25 u m).1 = uRead_1 (uChange_19 u m).1 (uChange_19 u m).2 from rfl)] at this
  · have := lawPairs_1_p1 u m k h awake_t (beq_self_eq_true _)
    rwa [same_unit (show (uChange_26 u m).1 = uRead_2 (uChange_21 u m).1 (uChange_21 u m).2 from rfl)] at this
  · have := lawPairs_2_p1 u m k h awake_t (beq_self_eq_true _)
    rwa [same_unit (show (uChange_27 u m).1 = uRead_3 (uChange_20 u m).1 (uChange_20 u m).2 from rfl)] at this
  · have := lawPairs_3_p1 u m k h awake_t (beq_self_eq_true _)
    rwa [same_unit (show (uChange_28 u m).1 = uRead_4 (uChange_22 u m).1 (uChange_22 u m).2 from rfl)] at this
  · have := lawPairs_4_p1 u m k h awake_t (beq_self_eq_true _)
    rwa [same_unit (show (uChange_29 u m).1 = uRead_6 (uChange_24 u m).1 (uChange_24 u m).2 from rfl)] at this
  · have := lawPairs_5_p1 u m k h awake_t (beq_self_eq_true _)
    rwa [same_unit (show (uChange_30 u m).1 = uRead_5 (uChange_23 u m).1 (uChange_23 u m).2 from rfl)] at this

end Go.Proofs.Ytfjeifmenlnkkaa
