/-
  Layer 11: the reference's target of a sweep, as a Lean function. No condition.
-/
import Derived.Test.YtngeghiaakkdbaaDoorTP
namespace Go.Proofs.YtngeghiaakkdbaaDoor
open Go VX IntWalk
set_option maxRecDepth 100000
set_option linter.unusedSimpArgs false
set_option linter.unusedVariables false

def rTarget (x : RTone) : Int :=
  if x.Reg 1 / 8 % 2 = 0 then x.Period + x.Period / 2 ^ (x.Reg 1 % 8).toNat
  else if x.Kind = 0 then max (x.Period - (x.Period / 2 ^ (x.Reg 1 % 8).toNat + 1)) 0
  else max (x.Period - x.Period / 2 ^ (x.Reg 1 % 8).toNat) 0

theorem rTarget_ok (x : RTone) (hg : Good x) : FnSpec Tryd.prog 39 1000 [RTone.enc x] [] (.int .i64 (rTarget x)) [] := by
  obtain ⟨r0, r1⟩ := hg.reg 1
  obtain ⟨p0, p1⟩ := hg.period
  have em : Int.tmod (x.Reg 1) 8 = x.Reg 1 % 8 := Int.tmod_eq_emod_of_nonneg r0
  have ed : (Int.tmod (IntKind.i64.wrap (Int.tdiv (x.Reg 1) 8)) 2) = x.Reg 1 / 8 % 2 := by
    rw [Int.tdiv_eq_ediv_of_nonneg r0, i64_in _ (by omega), Int.tmod_eq_emod_of_nonneg (by omega)]
  have hq : ∀ k : Nat, 0 ≤ x.Period / 2 ^ k ∧ x.Period / 2 ^ k ≤ x.Period := fun k => ⟨Int.ediv_nonneg p0 (Int.le_of_lt (Int.pow_pos (by decide))), Int.ediv_le_self _ p0⟩
  have L := iter_seq (f := rTgt_L1 x) (fun k => (((k : Nat) : Int), x.Period / 2 ^ k)) (x.Reg 1 % 8).toNat (((x.Reg 1 % 8).toNat : Int), x.Period / 2 ^ (x.Reg 1 % 8).toNat) (fun k hk => by
      unfold rTgt_L1
      rw [if_pos (by show decide ((k : Int) < Int.tmod (x.Reg 1) 8) = true; rw [em]; simp; omega)]
      have h := hq k
      simp only
      rw [i64_in ((k : Int) + 1) (by omega), Int.tdiv_eq_ediv_of_nonneg h.1, i64_in _ (by omega), Int.ediv_ediv_of_nonneg (Int.le_of_lt (Int.pow_pos (by decide))), ← Int.pow_succ]
      simp)
    (by
      unfold rTgt_L1
      rw [if_neg (by show ¬ decide ((((x.Reg 1 % 8).toNat : Nat) : Int) < Int.tmod (x.Reg 1) 8) = true; rw [em]; simp; omega)])
  have h0 : ((((0 : Nat) : Int)), x.Period / 2 ^ 0) = ((0 : Int), x.Period) := by simp
  rw [h0] at L
  have h := hq (x.Reg 1 % 8).toNat
  unfold rTarget
  generalize x.Period / 2 ^ (x.Reg 1 % 8).toNat = q at *
  by_cases c1 : x.Reg 1 / 8 % 2 = 0
  · have := rTgt_p1 x _ _ L (by show ((Int.tmod (IntKind.i64.wrap (Int.tdiv (x.Reg 1) 8)) 2 : Int) == 0) = true; rw [ed]; simpa using c1)
    simp only at this
    rw [i64_in _ (by omega)] at this
    rw [if_pos c1]; exact this
  · rw [if_neg c1]
    have c1' : (((Int.tmod (IntKind.i64.wrap (Int.tdiv (x.Reg 1) 8)) 2) : Int) == 0) = false := by rw [ed]; simpa using c1
    by_cases c2 : x.Kind = 0
    · have := rTgt_p2 x _ _ L c1' (by simpa using c2)
      simp only at this
      rw [i64_in (q + 1) (by omega), i64_in _ (by omega)] at this
      rw [if_pos c2]
      have e : (if (0 : Int) > x.Period - (q + 1) then 0 else x.Period - (q + 1)) = max (x.Period - (q + 1)) 0 := by split <;> omega
      rw [e] at this; exact this
    · have := rTgt_p3 x _ _ L c1' (by simpa using c2)
      simp only at this
      rw [i64_in _ (by omega)] at this
      rw [if_neg c2]
      have e : (if (0 : Int) > x.Period - q then 0 else x.Period - q) = max (x.Period - q) 0 := by split <;> omega
      rw [e] at this; exact this

end Go.Proofs.YtngeghiaakkdbaaDoor
