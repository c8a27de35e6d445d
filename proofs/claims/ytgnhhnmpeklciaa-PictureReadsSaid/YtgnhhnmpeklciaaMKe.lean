/-
  Texts laid together: KR. No condition.
-/
import Derived.Test.YtgnhhnmpeklciaaMKd
namespace Go.Proofs.Ytgnhhnmpeklciaa
open Go VX
open Go.IntKind (i64 u8 u16)
set_option linter.unusedVariables false
set_option linter.unusedSimpArgs false
set_option maxRecDepth 100000
def cutF (N_p : Nat) (d_p : Nat) (p : Nat → Int) (most : Int) : List Int := (List.range (min N_p most.toNat)).map p
theorem cut_loop (N d : Nat) (p : Nat → Int) (m : Int) (h0 : 0 ≤ m) (hm : m ≤ 1000) (hN : (N : Int) ≤ 9223372036854775807) : ∀ (n i : Nat), i + n = N → LoopR (cutW_L1 N d p m) ((List.range (min i m.toNat)).map p, (i : Int)) ((List.range (min N m.toNat)).map p, (N : Int))
  | 0, i, h => by
    have : i = N := by omega
    subst this
    exact .last (.p3 (decide_eq_false (by show ¬ ((i : Int) < ((i : Nat) : Int)); omega)))
  | n + 1, i, h => by
    have ih := cut_loop N d p m h0 hm hN n (i + 1) (by omega)
    have hd : (decide (((i : Int) : Int) < ((N : Nat) : Int))) = true := decide_eq_true (by omega)
    have hw : i64.wrap ((i : Int) + 1) = ((i + 1 : Nat) : Int) := by rw [IntKind.wrap_i64]; omega
    by_cases hc : (i : Int) < m
    · have e : (List.range (min (i + 1) m.toNat)).map p = (List.range (min i m.toNat)).map p ++ [p (Int.toNat (i : Int))] := by
        rw [show min (i + 1) m.toNat = i + 1 by omega, show min i m.toNat = i by omega, List.range_succ, List.map_append]; rfl
      rw [e] at ih
      have st := cutW_L1.p1 (N_p := N) (d_p := d) (p := p) (most := m) (xd := ((List.range (min i m.toNat)).map p, (i : Int))) hd (by omega) (decide_eq_true hc) (by
        rw [List.length_map, List.length_range]; omega)
      simp only [hw] at st
      exact .more st ih
    · have e : (List.range (min (i + 1) m.toNat)).map p = (List.range (min i m.toNat)).map p := by
        rw [show min (i + 1) m.toNat = min i m.toNat by omega]
      rw [e] at ih
      have st := cutW_L1.p2 (N_p := N) (d_p := d) (p := p) (most := m) (xd := ((List.range (min i m.toNat)).map p, (i : Int))) hd (by omega) (decide_eq_false hc)
      simp only [hw] at st
      exact .more st ih
theorem cutF_ok (N_p : Nat) (d_p : Nat) (p : Nat → Int) (most : Int) (hm : 0 ≤ most ∧ most ≤ 1000) (hN : (N_p : Int) ≤ 9223372036854775807) : FnSpec Try.prog 13 1001 [.slice (some ⟨1000, 0, (some d_p)⟩) N_p 0, .int .i64 most] [(1000, ⟨[.gap d_p, .ints .u8 N_p p], 5, true⟩)] (.slice (some ⟨1001, 0, (some 0)⟩) (List.length (cutF N_p d_p p most)) 1) [(1001, ⟨[intsL .u8 (cutF N_p d_p p most)], 5, false⟩)] :=
  cutW_p1 N_p d_p p most (cutF N_p d_p p most, (N_p : Int)) (cut_loop N_p d_p p most hm.1 hm.2 hN N_p 0 (by omega))
theorem cut_len (N_p : Nat) (d_p : Nat) (p : Nat → Int) (most : Int) (h : 0 ≤ most) : ((cutF N_p d_p p most).length : Int) ≤ most := by
  unfold cutF; rw [List.length_map, List.length_range]; omega
end Go.Proofs.Ytgnhhnmpeklciaa
