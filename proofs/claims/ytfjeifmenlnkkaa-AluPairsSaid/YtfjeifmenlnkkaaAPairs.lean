/-
  AluPairs: an operation of two does the one, then the other, of any registers and byte: the Go function gives true and leaves its arguments as they were. No condition: of every input.
-/
import Derived.Test.YtfjeifmenlnkkaaAR
import Derived.Test.YtfjeifmenlnkkaaAW
namespace Go.Proofs.Ytfjeifmenlnkkaa
open Go VX Go.ChangeShapes Go.WideShapes Go.RowKit Go.Joins
set_option maxRecDepth 100000
set_option linter.unusedVariables false

theorem aluPairs_lifted (os : Os) (started : os.Started) (H : Type) (enc : TypeId × Value → H) :
    ReturnsInHanded {} Try.checked os 11 .any (Rows.aluPairsSpec.pre6 enc Try.prog Try.f11 Rows.aluPairsRow.domain false) (Rows.aluPairsSpec.post enc Try.prog Try.f11 false true false false) := by
  refine row_of (C := Try.checked) (tb := 4) (n := 3) own_x started (by kernel_rfl) Try.func11 rfl (by kernel_rfl) Try.underlying4 laid_x (by kernel_rfl) (by kernel_rfl) ?_ low_x
    (ChangeSpec.witness6 (enc := enc) (C := Try.checked) false ⟨#[], #[.agg #[.int .u8 0, .int .u8 0, .int .u8 0, .int .u8 0, .int .u8 0], .int .u8 0, .int .u8 0], []⟩ 8 (by kernel_rfl) (by kernel_rfl) (by kernel_rfl) (by kernel_rfl)) ?_
  · intro ds hds
    match ds, hds with
    | [d0, d1, d2], _ => rfl
  · intro W base args ds ps hval0 hA0 _ hg _
    have hval : ∀ (j : Nat) t v, Try.f11.params[j]? = some t → args[j]? = some v → Value.okWide Try.prog W .any base t v := hval0
    have hA : DataW.TrodAll enc Try.prog W 0 (fun _ => true) true Try.f11.params.toList args.toList ds ps := hA0
    rw [Try.params11] at hA hval
    obtain ⟨al⟩ := args
    replace hA : DataW.TrodAll enc Try.prog W 0 (fun _ => true) true [23, 5, 5] al ds ps := hA
    obtain ⟨v0, r0, d0, s0, p0, q0, rfl, rfl, rfl, h0, hA⟩ := trodAll_cons hA
    obtain ⟨v1, r1, d1, s1, p1, q1, rfl, rfl, rfl, h1, hA⟩ := trodAll_cons hA
    obtain ⟨v2, r2, d2, s2, p2, q2, rfl, rfl, rfl, h2, hA⟩ := trodAll_cons hA
    obtain ⟨rfl, rfl, rfl⟩ := trodAll_nil hA
    obtain ⟨a0, rfl, w0⟩ := open_unit (hval 0 23 v0 rfl rfl) h0
    obtain ⟨a1, rfl, rfl, rfl, w1⟩ := open_int Try.underlying5 (hval 1 5 v1 rfl rfl) h1
    obtain ⟨a2, rfl, rfl, rfl, w2⟩ := open_int Try.underlying5 (hval 2 5 v2 rfl rfl) h2
    exact calls_of_spec hG (pairs_true a0 a1 a2 (wf_u8 w2)) hg (.cons (unit_rel _ _) (.cons (.int _ _) (.cons (.int _ _) .nil)))

theorem aluPairs_holds : Rows.AluPairsSaid :=
  OpenClaim.holds_of_wide 11 Try.f11 rfl rfl rfl rfl rfl rfl rfl ⟨rfl, rfl, rfl, rfl, rfl⟩ rfl rfl rfl rfl rfl (by kernel_rfl) Try.func11 (by kernel_rfl)
    (of_decide_eq_true (by kernel_rfl)) (by unfold Func.isWrapper; first | (rw [if_pos (by decide +kernel)]; kernel_rfl) | (rw [if_neg (by decide +kernel)]; exact ⟨rfl, rfl⟩))
    (fun os started H enc _ => aluPairs_lifted os started H enc)

#print axioms aluPairs_holds
end Go.Proofs.Ytfjeifmenlnkkaa
