/-
  LoopyRounds: from any place 64 columns to the right it is there again, from a line that is seen 480 rows down, too, and no fewer columns bring it there: the Go function gives true and leaves its argument as it was. No condition: of every input.
-/
import Derived.Test.YtonbliaaicacgaaLR
import Derived.Test.YtonbliaaicacgaaLG
namespace Go.Proofs.Ytonbliaaicacgaa
open Go VX Go.ChangeShapes Go.WideShapes Go.RowKit Go.Joins
set_option maxRecDepth 100000
set_option linter.unusedVariables false

theorem loopyRounds_lifted (os : Os) (started : os.Started) (H : Type) (enc : TypeId × Value → H) :
    ReturnsInHanded {} Try.checked os 7 .any (Rows.loopyRoundsSpec.pre6 enc Try.prog Try.f7 Rows.loopyRoundsRow.domain false) (Rows.loopyRoundsSpec.post enc Try.prog Try.f7 false true false false) := by
  refine row_of (C := Try.checked) (tb := 4) (n := 1) own_x started (by kernel_rfl) Try.func7 rfl (by kernel_rfl) Try.underlying4 laid_x (by kernel_rfl) (by kernel_rfl) ?_ low_x
    (ChangeSpec.witness6 (enc := enc) (C := Try.checked) false ⟨#[], #[.agg #[.int .u16 0, .int .u16 0, .int .u8 0, .bool false]], []⟩ 8 (by kernel_rfl) (by kernel_rfl) (by kernel_rfl) (by kernel_rfl)) ?_
  · intro ds hds
    match ds, hds with
    | [d0], _ => rfl
  · intro W base args ds ps hval0 hA0 _ hg _
    have hval : ∀ (j : Nat) t v, Try.f7.params[j]? = some t → args[j]? = some v → Value.okWide Try.prog W .any base t v := hval0
    have hA : DataW.TrodAll enc Try.prog W 0 (fun _ => true) true Try.f7.params.toList args.toList ds ps := hA0
    rw [Try.params7] at hA hval
    obtain ⟨al⟩ := args
    replace hA : DataW.TrodAll enc Try.prog W 0 (fun _ => true) true [24] al ds ps := hA
    obtain ⟨v0, r0, d0, s0, p0, q0, rfl, rfl, rfl, h0, hA⟩ := trodAll_cons hA
    obtain ⟨rfl, rfl, rfl⟩ := trodAll_nil hA
    obtain ⟨a0, rfl, w0⟩ := open_scroll (hval 0 24 v0 rfl rfl) h0
    exact calls_of_spec hG (rounds_true a0 ⟨w0.1.1, w0.1.2, w0.2.1.1, w0.2.1.2, w0.2.2.1, w0.2.2.2⟩) hg (.cons (scroll_rel _ _) .nil)

theorem loopyRounds_holds : Rows.LoopyRoundsSaid :=
  OpenClaim.holds_of_wide 7 Try.f7 rfl rfl rfl rfl rfl rfl rfl ⟨rfl, rfl, rfl, rfl, rfl⟩ rfl rfl rfl rfl rfl (by kernel_rfl) Try.func7 (by kernel_rfl)
    (of_decide_eq_true (by kernel_rfl)) (by unfold Func.isWrapper; first | (rw [if_pos (by decide +kernel)]; kernel_rfl) | (rw [if_neg (by decide +kernel)]; exact ⟨rfl, rfl⟩))
    (fun os started H enc _ => loopyRounds_lifted os started H enc)

#print axioms loopyRounds_holds
end Go.Proofs.Ytonbliaaicacgaa
