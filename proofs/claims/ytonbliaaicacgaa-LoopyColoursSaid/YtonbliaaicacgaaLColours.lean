/-
  LoopyColours: of any place the colour's place is the document's, and the four backmost ones are one with those of the sprites: the Go function gives true and leaves its argument as it was. No condition: of every input.
-/
import Derived.Test.YtonbliaaicacgaaLR
namespace Go.Proofs.Ytonbliaaicacgaa
open Go VX Go.ChangeShapes Go.WideShapes Go.RowKit Go.Joins
set_option maxRecDepth 100000
set_option linter.unusedVariables false

theorem colours_true (a : Int) (h0 : 0 ≤ a) (h1 : a < 65536) : FnSpec Try.prog 5 1000 [.int .u16 a] [] (.bool true) [] := by
  obtain ⟨e1, e2, e3⟩ := colours_plain a h0 h1
  have := lawColours_p1 a awake_t (by rw [e1]; exact beq_self_eq_true _) (by rw [e2]; exact beq_self_eq_true _)
  rwa [e3] at this

theorem loopyColours_lifted (os : Os) (started : os.Started) (H : Type) (enc : TypeId × Value → H) :
    ReturnsInHanded {} Try.checked os 5 .any (Rows.loopyColoursSpec.pre6 enc Try.prog Try.f5 Rows.loopyColoursRow.domain false) (Rows.loopyColoursSpec.post enc Try.prog Try.f5 false true false false) := by
  refine row_of (C := Try.checked) (tb := 4) (n := 1) own_x started (by kernel_rfl) Try.func5 rfl (by kernel_rfl) Try.underlying4 laid_x (by kernel_rfl) (by kernel_rfl) ?_ low_x
    (ChangeSpec.witness6 (enc := enc) (C := Try.checked) false ⟨#[], #[.int .u16 0], []⟩ 8 (by kernel_rfl) (by kernel_rfl) (by kernel_rfl) (by kernel_rfl)) ?_
  · intro ds hds
    match ds, hds with
    | [d], _ => rfl
  · intro W base args ds ps hval0 hA0 _ hg _
    have hval : ∀ (j : Nat) t v, Try.f5.params[j]? = some t → args[j]? = some v → Value.okWide Try.prog W .any base t v := hval0
    have hA : DataW.TrodAll enc Try.prog W 0 (fun _ => true) true Try.f5.params.toList args.toList ds ps := hA0
    rw [Try.params5] at hA hval
    obtain ⟨v0, d0, rfl, rfl, h0⟩ := trodAll_one hA
    obtain ⟨a, rfl, rfl, rfl, wa⟩ := open_int Try.underlying22 (hval 0 22 v0 rfl rfl) h0
    exact calls_of_spec hG (colours_true a (wf_u16 wa).1 (wf_u16 wa).2) hg (.cons (.int _ _) .nil)

theorem loopyColours_holds : Rows.LoopyColoursSaid :=
  OpenClaim.holds_of_wide 5 Try.f5 rfl rfl rfl rfl rfl rfl rfl ⟨rfl, rfl, rfl, rfl, rfl⟩ rfl rfl rfl rfl rfl (by kernel_rfl) Try.func5 (by kernel_rfl)
    (of_decide_eq_true (by kernel_rfl)) (by unfold Func.isWrapper; first | (rw [if_pos (by decide +kernel)]; kernel_rfl) | (rw [if_neg (by decide +kernel)]; exact ⟨rfl, rfl⟩))
    (fun os started H enc _ => loopyColours_lifted os started H enc)

#print axioms loopyColours_holds
end Go.Proofs.Ytonbliaaicacgaa
