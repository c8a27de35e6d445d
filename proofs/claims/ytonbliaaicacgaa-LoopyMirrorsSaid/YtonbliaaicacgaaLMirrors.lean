/-
  LoopyMirrors: of any place the place of the pictures that there are is the document's, and the two that are alike are alike: the Go function gives true and leaves its arguments as they were. No condition: of every input.
-/
import Derived.Test.YtonbliaaicacgaaLR
namespace Go.Proofs.Ytonbliaaicacgaa
open Go VX Go.ChangeShapes Go.WideShapes Go.RowKit Go.Joins
set_option maxRecDepth 100000
set_option linter.unusedVariables false

theorem mirrors_true (a : Int) (u : Bool) (h0 : 0 ≤ a) (h1 : a < 65536) : FnSpec Try.prog 4 1000 [.int .u16 a, .bool u] [] (.bool true) [] := by
  obtain ⟨e1, e2, e3, e4, e5⟩ := mirrors_plain a u h0 h1
  have := lawMirrors_p1 a u awake_t (by rw [e1]; exact beq_self_eq_true _) (decide_eq_true e2) (by rw [e3]; exact beq_self_eq_true _) (by rw [e4]; exact beq_self_eq_true _)
  rwa [e5, beq_self_eq_true] at this

theorem loopyMirrors_lifted (os : Os) (started : os.Started) (H : Type) (enc : TypeId × Value → H) :
    ReturnsInHanded {} Try.checked os 4 .any (Rows.loopyMirrorsSpec.pre6 enc Try.prog Try.f4 Rows.loopyMirrorsRow.domain false) (Rows.loopyMirrorsSpec.post enc Try.prog Try.f4 false true false false) := by
  refine row_of (C := Try.checked) (tb := 4) (n := 2) own_x started (by kernel_rfl) Try.func4 rfl (by kernel_rfl) Try.underlying4 laid_x (by kernel_rfl) (by kernel_rfl) ?_ low_x
    (ChangeSpec.witness6 (enc := enc) (C := Try.checked) false ⟨#[], #[.int .u16 0, .bool false], []⟩ 8 (by kernel_rfl) (by kernel_rfl) (by kernel_rfl) (by kernel_rfl)) ?_
  · intro ds hds
    match ds, hds with
    | [d, d2], _ => rfl
  · intro W base args ds ps hval0 hA0 _ hg _
    have hval : ∀ (j : Nat) t v, Try.f4.params[j]? = some t → args[j]? = some v → Value.okWide Try.prog W .any base t v := hval0
    have hA : DataW.TrodAll enc Try.prog W 0 (fun _ => true) true Try.f4.params.toList args.toList ds ps := hA0
    rw [Try.params4] at hA hval
    obtain ⟨v0, v1, d0, d1, p0, p1, rfl, rfl, rfl, h0, h1⟩ := trodAll_two hA
    obtain ⟨a, rfl, rfl, rfl, wa⟩ := open_int Try.underlying22 (hval 0 22 v0 rfl rfl) h0
    obtain ⟨u, rfl, rfl, rfl⟩ := open_bool Try.underlying4 (hval 1 4 v1 rfl rfl) h1
    exact calls_of_spec hG (mirrors_true a u (wf_u16 wa).1 (wf_u16 wa).2) hg (.cons (.int _ _) (.cons (.bool _) .nil))

theorem loopyMirrors_holds : Rows.LoopyMirrorsSaid :=
  OpenClaim.holds_of_wide 4 Try.f4 rfl rfl rfl rfl rfl rfl rfl ⟨rfl, rfl, rfl, rfl, rfl⟩ rfl rfl rfl rfl rfl (by kernel_rfl) Try.func4 (by kernel_rfl)
    (of_decide_eq_true (by kernel_rfl)) (by unfold Func.isWrapper; first | (rw [if_pos (by decide +kernel)]; kernel_rfl) | (rw [if_neg (by decide +kernel)]; exact ⟨rfl, rfl⟩))
    (fun os started H enc _ => loopyMirrors_lifted os started H enc)

#print axioms loopyMirrors_holds
end Go.Proofs.Ytonbliaaicacgaa
