/-
  LoopyScrolls: a dot that is told in two writes, and the picture, is read just there from the next line and the top on; each row down is one dot further, each column eight: the Go function gives true and leaves its arguments as they were. No condition: of every input.
-/
import Derived.Test.YtonbliaaicacgaaLR
import Derived.Test.YtonbliaaicacgaaLE
namespace Go.Proofs.Ytonbliaaicacgaa
open Go VX Go.ChangeShapes Go.WideShapes Go.RowKit Go.Joins
set_option maxRecDepth 100000
set_option linter.unusedVariables false

theorem loopyScrolls_lifted (os : Os) (started : os.Started) (H : Type) (enc : TypeId × Value → H) :
    ReturnsInHanded {} Try.checked os 8 .any (Rows.loopyScrollsSpec.pre6 enc Try.prog Try.f8 Rows.loopyScrollsRow.domain false) (Rows.loopyScrollsSpec.post enc Try.prog Try.f8 false true false false) := by
  refine row_of (C := Try.checked) (tb := 4) (n := 6) own_x started (by kernel_rfl) Try.func8 rfl (by kernel_rfl) Try.underlying4 laid_x (by kernel_rfl) (by kernel_rfl) ?_ low_x
    (ChangeSpec.witness6 (enc := enc) (C := Try.checked) false ⟨#[], #[.agg #[.int .u16 0, .int .u16 0, .int .u8 0, .bool false], .int .u8 0, .int .u8 0, .int .u8 0, .int .u8 0, .int .u8 0], []⟩ 8 (by kernel_rfl) (by kernel_rfl) (by kernel_rfl) (by kernel_rfl)) ?_
  · intro ds hds
    match ds, hds with
    | [d0, d1, d2, d3, d4, d5], _ => rfl
  · intro W base args ds ps hval0 hA0 _ hg _
    have hval : ∀ (j : Nat) t v, Try.f8.params[j]? = some t → args[j]? = some v → Value.okWide Try.prog W .any base t v := hval0
    have hA : DataW.TrodAll enc Try.prog W 0 (fun _ => true) true Try.f8.params.toList args.toList ds ps := hA0
    rw [Try.params8] at hA hval
    obtain ⟨al⟩ := args
    replace hA : DataW.TrodAll enc Try.prog W 0 (fun _ => true) true [24, 5, 5, 5, 5, 5] al ds ps := hA
    obtain ⟨v0, r0, d0, s0, p0, q0, rfl, rfl, rfl, h0, hA⟩ := trodAll_cons hA
    obtain ⟨v1, r1, d1, s1, p1, q1, rfl, rfl, rfl, h1, hA⟩ := trodAll_cons hA
    obtain ⟨v2, r2, d2, s2, p2, q2, rfl, rfl, rfl, h2, hA⟩ := trodAll_cons hA
    obtain ⟨v3, r3, d3, s3, p3, q3, rfl, rfl, rfl, h3, hA⟩ := trodAll_cons hA
    obtain ⟨v4, r4, d4, s4, p4, q4, rfl, rfl, rfl, h4, hA⟩ := trodAll_cons hA
    obtain ⟨v5, r5, d5, s5, p5, q5, rfl, rfl, rfl, h5, hA⟩ := trodAll_cons hA
    obtain ⟨rfl, rfl, rfl⟩ := trodAll_nil hA
    obtain ⟨a0, rfl, w0⟩ := open_scroll (hval 0 24 v0 rfl rfl) h0
    obtain ⟨a1, rfl, rfl, rfl, w1⟩ := open_int Try.underlying5 (hval 1 5 v1 rfl rfl) h1
    obtain ⟨a2, rfl, rfl, rfl, w2⟩ := open_int Try.underlying5 (hval 2 5 v2 rfl rfl) h2
    obtain ⟨a3, rfl, rfl, rfl, w3⟩ := open_int Try.underlying5 (hval 3 5 v3 rfl rfl) h3
    obtain ⟨a4, rfl, rfl, rfl, w4⟩ := open_int Try.underlying5 (hval 4 5 v4 rfl rfl) h4
    obtain ⟨a5, rfl, rfl, rfl, w5⟩ := open_int Try.underlying5 (hval 5 5 v5 rfl rfl) h5
    exact calls_of_spec hG (scrolls_true a0 ⟨w0.1.1, w0.1.2, w0.2.1.1, w0.2.1.2, w0.2.2.1, w0.2.2.2⟩ a1 a2 a3 a4 a5 (wf_u8 w1) (wf_u8 w2) (wf_u8 w3) (wf_u8 w4) (wf_u8 w5)) hg (.cons (scroll_rel _ _) (.cons (.int _ _) (.cons (.int _ _) (.cons (.int _ _) (.cons (.int _ _) (.cons (.int _ _) .nil))))))

theorem loopyScrolls_holds : Rows.LoopyScrollsSaid :=
  OpenClaim.holds_of_wide 8 Try.f8 rfl rfl rfl rfl rfl rfl rfl ⟨rfl, rfl, rfl, rfl, rfl⟩ rfl rfl rfl rfl rfl (by kernel_rfl) Try.func8 (by kernel_rfl)
    (of_decide_eq_true (by kernel_rfl)) (by unfold Func.isWrapper; first | (rw [if_pos (by decide +kernel)]; kernel_rfl) | (rw [if_neg (by decide +kernel)]; exact ⟨rfl, rfl⟩))
    (fun os started H enc _ => loopyScrolls_lifted os started H enc)

#print axioms loopyScrolls_holds
end Go.Proofs.Ytonbliaaicacgaa
