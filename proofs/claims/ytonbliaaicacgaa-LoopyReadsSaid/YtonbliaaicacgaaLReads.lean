/-
  LoopyReads: of any place the tile's number, its colours and its row are where the document says: the Go function gives true and leaves its argument as it was. No condition: of every input.
-/
import Derived.Test.YtonbliaaicacgaaLR
namespace Go.Proofs.Ytonbliaaicacgaa
open Go VX Go.ChangeShapes Go.WideShapes Go.RowKit Go.Joins
set_option maxRecDepth 100000
set_option linter.unusedVariables false

theorem reads_true (s : Scroll) (h0 : 0 ≤ s.V) (h1 : s.V < 65536) : FnSpec Try.prog 3 1000 [s.enc] [] (.bool true) [] := by
  obtain ⟨e1, e2, e3, e4⟩ := reads_plain s h0 h1
  have := lawReads_p1 s awake_t (by rw [e1]; exact beq_self_eq_true _) (by rw [e2]; exact beq_self_eq_true _) (by rw [e3]; exact beq_self_eq_true _)
  rwa [e4, beq_self_eq_true] at this

theorem loopyReads_lifted (os : Os) (started : os.Started) (H : Type) (enc : TypeId × Value → H) :
    ReturnsInHanded {} Try.checked os 3 .any (Rows.loopyReadsSpec.pre6 enc Try.prog Try.f3 Rows.loopyReadsRow.domain false) (Rows.loopyReadsSpec.post enc Try.prog Try.f3 false true false false) := by
  refine row_of (C := Try.checked) (tb := 4) (n := 1) own_x started (by kernel_rfl) Try.func3 rfl (by kernel_rfl) Try.underlying4 laid_x (by kernel_rfl) (by kernel_rfl) ?_ low_x
    (ChangeSpec.witness6 (enc := enc) (C := Try.checked) false ⟨#[], #[.agg #[.int .u16 0, .int .u16 0, .int .u8 0, .bool false]], []⟩ 8 (by kernel_rfl) (by kernel_rfl) (by kernel_rfl) (by kernel_rfl)) ?_
  · intro ds hds
    match ds, hds with
    | [d], _ => rfl
  · intro W base args ds ps hval0 hA0 _ hg _
    have hval : ∀ (j : Nat) t v, Try.f3.params[j]? = some t → args[j]? = some v → Value.okWide Try.prog W .any base t v := hval0
    have hA : DataW.TrodAll enc Try.prog W 0 (fun _ => true) true Try.f3.params.toList args.toList ds ps := hA0
    rw [Try.params3] at hA hval
    obtain ⟨v0, d0, rfl, rfl, h0⟩ := trodAll_one hA
    obtain ⟨s, rfl, hV, _, _⟩ := open_scroll (hval 0 24 v0 rfl rfl) h0
    exact calls_of_spec hG (reads_true s hV.1 hV.2) hg (.cons (scroll_rel _ s) .nil)

theorem loopyReads_holds : Rows.LoopyReadsSaid :=
  OpenClaim.holds_of_wide 3 Try.f3 rfl rfl rfl rfl rfl rfl rfl ⟨rfl, rfl, rfl, rfl, rfl⟩ rfl rfl rfl rfl rfl (by kernel_rfl) Try.func3 (by kernel_rfl)
    (of_decide_eq_true (by kernel_rfl)) (by unfold Func.isWrapper; first | (rw [if_pos (by decide +kernel)]; kernel_rfl) | (rw [if_neg (by decide +kernel)]; exact ⟨rfl, rfl⟩))
    (fun os started H enc _ => loopyReads_lifted os started H enc)

#print axioms loopyReads_holds
end Go.Proofs.Ytonbliaaicacgaa
