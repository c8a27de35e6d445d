/-
  PictureReads: what is written through the registers is read through them, one behind; colours at once, of six bits: the Go function gives true and leaves its arguments as they were. No condition: of every input.
-/
import Derived.Test.YtgnhhnmpeklciaaMKg
namespace Go.Proofs.Ytgnhhnmpeklciaa
open Go VX Go.ChangeShapes Go.WideShapes Go.RowKit Go.Joins
set_option maxRecDepth 100000
set_option linter.unusedVariables false

theorem own_x : ownKnob Try.prog.godebug = none := by kernel_rfl
theorem laid_x : laidOutB Try.prog = true := by kernel_rfl
theorem low_x : decide (Try.prog.globals.size < (begin Try.prog (fun _ _ => 0) default).world.heap.size) = true := by kernel_rfl
theorem pictureReads_lifted (os : Os) (started : os.Started) (H : Type) (enc : TypeId × Value → H) :
    ReturnsInHanded {} Try.checked os 3 .any (Rows.pictureReadsSpec.pre6 enc Try.prog Try.f3 Rows.pictureReadsRow.domain false) (Rows.pictureReadsSpec.post enc Try.prog Try.f3 false true false false) := by
  refine row_of (C := Try.checked) (tb := 4) (n := 3) own_x started (by kernel_rfl) Try.func3 rfl (by kernel_rfl) Try.underlying4 laid_x (by kernel_rfl) (by kernel_rfl) ?_ low_x
    (ChangeSpec.witness6 (enc := enc) (C := Try.checked) false ⟨#[], #[.int .u16 0, .slice none 0 0, .bool false], []⟩ 8 (by kernel_rfl) (by kernel_rfl) (by kernel_rfl) (by kernel_rfl)) ?_
  · intro ds hds
    match ds, hds with
    | [d0, d1, d2], _ => rfl
  · intro W base args ds ps hval0 hA0 _ hg hsh
    have hval : ∀ (j : Nat) t v, Try.f3.params[j]? = some t → args[j]? = some v → Value.okWide Try.prog W .any base t v := hval0
    have hA : DataW.TrodAll enc Try.prog W 0 (fun _ => true) true Try.f3.params.toList args.toList ds ps := hA0
    rw [Try.params3] at hA hval
    obtain ⟨al⟩ := args
    replace hA : DataW.TrodAll enc Try.prog W 0 (fun _ => true) true [22, 23, 4] al ds ps := hA
    obtain ⟨v0, r0, d0, s0, p0, q0, rfl, rfl, rfl, h0, hA⟩ := trodAll_cons hA
    obtain ⟨v1, r1, d1, s1, p1, q1, rfl, rfl, rfl, h1, hA⟩ := trodAll_cons hA
    obtain ⟨v2, r2, d2, s2, p2, q2, rfl, rfl, rfl, h2, hA⟩ := trodAll_cons hA
    obtain ⟨rfl, rfl, rfl⟩ := trodAll_nil hA
    obtain ⟨a0, rfl, rfl, rfl, w0⟩ := open_int Try.underlying22 (hval 0 22 v0 rfl rfl) h0
    obtain ⟨N1, k1, g1, w1, b1, hb1, B1, R1⟩ := open_lines (any_open hsh) (hval 1 23 v1 rfl rfl) h1
    obtain ⟨a2, rfl, rfl, rfl⟩ := open_bool Try.underlying4 (hval 2 4 v2 rfl rfl) h2
    exact calls_of_spec_hand hG (reads_true a0 N1 k1 g1 a2 (wf_u16 w0) w1.1 w1.2) hg hb1 (hand_one rfl (B1 _ _)) (.cons (.int _ _) (.cons (R1 _ 1000 (muH_1000 hG b1)) (.cons (.bool _) .nil)))

theorem pictureReads_holds : Rows.PictureReadsSaid :=
  OpenClaim.holds_of_wide 3 Try.f3 rfl rfl rfl rfl rfl rfl rfl ⟨rfl, rfl, rfl, rfl, rfl⟩ rfl rfl rfl rfl rfl (by kernel_rfl) Try.func3 (by kernel_rfl)
    (of_decide_eq_true (by kernel_rfl)) (by unfold Func.isWrapper; first | (rw [if_pos (by decide +kernel)]; kernel_rfl) | (rw [if_neg (by decide +kernel)]; exact ⟨rfl, rfl⟩))
    (fun os started H enc _ => pictureReads_lifted os started H enc)

#print axioms pictureReads_holds
end Go.Proofs.Ytgnhhnmpeklciaa
