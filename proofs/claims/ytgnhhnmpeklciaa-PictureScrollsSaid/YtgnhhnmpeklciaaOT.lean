/-
  PictureScrolls: of tiles alone, from the dot that was told on, each dot of the second picture is that of a world of 512 dots and 480 lines: the Go function gives true and leaves its arguments as they were. No condition: of every input.
-/
import Derived.Test.YtgnhhnmpeklciaaMSf
namespace Go.Proofs.Ytgnhhnmpeklciaa
open Go VX Go.ChangeShapes Go.WideShapes Go.RowKit Go.Joins
set_option maxRecDepth 100000
set_option linter.unusedVariables false

theorem own_x : ownKnob Try.prog.godebug = none := by kernel_rfl
theorem laid_x : laidOutB Try.prog = true := by kernel_rfl
theorem low_x : decide (Try.prog.globals.size < (begin Try.prog (fun _ _ => 0) default).world.heap.size) = true := by kernel_rfl
theorem pictureScrolls_lifted (os : Os) (started : os.Started) (H : Type) (enc : TypeId × Value → H) :
    ReturnsInHanded {} Try.checked os 10 .any (Rows.pictureScrollsSpec.pre6 enc Try.prog Try.f10 Rows.pictureScrollsRow.domain false) (Rows.pictureScrollsSpec.post enc Try.prog Try.f10 false true false false) := by
  refine row_of (C := Try.checked) (tb := 4) (n := 5) own_x started (by kernel_rfl) Try.func10 rfl (by kernel_rfl) Try.underlying4 laid_x (by kernel_rfl) (by kernel_rfl) ?_ low_x
    (ChangeSpec.witness6 (enc := enc) (C := Try.checked) false ⟨#[], #[.agg #[.slice none 0 0, .slice none 0 0, .slice none 0 0, .slice none 0 0, .bool false], .int .u8 0, .int .u8 0, .int .u8 0, .int .u8 0], []⟩ 8 (by kernel_rfl) (by kernel_rfl) (by kernel_rfl) (by kernel_rfl)) ?_
  · intro ds hds
    match ds, hds with
    | [d0, d1, d2, d3, d4], _ => rfl
  · intro W base args ds ps hval0 hA0 _ hg hsh
    have hval : ∀ (j : Nat) t v, Try.f10.params[j]? = some t → args[j]? = some v → Value.okWide Try.prog W .any base t v := hval0
    have hA : DataW.TrodAll enc Try.prog W 0 (fun _ => true) true Try.f10.params.toList args.toList ds ps := hA0
    rw [Try.params10] at hA hval
    obtain ⟨al⟩ := args
    replace hA : DataW.TrodAll enc Try.prog W 0 (fun _ => true) true [45, 5, 5, 5, 5] al ds ps := hA
    obtain ⟨v0, r0, d0, s0, p0, q0, rfl, rfl, rfl, h0, hA⟩ := trodAll_cons hA
    obtain ⟨v1, r1, d1, s1, p1, q1, rfl, rfl, rfl, h1, hA⟩ := trodAll_cons hA
    obtain ⟨v2, r2, d2, s2, p2, q2, rfl, rfl, rfl, h2, hA⟩ := trodAll_cons hA
    obtain ⟨v3, r3, d3, s3, p3, q3, rfl, rfl, rfl, h3, hA⟩ := trodAll_cons hA
    obtain ⟨v4, r4, d4, s4, p4, q4, rfl, rfl, rfl, h4, hA⟩ := trodAll_cons hA
    obtain ⟨rfl, rfl, rfl⟩ := trodAll_nil hA
    obtain ⟨N0, k0, g0, N1, k1, g1, N2, k2, g2, N3, k3, g3, u, x0, x1, x2, x3, rfl, y0, y1, y2, y3, ⟨b0, hb0, B0, R0⟩, ⟨b1, hb1, B1, R1⟩, ⟨b2, hb2, B2, R2⟩, ⟨b3, hb3, B3, R3⟩⟩ := open_scene (any_open hsh) (hval 0 45 v0 rfl rfl) h0
    obtain ⟨a1, rfl, rfl, rfl, w1⟩ := open_int Try.underlying5 (hval 1 5 v1 rfl rfl) h1
    obtain ⟨a2, rfl, rfl, rfl, w2⟩ := open_int Try.underlying5 (hval 2 5 v2 rfl rfl) h2
    obtain ⟨a3, rfl, rfl, rfl, w3⟩ := open_int Try.underlying5 (hval 3 5 v3 rfl rfl) h3
    obtain ⟨a4, rfl, rfl, rfl, w4⟩ := open_int Try.underlying5 (hval 4 5 v4 rfl rfl) h4
    exact calls_of_spec_hands hG [b0, b1, b2, b3] (scrolls_true N0 k0 g0 N1 k1 g1 N2 k2 g2 N3 k3 g3 u a1 a2 a3 a4 y0 y1 y2 y3 (wf_u8 w1) (wf_u8 w2) (wf_u8 w3) (wf_u8 w4)) rfl hg (by intro b hb; simp only [List.mem_cons, List.not_mem_nil, or_false] at hb; rcases hb with rfl | rfl | rfl | rfl <;> assumption) (hands_cons (muL_at hG (j := 0) rfl) rfl (B0 _ _) (hands_cons (muL_at hG (j := 1) rfl) rfl (B1 _ _) (hands_cons (muL_at hG (j := 2) rfl) rfl (B2 _ _) (hands_cons (muL_at hG (j := 3) rfl) rfl (B3 _ _) hands_nil)))) (.cons (.agg (.cons (R0 _ 1000 (muL_at hG (j := 0) rfl)) (.cons (R1 _ 1001 (muL_at hG (j := 1) rfl)) (.cons (R2 _ 1002 (muL_at hG (j := 2) rfl)) (.cons (R3 _ 1003 (muL_at hG (j := 3) rfl)) (.cons (.bool _) .nil)))))) (.cons (.int _ _) (.cons (.int _ _) (.cons (.int _ _) (.cons (.int _ _) .nil)))))

theorem pictureScrolls_holds : Rows.PictureScrollsSaid :=
  OpenClaim.holds_of_wide 10 Try.f10 rfl rfl rfl rfl rfl rfl rfl ⟨rfl, rfl, rfl, rfl, rfl⟩ rfl rfl rfl rfl rfl (by kernel_rfl) Try.func10 (by kernel_rfl)
    (of_decide_eq_true (by kernel_rfl)) (by unfold Func.isWrapper; first | (rw [if_pos (by decide +kernel)]; kernel_rfl) | (rw [if_neg (by decide +kernel)]; exact ⟨rfl, rfl⟩))
    (fun os started H enc _ => pictureScrolls_lifted os started H enc)

#print axioms pictureScrolls_holds
end Go.Proofs.Ytgnhhnmpeklciaa
