/-
  CoreTwins: two cores of one beginning go alike, a copy goes on by itself: the Go function gives true and leaves its arguments as they were. No condition: of every input.
-/
import Derived.Test.YtmnhmplcpijanaaGreatDX
import Derived.Test.YtmnhmplcpijanaaGreatDV
namespace Go.Proofs.YtmnhmplcpijanaaGreat
open Go VX Go.ChangeShapes Go.WideShapes Go.RowKit Go.Joins
set_option maxRecDepth 100000
set_option linter.unusedVariables false

theorem own_x : ownKnob Tryz.prog.godebug = none := by kernel_rfl
theorem laid_x : laidOutB Tryz.prog = true := by kernel_rfl
theorem low_x : decide (Tryz.prog.globals.size < (begin Tryz.prog (fun _ _ => 0) default).world.heap.size) = true := by kernel_rfl
theorem coreTwins_lifted (os : Os) (started : os.Started) (H : Type) (enc : TypeId × Value → H) :
    ReturnsInHanded {} Tryz.checked os 8 .any (Rows.coreTwinsSpec.pre6 enc Tryz.prog Tryz.f8 Rows.coreTwinsRow.domain false) (Rows.coreTwinsSpec.post enc Tryz.prog Tryz.f8 false true false false) := by
  refine row_of (C := Tryz.checked) (tb := 4) (n := 4) own_x started (by kernel_rfl) Tryz.func8 rfl (by kernel_rfl) Tryz.underlying4 laid_x (by kernel_rfl) (by kernel_rfl) ?_ low_x
    (ChangeSpec.witness6 (enc := enc) (C := Tryz.checked) false ⟨#[], #[.slice none 0 0, .agg #[.int .u8 0, .int .u8 0, .int .u8 0, .int .u8 0, .int .u8 0, .int .u16 0], .int .u8 0, .slice none 0 0], []⟩ 8 (by kernel_rfl) (by kernel_rfl) (by kernel_rfl) (by kernel_rfl)) ?_
  · intro ds hds
    match ds, hds with
    | [d0, d1, d2, d3], _ => rfl
  · intro W base args ds ps hval0 hA0 _ hg hsh
    have hval : ∀ (j : Nat) t v, Tryz.f8.params[j]? = some t → args[j]? = some v → Value.okWide Tryz.prog W .any base t v := hval0
    have hA : DataW.TrodAll enc Tryz.prog W 0 (fun _ => true) true Tryz.f8.params.toList args.toList ds ps := hA0
    rw [Tryz.params8] at hA hval
    obtain ⟨al⟩ := args
    replace hA : DataW.TrodAll enc Tryz.prog W 0 (fun _ => true) true [22, 27, 5, 22] al ds ps := hA
    obtain ⟨v0, r0, d0, s0, p0, q0, rfl, rfl, rfl, h0, hA⟩ := trodAll_cons hA
    obtain ⟨v1, r1, d1, s1, p1, q1, rfl, rfl, rfl, h1, hA⟩ := trodAll_cons hA
    obtain ⟨v2, r2, d2, s2, p2, q2, rfl, rfl, rfl, h2, hA⟩ := trodAll_cons hA
    obtain ⟨v3, r3, d3, s3, p3, q3, rfl, rfl, rfl, h3, hA⟩ := trodAll_cons hA
    obtain ⟨rfl, rfl, rfl⟩ := trodAll_nil hA
    obtain ⟨N0, k0, g0, w0, b0, hb0, B0, R0⟩ := open_lines (any_open hsh) (hval 0 22 v0 rfl rfl) h0
    obtain ⟨a1, rfl, w1⟩ := open_regs (hval 1 27 v1 rfl rfl) h1
    obtain ⟨a2, rfl, rfl, rfl, w2⟩ := open_int Tryz.underlying5 (hval 2 5 v2 rfl rfl) h2
    obtain ⟨N3, k3, g3, w3, b3, hb3, B3, R3⟩ := open_lines (any_open hsh) (hval 3 22 v3 rfl rfl) h3
    exact calls_of_spec_hand2 hG (twins_true N0 k0 g0 a1 a2 N3 k3 g3 w0.1 w0.2 w1 (wf_u8 w2) w3.1 w3.2) hg hb0 hb3 (hand_two rfl rfl (B0 _ _) (B3 _ _)) (.cons (R0 _ 1000 (muH2_1000 hG b0 b3)) (.cons (regs_rel _ _) (.cons (.int _ _) (.cons (R3 _ 1001 (muH2_1001 hG b0 b3)) .nil))))

theorem coreTwins_holds : Rows.CoreTwinsSaid :=
  OpenClaim.holds_of_wide 8 Tryz.f8 rfl rfl rfl rfl rfl rfl rfl ⟨rfl, rfl, rfl, rfl, rfl⟩ rfl rfl rfl rfl rfl (by kernel_rfl) Tryz.func8 (by kernel_rfl)
    (of_decide_eq_true (by kernel_rfl)) (by unfold Func.isWrapper; first | (rw [if_pos (by decide +kernel)]; kernel_rfl) | (rw [if_neg (by decide +kernel)]; exact ⟨rfl, rfl⟩))
    (fun os started H enc _ => coreTwins_lifted os started H enc)

#print axioms coreTwins_holds
end Go.Proofs.YtmnhmplcpijanaaGreat
