/-
  CoreCounts: each instruction takes as many cycles as layer 9 tells: the Go function gives true and leaves its arguments as they were. No condition: of every input.
-/
import Derived.Test.YtmnhmplcpijanaaGreatDA
import Derived.Test.YtmnhmplcpijanaaGreatCR
namespace Go.Proofs.YtmnhmplcpijanaaGreat
open Go VX Go.ChangeShapes Go.WideShapes Go.RowKit Go.Joins
set_option maxRecDepth 100000
set_option linter.unusedVariables false

theorem own_x : ownKnob Tryz.prog.godebug = none := by kernel_rfl
theorem laid_x : laidOutB Tryz.prog = true := by kernel_rfl
theorem low_x : decide (Tryz.prog.globals.size < (begin Tryz.prog (fun _ _ => 0) default).world.heap.size) = true := by kernel_rfl
theorem coreCounts_lifted (os : Os) (started : os.Started) (H : Type) (enc : TypeId × Value → H) :
    ReturnsInHanded {} Tryz.checked os 10 .any (Rows.coreCountsSpec.pre6 enc Tryz.prog Tryz.f10 Rows.coreCountsRow.domain false) (Rows.coreCountsSpec.post enc Tryz.prog Tryz.f10 false true false false) := by
  refine row_of (C := Tryz.checked) (tb := 4) (n := 5) own_x started (by kernel_rfl) Tryz.func10 rfl (by kernel_rfl) Tryz.underlying4 laid_x (by kernel_rfl) (by kernel_rfl) ?_ low_x
    (ChangeSpec.witness6 (enc := enc) (C := Tryz.checked) false ⟨#[], #[.int .u8 0, .int .u8 0, .int .u8 0, .int .u8 0, .agg #[.int .u8 0, .int .u8 0, .int .u8 0, .int .u8 0, .int .u8 0, .int .u16 0]], []⟩ 8 (by kernel_rfl) (by kernel_rfl) (by kernel_rfl) (by kernel_rfl)) ?_
  · intro ds hds
    match ds, hds with
    | [d0, d1, d2, d3, d4], _ => rfl
  · intro W base args ds ps hval0 hA0 _ hg _
    have hval : ∀ (j : Nat) t v, Tryz.f10.params[j]? = some t → args[j]? = some v → Value.okWide Tryz.prog W .any base t v := hval0
    have hA : DataW.TrodAll enc Tryz.prog W 0 (fun _ => true) true Tryz.f10.params.toList args.toList ds ps := hA0
    rw [Tryz.params10] at hA hval
    obtain ⟨al⟩ := args
    replace hA : DataW.TrodAll enc Tryz.prog W 0 (fun _ => true) true [5, 5, 5, 5, 27] al ds ps := hA
    obtain ⟨v0, r0, d0, s0, p0, q0, rfl, rfl, rfl, h0, hA⟩ := trodAll_cons hA
    obtain ⟨v1, r1, d1, s1, p1, q1, rfl, rfl, rfl, h1, hA⟩ := trodAll_cons hA
    obtain ⟨v2, r2, d2, s2, p2, q2, rfl, rfl, rfl, h2, hA⟩ := trodAll_cons hA
    obtain ⟨v3, r3, d3, s3, p3, q3, rfl, rfl, rfl, h3, hA⟩ := trodAll_cons hA
    obtain ⟨v4, r4, d4, s4, p4, q4, rfl, rfl, rfl, h4, hA⟩ := trodAll_cons hA
    obtain ⟨rfl, rfl, rfl⟩ := trodAll_nil hA
    obtain ⟨a0, rfl, rfl, rfl, w0⟩ := open_int Tryz.underlying5 (hval 0 5 v0 rfl rfl) h0
    obtain ⟨a1, rfl, rfl, rfl, w1⟩ := open_int Tryz.underlying5 (hval 1 5 v1 rfl rfl) h1
    obtain ⟨a2, rfl, rfl, rfl, w2⟩ := open_int Tryz.underlying5 (hval 2 5 v2 rfl rfl) h2
    obtain ⟨a3, rfl, rfl, rfl, w3⟩ := open_int Tryz.underlying5 (hval 3 5 v3 rfl rfl) h3
    obtain ⟨a4, rfl, w4⟩ := open_regs (hval 4 27 v4 rfl rfl) h4
    exact calls_of_spec hG (counts_true a0 a1 a2 a3 a4 (wf_u8 w0) (wf_u8 w1) (wf_u8 w2) (wf_u8 w3) w4) hg (.cons (.int _ _) (.cons (.int _ _) (.cons (.int _ _) (.cons (.int _ _) (.cons (regs_rel _ _) .nil)))))

theorem coreCounts_holds : Rows.CoreCountsSaid :=
  OpenClaim.holds_of_wide 10 Tryz.f10 rfl rfl rfl rfl rfl rfl rfl ⟨rfl, rfl, rfl, rfl, rfl⟩ rfl rfl rfl rfl rfl (by kernel_rfl) Tryz.func10 (by kernel_rfl)
    (of_decide_eq_true (by kernel_rfl)) (by unfold Func.isWrapper; first | (rw [if_pos (by decide +kernel)]; kernel_rfl) | (rw [if_neg (by decide +kernel)]; exact ⟨rfl, rfl⟩))
    (fun os started H enc _ => coreCounts_lifted os started H enc)

#print axioms coreCounts_holds
end Go.Proofs.YtmnhmplcpijanaaGreat
