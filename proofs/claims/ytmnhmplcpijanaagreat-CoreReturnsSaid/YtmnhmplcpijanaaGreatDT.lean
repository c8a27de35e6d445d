/-
  CoreReturns: an interrupt whose program is RTI alone leaves all registers as they were: the Go function gives true and leaves its arguments as they were. No condition: of every input.
-/
import Derived.Test.YtmnhmplcpijanaaGreatDS
import Derived.Test.YtmnhmplcpijanaaGreatCR
namespace Go.Proofs.YtmnhmplcpijanaaGreat
open Go VX Go.ChangeShapes Go.WideShapes Go.RowKit Go.Joins
set_option maxRecDepth 100000
set_option linter.unusedVariables false

theorem own_x : ownKnob Tryz.prog.godebug = none := by kernel_rfl
theorem laid_x : laidOutB Tryz.prog = true := by kernel_rfl
theorem low_x : decide (Tryz.prog.globals.size < (begin Tryz.prog (fun _ _ => 0) default).world.heap.size) = true := by kernel_rfl
theorem coreReturns_lifted (os : Os) (started : os.Started) (H : Type) (enc : TypeId × Value → H) :
    ReturnsInHanded {} Tryz.checked os 4 .any (Rows.coreReturnsSpec.pre6 enc Tryz.prog Tryz.f4 Rows.coreReturnsRow.domain false) (Rows.coreReturnsSpec.post enc Tryz.prog Tryz.f4 false true false false) := by
  refine row_of (C := Tryz.checked) (tb := 4) (n := 3) own_x started (by kernel_rfl) Tryz.func4 rfl (by kernel_rfl) Tryz.underlying4 laid_x (by kernel_rfl) (by kernel_rfl) ?_ low_x
    (ChangeSpec.witness6 (enc := enc) (C := Tryz.checked) false ⟨#[], #[.agg #[.int .u8 0, .int .u8 0, .int .u8 0, .int .u8 0, .int .u8 0, .int .u16 0], .bool false, .int .u8 0], []⟩ 8 (by kernel_rfl) (by kernel_rfl) (by kernel_rfl) (by kernel_rfl)) ?_
  · intro ds hds
    match ds, hds with
    | [d0, d1, d2], _ => rfl
  · intro W base args ds ps hval0 hA0 _ hg _
    have hval : ∀ (j : Nat) t v, Tryz.f4.params[j]? = some t → args[j]? = some v → Value.okWide Tryz.prog W .any base t v := hval0
    have hA : DataW.TrodAll enc Tryz.prog W 0 (fun _ => true) true Tryz.f4.params.toList args.toList ds ps := hA0
    rw [Tryz.params4] at hA hval
    obtain ⟨al⟩ := args
    replace hA : DataW.TrodAll enc Tryz.prog W 0 (fun _ => true) true [27, 4, 5] al ds ps := hA
    obtain ⟨v0, r0, d0, s0, p0, q0, rfl, rfl, rfl, h0, hA⟩ := trodAll_cons hA
    obtain ⟨v1, r1, d1, s1, p1, q1, rfl, rfl, rfl, h1, hA⟩ := trodAll_cons hA
    obtain ⟨v2, r2, d2, s2, p2, q2, rfl, rfl, rfl, h2, hA⟩ := trodAll_cons hA
    obtain ⟨rfl, rfl, rfl⟩ := trodAll_nil hA
    obtain ⟨a0, rfl, w0⟩ := open_regs (hval 0 27 v0 rfl rfl) h0
    obtain ⟨a1, rfl, rfl, rfl⟩ := open_bool Tryz.underlying4 (hval 1 4 v1 rfl rfl) h1
    obtain ⟨a2, rfl, rfl, rfl, w2⟩ := open_int Tryz.underlying5 (hval 2 5 v2 rfl rfl) h2
    exact calls_of_spec hG (returns_true a0 a1 a2 w0 (wf_u8 w2)) hg (.cons (regs_rel _ _) (.cons (.bool _) (.cons (.int _ _) .nil)))

theorem coreReturns_holds : Rows.CoreReturnsSaid :=
  OpenClaim.holds_of_wide 4 Tryz.f4 rfl rfl rfl rfl rfl rfl rfl ⟨rfl, rfl, rfl, rfl, rfl⟩ rfl rfl rfl rfl rfl (by kernel_rfl) Tryz.func4 (by kernel_rfl)
    (of_decide_eq_true (by kernel_rfl)) (by unfold Func.isWrapper; first | (rw [if_pos (by decide +kernel)]; kernel_rfl) | (rw [if_neg (by decide +kernel)]; exact ⟨rfl, rfl⟩))
    (fun os started H enc _ => coreReturns_lifted os started H enc)

#print axioms coreReturns_holds
end Go.Proofs.YtmnhmplcpijanaaGreat
