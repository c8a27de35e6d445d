/-
  CoreWrites: what an operation writes, and when: the Go function gives true and leaves its arguments as they were. No condition: of every input.
-/
import Derived.Test.YtmnhmplcpijanaaGreatDM
import Derived.Test.YtmnhmplcpijanaaGreatCR
namespace Go.Proofs.YtmnhmplcpijanaaGreat
open Go VX Go.ChangeShapes Go.WideShapes Go.RowKit Go.Joins
set_option maxRecDepth 100000
set_option linter.unusedVariables false

theorem own_x : ownKnob Tryz.prog.godebug = none := by kernel_rfl
theorem laid_x : laidOutB Tryz.prog = true := by kernel_rfl
theorem low_x : decide (Tryz.prog.globals.size < (begin Tryz.prog (fun _ _ => 0) default).world.heap.size) = true := by kernel_rfl
theorem coreWrites_lifted (os : Os) (started : os.Started) (H : Type) (enc : TypeId × Value → H) :
    ReturnsInHanded {} Tryz.checked os 3 .any (Rows.coreWritesSpec.pre6 enc Tryz.prog Tryz.f3 Rows.coreWritesRow.domain false) (Rows.coreWritesSpec.post enc Tryz.prog Tryz.f3 false true false false) := by
  refine row_of (C := Tryz.checked) (tb := 4) (n := 2) own_x started (by kernel_rfl) Tryz.func3 rfl (by kernel_rfl) Tryz.underlying4 laid_x (by kernel_rfl) (by kernel_rfl) ?_ low_x
    (ChangeSpec.witness6 (enc := enc) (C := Tryz.checked) false ⟨#[], #[.slice none 0 0, .agg #[.int .u8 0, .int .u8 0, .int .u8 0, .int .u8 0, .int .u8 0, .int .u16 0]], []⟩ 8 (by kernel_rfl) (by kernel_rfl) (by kernel_rfl) (by kernel_rfl)) ?_
  · intro ds hds
    match ds, hds with
    | [d0, d1], _ => rfl
  · intro W base args ds ps hval0 hA0 _ hg hsh
    have hval : ∀ (j : Nat) t v, Tryz.f3.params[j]? = some t → args[j]? = some v → Value.okWide Tryz.prog W .any base t v := hval0
    have hA : DataW.TrodAll enc Tryz.prog W 0 (fun _ => true) true Tryz.f3.params.toList args.toList ds ps := hA0
    rw [Tryz.params3] at hA hval
    obtain ⟨al⟩ := args
    replace hA : DataW.TrodAll enc Tryz.prog W 0 (fun _ => true) true [22, 27] al ds ps := hA
    obtain ⟨v0, r0, d0, s0, p0, q0, rfl, rfl, rfl, h0, hA⟩ := trodAll_cons hA
    obtain ⟨v1, r1, d1, s1, p1, q1, rfl, rfl, rfl, h1, hA⟩ := trodAll_cons hA
    obtain ⟨rfl, rfl, rfl⟩ := trodAll_nil hA
    obtain ⟨N0, k0, g0, w0, b0, hb0, B0, R0⟩ := open_lines (any_open hsh) (hval 0 22 v0 rfl rfl) h0
    obtain ⟨a1, rfl, w1⟩ := open_regs (hval 1 27 v1 rfl rfl) h1
    exact calls_of_spec_hand hG (writes_true N0 k0 g0 a1 w1 w0.2) hg hb0 (hand_one rfl (B0 _ _)) (.cons (R0 _ 1000 (muH_1000 hG b0)) (.cons (regs_rel _ _) .nil))

theorem coreWrites_holds : Rows.CoreWritesSaid :=
  OpenClaim.holds_of_wide 3 Tryz.f3 rfl rfl rfl rfl rfl rfl rfl ⟨rfl, rfl, rfl, rfl, rfl⟩ rfl rfl rfl rfl rfl (by kernel_rfl) Tryz.func3 (by kernel_rfl)
    (of_decide_eq_true (by kernel_rfl)) (by unfold Func.isWrapper; first | (rw [if_pos (by decide +kernel)]; kernel_rfl) | (rw [if_neg (by decide +kernel)]; exact ⟨rfl, rfl⟩))
    (fun os started H enc _ => coreWrites_lifted os started H enc)

#print axioms coreWrites_holds
end Go.Proofs.YtmnhmplcpijanaaGreat
