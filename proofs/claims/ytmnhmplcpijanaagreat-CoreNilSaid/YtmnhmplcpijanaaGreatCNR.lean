/-
  CoreNil: a new core is one that resets, and of a nil one there is nothing: the Go function gives true and leaves its arguments as they were. No condition: of every input.
-/
import Derived.Test.YtmnhmplcpijanaaGreatCNP
import Derived.Test.YtmnhmplcpijanaaGreatVW
namespace Go.Proofs.YtmnhmplcpijanaaGreat
open Go VX Go.ChangeShapes Go.WideShapes Go.RowKit Go.Joins
set_option maxRecDepth 100000
set_option linter.unusedVariables false

theorem own_x : ownKnob Tryz.prog.godebug = none := by kernel_rfl
theorem laid_x : laidOutB Tryz.prog = true := by kernel_rfl
theorem low_x : decide (Tryz.prog.globals.size < (begin Tryz.prog (fun _ _ => 0) default).world.heap.size) = true := by kernel_rfl
theorem coreNil_lifted (os : Os) (started : os.Started) (H : Type) (enc : TypeId × Value → H) :
    ReturnsInHanded {} Tryz.checked os 9 .any (Rows.coreNilSpec.pre6 enc Tryz.prog Tryz.f9 Rows.coreNilRow.domain false) (Rows.coreNilSpec.post enc Tryz.prog Tryz.f9 false true false false) := by
  refine row_of (C := Tryz.checked) (tb := 4) (n := 3) own_x started (by kernel_rfl) Tryz.func9 rfl (by kernel_rfl) Tryz.underlying4 laid_x (by kernel_rfl) (by kernel_rfl) ?_ low_x
    (ChangeSpec.witness6 (enc := enc) (C := Tryz.checked) false ⟨#[], #[.int .u8 0, .bool false, .bool false], []⟩ 8 (by kernel_rfl) (by kernel_rfl) (by kernel_rfl) (by kernel_rfl)) ?_
  · intro ds hds
    match ds, hds with
    | [d0, d1, d2], _ => rfl
  · intro W base args ds ps hval0 hA0 _ hg _
    have hval : ∀ (j : Nat) t v, Tryz.f9.params[j]? = some t → args[j]? = some v → Value.okWide Tryz.prog W .any base t v := hval0
    have hA : DataW.TrodAll enc Tryz.prog W 0 (fun _ => true) true Tryz.f9.params.toList args.toList ds ps := hA0
    rw [Tryz.params9] at hA hval
    obtain ⟨al⟩ := args
    replace hA : DataW.TrodAll enc Tryz.prog W 0 (fun _ => true) true [5, 4, 4] al ds ps := hA
    obtain ⟨v0, r0, d0, s0, p0, q0, rfl, rfl, rfl, h0, hA⟩ := trodAll_cons hA
    obtain ⟨v1, r1, d1, s1, p1, q1, rfl, rfl, rfl, h1, hA⟩ := trodAll_cons hA
    obtain ⟨v2, r2, d2, s2, p2, q2, rfl, rfl, rfl, h2, hA⟩ := trodAll_cons hA
    obtain ⟨rfl, rfl, rfl⟩ := trodAll_nil hA
    obtain ⟨a0, rfl, rfl, rfl, w0⟩ := open_int Tryz.underlying5 (hval 0 5 v0 rfl rfl) h0
    obtain ⟨a1, rfl, rfl, rfl⟩ := open_bool Tryz.underlying4 (hval 1 4 v1 rfl rfl) h1
    obtain ⟨a2, rfl, rfl, rfl⟩ := open_bool Tryz.underlying4 (hval 2 4 v2 rfl rfl) h2
    exact calls_of_spec hG (nil_true a0 a1 a2 (wf_u8 w0)) hg (.cons (.int _ _) (.cons (.bool _) (.cons (.bool _) .nil)))

theorem coreNil_holds : Rows.CoreNilSaid :=
  OpenClaim.holds_of_wide 9 Tryz.f9 rfl rfl rfl rfl rfl rfl rfl ⟨rfl, rfl, rfl, rfl, rfl⟩ rfl rfl rfl rfl rfl (by kernel_rfl) Tryz.func9 (by kernel_rfl)
    (of_decide_eq_true (by kernel_rfl)) (by unfold Func.isWrapper; first | (rw [if_pos (by decide +kernel)]; kernel_rfl) | (rw [if_neg (by decide +kernel)]; exact ⟨rfl, rfl⟩))
    (fun os started H enc _ => coreNil_lifted os started H enc)

#print axioms coreNil_holds
end Go.Proofs.YtmnhmplcpijanaaGreat
