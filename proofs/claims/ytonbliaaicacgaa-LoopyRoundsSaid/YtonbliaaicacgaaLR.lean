/-
  What the rows of layer 14's statements have in common: a scroll that is given, opened. No condition.
-/
import Derived.Test.YtonbliaaicacgaaLC
namespace Go.Proofs.Ytonbliaaicacgaa
open Go VX Go.ChangeShapes Go.WideShapes Go.RowKit Go.Joins
set_option maxRecDepth 100000
set_option linter.unusedVariables false

theorem own_x : ownKnob Try.prog.godebug = none := by kernel_rfl
theorem laid_x : laidOutB Try.prog = true := by kernel_rfl
theorem low_x : decide (Try.prog.globals.size < (begin Try.prog (fun _ _ => 0) default).world.heap.size) = true := by kernel_rfl

/-- A scroll, opened. -/
theorem open_scroll {H : Type} {enc : TypeId × Value → H} {W : World} {r : Reach} {b0 base : Nat} {sp : Nat → Bool} {held : Bool} {v : Value} {d : DataW H} {p : List MemPlace} (hv : Value.okWide Try.prog W r b0 24 v) (h : DataW.Trod enc Try.prog W base sp held 24 v d p) :
    ∃ s : Scroll, v = s.enc ∧ (0 ≤ s.V ∧ s.V < 65536) ∧ (0 ≤ s.T ∧ s.T < 65536) ∧ (0 ≤ s.X ∧ s.X < 256) := by
  obtain ⟨c0, c1, c2, c3, y0, y1, y2, y3, m, rfl, rfl, rfl, hy0, hy1, hy2, hy3⟩ := open_agg4 Try.underlying24 (by kernel_rfl) (by kernel_rfl) hv h
  obtain ⟨a, e0, rfl, wa⟩ := DataW.trod_int Try.underlying22 hy0
  obtain ⟨b, e1, rfl, wb⟩ := DataW.trod_int Try.underlying22 hy1
  obtain ⟨c, e2, rfl, wc⟩ := DataW.trod_int Try.underlying5 hy2
  obtain ⟨d, e3, rfl⟩ := DataW.trod_bool Try.underlying4 hy3
  simp at e0 e1 e2 e3
  subst e0 e1 e2 e3
  exact ⟨⟨a, b, c, d⟩, rfl, wf_u16 wa, wf_u16 wb, wf_u8 wc⟩

theorem scroll_rel (μ : Mu) (s : Scroll) : VRel μ s.enc s.enc := .of_flat rfl

end Go.Proofs.Ytonbliaaicacgaa
