/-
  What the rows of layer 10's statements have in common: registers and lines that are given, opened. No condition.
-/
import Derived.ChangeSame
import Derived.Test.YtmnhmplcpijanaaGreatCC
import Derived.Test.YtmnhmplcpijanaaGreatVZ
namespace Go.Proofs.YtmnhmplcpijanaaGreat
open Go VX Go.ChangeShapes Go.WideShapes Go.RowKit Go.Joins Go.Deep
set_option maxRecDepth 100000
set_option linter.unusedVariables false

section
variable {H : Type} {enc : TypeId × Value → H} {W : World} {base : Nat} {sp : Nat → Bool} {held : Bool}
theorem c1_5 : Tryz.prog.cellsOf 5 = 1 := by kernel_rfl
theorem c1_25 : Tryz.prog.cellsOf 25 = 1 := by kernel_rfl
theorem c5_24 : Tryz.prog.cellsOf 24 = 5 := by kernel_rfl
theorem c6_27 : Tryz.prog.cellsOf 27 = 6 := by kernel_rfl
theorem trod_un {fuel : Nat} {cs : List Value} {x : DataW H × List MemPlace} (h : DataW.trod enc Tryz.prog W base sp held fuel 24 cs = some x) : ∃ u : Un, Un.ok u ∧ cs = Un.cells u := by
  obtain ⟨xs, n, _, _, hl, hlen, hf⟩ := DataW.trod_struct Tryz.underlying24 h
  rw [c5_24] at hl
  match cs, hl with
  | [c0, c1, c2, c3, c4], _ =>
    match xs, hlen with
    | [y0, y1, y2, y3, y4], _ =>
      obtain ⟨a, e0, _, wa⟩ := DataW.trod_int Tryz.underlying5 (by simpa [c1_5] using hf 0 _ rfl)
      obtain ⟨b, e1, _, wb⟩ := DataW.trod_int Tryz.underlying5 (by simpa [c1_5] using hf 1 _ rfl)
      obtain ⟨c, e2, _, wc⟩ := DataW.trod_int Tryz.underlying5 (by simpa [c1_5] using hf 2 _ rfl)
      obtain ⟨d, e3, _, wd⟩ := DataW.trod_int Tryz.underlying5 (by simpa [c1_5] using hf 3 _ rfl)
      obtain ⟨e, e4, _, we⟩ := DataW.trod_int Tryz.underlying5 (by simpa [c1_5] using hf 4 _ rfl)
      simp at e0 e1 e2 e3 e4
      subst e0 e1 e2 e3 e4
      exact ⟨⟨a, b, c, d, e⟩, ⟨wf_u8 wa, wf_u8 wb, wf_u8 wc, wf_u8 wd, wf_u8 we⟩, rfl⟩

theorem open_regs {r : Reach} {b0 : Nat} {v : Value} {d : DataW H} {p : List MemPlace} (hv : Value.okWide Tryz.prog W r b0 27 v) (h : DataW.Trod enc Tryz.prog W base sp held 27 v d p) : ∃ x : Regs, v = x.enc ∧ Regs.ok x := by
  obtain ⟨cs, rfl, hsz⟩ := okWide_struct Tryz.underlying27 hv
  obtain ⟨l⟩ := cs
  obtain ⟨fuel, hf⟩ := h
  obtain ⟨xs, n, _, _, hl, hlen, hg⟩ := DataW.trod_struct Tryz.underlying27 hf
  rw [c6_27] at hsz
  match l, hsz with
  | [c0, c1, c2, c3, c4, c5], _ =>
    match xs, hlen with
    | [y0, y1], _ =>
    obtain ⟨u, wu, eu⟩ := trod_un (by simpa [Value.cells, c5_24] using hg 0 _ rfl)
    obtain ⟨pc, e5, _, w5⟩ := DataW.trod_int Tryz.underlying25 (by simpa [Value.cells, c1_25] using hg 1 _ rfl)
    simp at e5
    subst e5
    simp only [Un.cells, List.cons.injEq, and_true] at eu
    obtain ⟨rfl, rfl, rfl, rfl, rfl⟩ := eu
    exact ⟨⟨u, pc⟩, rfl, ⟨wu, wf_u16 w5⟩⟩

theorem open_lines {r : Reach} {b0 : Nat} {v : Value} {d : DataW H} {p : List MemPlace} (hany : ∃ (b : Nat) (cs : Array Value) (ty : TypeId) (fr : Nat × Nat), W.heap[b]? = some (Obj.cells cs ty fr))
    (hv : Value.okWide Tryz.prog W r b0 22 v) (h : DataW.Trod enc Tryz.prog W base sp held 22 v d p) : ∃ (N k : Nat) (f : Nat → Int), ((∀ j, rng 256 (f j)) ∧ (N : Int) ≤ 9223372036854775807) ∧ HandedInts W .u8 f N k v := by
  obtain ⟨N, k, g, hg, hh⟩ := open_handed Tryz.underlying22 c1_5 (by decide) (fun a : Int => [.int .u8 a]) (rng 256) 0 (by decide) (fun _ => rfl) (fun fuel cs x hx => by
    obtain ⟨z, h1, _, h2⟩ := DataW.trod_int Tryz.underlying5 hx
    exact ⟨z, wf_u8 h2, h1⟩) hany hv h
  have hle := handed_le Tryz.underlying22 hv h hh
  exact ⟨N, k, g, ⟨hg, by omega⟩, handed_ints hh⟩
end
theorem glob1 : Tryz.prog.globals.size = 1 := by kernel_rfl
theorem any_open {W : World} (h : W.ShapedOpen Tryz.prog) : ∃ (b : Nat) (cs : Array Value) (ty : TypeId) (fr : Nat × Nat), W.heap[b]? = some (Obj.cells cs ty fr) := by
  have h0 : (((begin Tryz.prog (fun _ _ => 0) default).world.heap[0]?).bind Obj.row?).isSome = true := by kernel_rfl
  obtain ⟨⟨zero, t⟩, e⟩ := Option.isSome_iff_exists.1 h0
  obtain ⟨cs, e2, _⟩ := h.1 0 zero t (by rw [glob1]; decide) e
  exact ⟨0, cs, t, _, e2⟩
theorem hand_one {W : World} {b : Nat} {B : Blk} (hro : B.ro = true) (hB : BlkRel (muH Tryz.prog b) B W.heap[b]?) : ∀ i B', lk [(1000, B)] i = some B' → B'.ro = true ∧ ∃ b', muH Tryz.prog b i = some b' ∧ BlkRel (muH Tryz.prog b) B' W.heap[b']? := by
  intro i B' h
  simp only [lk] at h
  cases e : Nat.beq i 1000 <;> rw [e] at h
  · simp at h
  · simp at h; subst h
    rw [beq_tt e]
    exact ⟨hro, b, muH_1000 hG b, hB⟩
theorem regs_rel (μ : Mu) (x : Regs) : VRel μ x.enc x.enc := .of_flat rfl
end Go.Proofs.YtmnhmplcpijanaaGreat
