/-
  What the rows of layer 11's statements have in common: the tables, out of what is laid. No condition.
-/
import Derived.Test.YtngeghiaakkdbaaDoorTC
import Derived.Test.YtngeghiaakkdbaaDoorVW
import Derived.Test.YtngeghiaakkdbaaDoorTie
import Derived.Test.YtngeghiaakkdbaaDoorCards
import Derived.ProofKit
import Derived.SevenTiedAt
namespace Go.Proofs.YtngeghiaakkdbaaDoor
open Go VX Go.ChangeShapes Go.WideShapes Go.RowKit Go.Joins
set_option maxRecDepth 100000
set_option linter.unusedVariables false

theorem own_x : ownKnob Tryd.prog.godebug = none := by kernel_rfl
theorem laid_x : laidOutB Tryd.prog = true := by kernel_rfl
theorem low_x : decide (Tryd.prog.globals.size < (begin Tryd.prog (fun _ _ => 0) default).world.heap.size) = true := by kernel_rfl

abbrev laidL : List (String × DataW Unit) := [("kotatsu/tone.lengths", Rows.laid_kotatsu_tone_lengths), ("kotatsu/tone.noises", Rows.laid_kotatsu_tone_noises), ("kotatsu/tone.duties", Rows.laid_kotatsu_tone_duties)]

def tab0 : Nat × Blk := (0, ⟨[.ints .u16 16 noisesT], 60, true⟩)
def tab1 : Nat × Blk := (1, ⟨[.ints .u8 4 dutiesT], 39, true⟩)
def tab2 : Nat × Blk := (2, ⟨[.ints .u8 32 lengthsT], 64, true⟩)

section
variable {W : World} (h : laidMet Tryd.prog laidL W)
include h
theorem tab0_ok (μ : Mu) : BlkRel μ tab0.2 W.heap[0]? :=
  tbl_ints h (n := "kotatsu/tone.noises") (d := Rows.laid_kotatsu_tone_noises) (by simp [laidL]) (L := noisesL) (k := .u16) (by kernel_rfl) (g := 0) (by kernel_rfl) (ta := 60) (te := 22) (by kernel_rfl) (len := 16) Tryd.underlying60 Tryd.underlying22 (by kernel_rfl) rfl _ 60
theorem tab1_ok (μ : Mu) : BlkRel μ tab1.2 W.heap[1]? :=
  tbl_ints h (n := "kotatsu/tone.duties") (d := Rows.laid_kotatsu_tone_duties) (by simp [laidL]) (L := dutiesL) (k := .u8) (by kernel_rfl) (g := 1) (by kernel_rfl) (ta := 39) (te := 5) (by kernel_rfl) (len := 4) Tryd.underlying39 Tryd.underlying5 (by kernel_rfl) rfl _ 39
theorem tab2_ok (μ : Mu) : BlkRel μ tab2.2 W.heap[2]? :=
  tbl_ints h (n := "kotatsu/tone.lengths") (d := Rows.laid_kotatsu_tone_lengths) (by simp [laidL]) (L := lengthsL) (k := .u8) (by kernel_rfl) (g := 2) (by kernel_rfl) (ta := 64) (te := 5) (by kernel_rfl) (len := 32) Tryd.underlying64 Tryd.underlying5 (by kernel_rfl) rfl _ 64

theorem tabs_ok : ∀ i B, lk [tab0, tab1, tab2] i = some B → i < Tryd.prog.globals.size ∧ B.ro = true ∧ BlkRel (muG Tryd.prog) B W.heap[i]? := by
  intro i B hB
  have hs : 3 ≤ Tryd.prog.globals.size := of_decide_eq_true (by kernel_rfl)
  match i, hB with
  | 0, hB => cases hB; exact ⟨by omega, rfl, tab0_ok h _⟩
  | 1, hB => cases hB; exact ⟨by omega, rfl, tab1_ok h _⟩
  | 2, hB => cases hB; exact ⟨by omega, rfl, tab2_ok h _⟩
  | i + 3, hB => simp [lk, tab0, tab1, tab2, beq_ne (show i + 3 ≠ 0 by omega), beq_ne (show i + 3 ≠ 1 by omega), beq_ne (show i + 3 ≠ 2 by omega)] at hB

theorem any_cells : ∃ (b : Nat) (cs : Array Value) (ty : TypeId) (fr : Nat × Nat), W.heap[b]? = some (Obj.cells cs ty fr) := by
  obtain ⟨cs, t, fr, e, _⟩ := tab0_ok h (muG Tryd.prog)
  exact ⟨0, cs, t, fr, e⟩

theorem tabs_hand {b : Nat} {B : Blk} (hro : B.ro = true) (hB : BlkRel (muH Tryd.prog b) B W.heap[b]?) : ∀ i B', lk [tab0, tab1, tab2, (1000, B)] i = some B' → B'.ro = true ∧ ∃ b', muH Tryd.prog b i = some b' ∧ BlkRel (muH Tryd.prog b) B' W.heap[b']? := by
  intro i B' hB'
  have hs : 3 ≤ Tryd.prog.globals.size := of_decide_eq_true (by kernel_rfl)
  have hmu : ∀ i, i < 3 → muH Tryd.prog b i = some i := fun i hi => by simp only [muH]; rw [if_pos (by omega)]
  match i, hB' with
  | 0, hB' => cases hB'; exact ⟨rfl, 0, hmu 0 (by decide), tab0_ok h _⟩
  | 1, hB' => cases hB'; exact ⟨rfl, 1, hmu 1 (by decide), tab1_ok h _⟩
  | 2, hB' => cases hB'; exact ⟨rfl, 2, hmu 2 (by decide), tab2_ok h _⟩
  | i + 3, hB' =>
    simp only [lk, tab0, tab1, tab2, beq_ne (show i + 3 ≠ 0 by omega), beq_ne (show i + 3 ≠ 1 by omega), beq_ne (show i + 3 ≠ 2 by omega), cond_false] at hB'
    by_cases hi : i + 3 = 1000
    · rw [hi] at hB' ⊢
      cases hB'
      exact ⟨hro, b, muH_1000 hG b, hB⟩
    · rw [beq_ne hi] at hB'
      cases hB'
end

/-- An act, out of its cells. -/
theorem open_act {H : Type} {enc : TypeId × Value → H} {W : World} {base : Nat} {sp : Nat → Bool} {held : Bool} (fuel : Nat) (cs : List Value) (x : DataW H × List MemPlace) (h : DataW.trod enc Tryd.prog W base sp held fuel 51 cs = some x) : ∃ a, Act.ok a ∧ cs = Act.cells a := by
  obtain ⟨a, e0, w0⟩ := trod_cell_int Tryd.underlying51 h (i := 0) rfl Tryd.underlying5 (by kernel_rfl)
  obtain ⟨b, e1, w1⟩ := trod_cell_int Tryd.underlying51 h (i := 1) rfl Tryd.underlying5 (by kernel_rfl)
  obtain ⟨c, e2, w2⟩ := trod_cell_int Tryd.underlying51 h (i := 2) rfl Tryd.underlying5 (by kernel_rfl)
  obtain ⟨d, e3, w3⟩ := trod_cell_int Tryd.underlying51 h (i := 3) rfl Tryd.underlying22 (by kernel_rfl)
  have hl : cs.length = 4 := (trod_len Tryd.underlying51 h).trans (by kernel_rfl)
  match cs, hl with
  | [x0, x1, x2, x3], _ =>
    simp at e0 e1 e2 e3
    subst e0 e1 e2 e3
    exact ⟨⟨a, b, c, d⟩, ⟨wf_u8 w0, wf_u8 w1, wf_u8 w2, wf_u16 w3⟩, rfl⟩

theorem open_regs {H : Type} {enc : TypeId × Value → H} {W : World} {r : Reach} {b0 base : Nat} {sp : Nat → Bool} {held : Bool} {v : Value} {d : DataW H} {p : List MemPlace}
    (hval : Value.okWide Tryd.prog W r b0 39 v) (hd : DataW.Trod enc Tryd.prog W base sp held 39 v d p) : ∃ f : Nat → Int, v = .agg ⟨[.int .u8 (f 0), .int .u8 (f 1), .int .u8 (f 2), .int .u8 (f 3)]⟩ ∧ ∀ j, j < 4 → rng 256 (f j) := by
  obtain ⟨f, h1, h2⟩ := open_arr_ints Tryd.underlying39 Tryd.underlying5 (by kernel_rfl) (by kernel_rfl) hval hd
  exact ⟨f, h2, fun j hj => wf_u8 (h1 j hj)⟩

theorem open_acts {H : Type} {enc : TypeId × Value → H} {W : World} {r : Reach} {b0 base : Nat} {sp : Nat → Bool} {held : Bool} {v : Value} {d : DataW H} {p : List MemPlace} (h : laidMet Tryd.prog laidL W)
    (hval : Value.okWide Tryd.prog W r b0 49 v) (hd : DataW.Trod enc Tryd.prog W base sp held 49 v d p) : ∃ (N d : Nat) (g : Nat → Act), (∀ j, Act.ok (g j)) ∧ HandedAt W 4 (fun i => Act.cells (g i)) N d v :=
  open_handed Tryd.underlying49 (by kernel_rfl) (by decide) Act.cells Act.ok ⟨0, 0, 0, 0⟩ ⟨by decide, by decide, by decide, by decide⟩ (fun _ => rfl) open_act (any_cells h) hval hd

end Go.Proofs.YtngeghiaakkdbaaDoor
