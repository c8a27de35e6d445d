/-
  What the rows of layer 12's statements have in common: the tables, out of what is laid. No condition.
-/
import Derived.Test.YtgpcfjokmonlgaaDoorSE
import Derived.Test.YtgpcfjokmonlgaaDoorVZ
import Derived.Test.YtgpcfjokmonlgaaDoorTie
import Derived.Test.YtgpcfjokmonlgaaDoorCards
import Derived.ProofKit
import Derived.SevenTiedAt
namespace Go.Proofs.YtgpcfjokmonlgaaDoor
open Go VX Go.ChangeShapes Go.WideShapes Go.RowKit Go.Joins
set_option maxRecDepth 100000
set_option linter.unusedVariables false

theorem own_x : ownKnob Tryd.prog.godebug = none := by kernel_rfl
theorem laid_x : laidOutB Tryd.prog = true := by kernel_rfl
theorem low_x : decide (Tryd.prog.globals.size < (begin Tryd.prog (fun _ _ => 0) default).world.heap.size) = true := by kernel_rfl

abbrev laidT : List (String × DataW Unit) := [("kotatsu/tone.lengths", Rows.laid_kotatsu_tone_lengths), ("kotatsu/tone.noises", Rows.laid_kotatsu_tone_noises), ("kotatsu/tone.duties", Rows.laid_kotatsu_tone_duties)]
abbrev laidL : List (String × DataW Unit) := [("kotatsu/tone.lengths", Rows.laid_kotatsu_tone_lengths), ("kotatsu/tone.noises", Rows.laid_kotatsu_tone_noises), ("kotatsu/tone.duties", Rows.laid_kotatsu_tone_duties), ("kotatsu/sound.rates", Rows.laid_kotatsu_sound_rates), ("kotatsu/sound.when", Rows.laid_kotatsu_sound_when)]
def whenL : List (List Int) := [[7457, 14913, 22371, 29829], [7457, 14913, 22371, 37281]]

section
variable {W : World} {l : List (String × DataW Unit)} (h : laidMet Tryd.prog l W)
include h
theorem tab0_ok (hm : ("kotatsu/tone.noises", Rows.laid_kotatsu_tone_noises) ∈ l) (μ : Mu) : BlkRel μ tb0.2 W.heap[0]? :=
  tbl_ints h hm (L := noisesL) (k := .u16) (by kernel_rfl) (g := 0) (by kernel_rfl) (ta := 84) (te := 26) (by kernel_rfl) (len := 16) Tryd.underlying84 Tryd.underlying26 (by kernel_rfl) rfl _ 84
theorem tab2_ok (hm : ("kotatsu/sound.rates", Rows.laid_kotatsu_sound_rates) ∈ l) (μ : Mu) : BlkRel μ tb2.2 W.heap[2]? :=
  tbl_ints h hm (L := ratesL) (k := .u16) (by kernel_rfl) (g := 2) (by kernel_rfl) (ta := 84) (te := 26) (by kernel_rfl) (len := 16) Tryd.underlying84 Tryd.underlying26 (by kernel_rfl) rfl _ 84
theorem tab3_ok (hm : ("kotatsu/tone.duties", Rows.laid_kotatsu_tone_duties) ∈ l) (μ : Mu) : BlkRel μ tb3.2 W.heap[3]? :=
  tbl_ints h hm (L := dutiesL) (k := .u8) (by kernel_rfl) (g := 3) (by kernel_rfl) (ta := 60) (te := 5) (by kernel_rfl) (len := 4) Tryd.underlying60 Tryd.underlying5 (by kernel_rfl) rfl _ 60
theorem tab4_ok (hm : ("kotatsu/tone.lengths", Rows.laid_kotatsu_tone_lengths) ∈ l) (μ : Mu) : BlkRel μ tb4.2 W.heap[4]? :=
  tbl_ints h hm (L := lengthsL) (k := .u8) (by kernel_rfl) (g := 4) (by kernel_rfl) (ta := 92) (te := 5) (by kernel_rfl) (len := 32) Tryd.underlying92 Tryd.underlying5 (by kernel_rfl) rfl _ 92
theorem tab1_ok (hm : ("kotatsu/sound.when", Rows.laid_kotatsu_sound_when) ∈ l) (μ : Mu) : BlkRel μ tb1.2 W.heap[1]? := by
  obtain ⟨cs, t, fr, hh, hc⟩ := tbl_cells2 h hm (L := whenL) (k := .i64) (by kernel_rfl) (g := 1) (by kernel_rfl) (ta := 88) (tr := 44) (te := 3) (by kernel_rfl) (n1 := 2) (n2 := 4) Tryd.underlying88 Tryd.underlying44 Tryd.underlying3 (by kernel_rfl) (by kernel_rfl) rfl (by decide)
  refine blk_ones hh [.int .i64 7457, .int .i64 14913, .int .i64 22371, .int .i64 29829, .int .i64 7457, .int .i64 14913, .int .i64 22371, .int .i64 37281] rfl (fun j v hj => ?_) 88
  match j, hj with
  | 0, hj => cases hj; exact hc 0 0 (by decide) (by decide)
  | 1, hj => cases hj; exact hc 0 1 (by decide) (by decide)
  | 2, hj => cases hj; exact hc 0 2 (by decide) (by decide)
  | 3, hj => cases hj; exact hc 0 3 (by decide) (by decide)
  | 4, hj => cases hj; exact hc 1 0 (by decide) (by decide)
  | 5, hj => cases hj; exact hc 1 1 (by decide) (by decide)
  | 6, hj => cases hj; exact hc 1 2 (by decide) (by decide)
  | 7, hj => cases hj; exact hc 1 3 (by decide) (by decide)
  | j + 8, hj => simp at hj
end

theorem lk_cons {i j : Nat} {B C : Blk} {r : Heap} (h : lk ((j, C) :: r) i = some B) : (i = j ∧ B = C) ∨ (i ≠ j ∧ lk r i = some B) := by
  simp only [lk] at h
  cases e : Nat.beq i j <;> rw [e] at h
  · exact .inr ⟨beq_ff e, by simpa using h⟩
  · exact .inl ⟨beq_tt e, by simpa using h.symm⟩

theorem globs5 : 5 ≤ Tryd.prog.globals.size := of_decide_eq_true (by kernel_rfl)

section
variable {W : World}
theorem tabsT_ok (h : laidMet Tryd.prog laidT W) : ∀ i B, lk [tb0, tb3, tb4] i = some B → i < Tryd.prog.globals.size ∧ B.ro = true ∧ BlkRel (muG Tryd.prog) B W.heap[i]? := by
  intro i B hB
  have hs := globs5
  rcases lk_cons hB with ⟨rfl, rfl⟩ | ⟨_, hB⟩
  · exact ⟨by omega, rfl, tab0_ok h (by simp [laidT]) _⟩
  rcases lk_cons hB with ⟨rfl, rfl⟩ | ⟨_, hB⟩
  · exact ⟨by omega, rfl, tab3_ok h (by simp [laidT]) _⟩
  rcases lk_cons hB with ⟨rfl, rfl⟩ | ⟨_, hB⟩
  · exact ⟨by omega, rfl, tab4_ok h (by simp [laidT]) _⟩
  · cases hB
theorem tabs_ok (h : laidMet Tryd.prog laidL W) : ∀ i B, lk [tb0, tb1, tb2, tb3, tb4] i = some B → i < Tryd.prog.globals.size ∧ B.ro = true ∧ BlkRel (muG Tryd.prog) B W.heap[i]? := by
  intro i B hB
  have hs := globs5
  rcases lk_cons hB with ⟨rfl, rfl⟩ | ⟨_, hB⟩
  · exact ⟨by omega, rfl, tab0_ok h (by simp [laidL]) _⟩
  rcases lk_cons hB with ⟨rfl, rfl⟩ | ⟨_, hB⟩
  · exact ⟨by omega, rfl, tab1_ok h (by simp [laidL]) _⟩
  rcases lk_cons hB with ⟨rfl, rfl⟩ | ⟨_, hB⟩
  · exact ⟨by omega, rfl, tab2_ok h (by simp [laidL]) _⟩
  rcases lk_cons hB with ⟨rfl, rfl⟩ | ⟨_, hB⟩
  · exact ⟨by omega, rfl, tab3_ok h (by simp [laidL]) _⟩
  rcases lk_cons hB with ⟨rfl, rfl⟩ | ⟨_, hB⟩
  · exact ⟨by omega, rfl, tab4_ok h (by simp [laidL]) _⟩
  · cases hB

theorem any_cells (h : laidMet Tryd.prog laidL W) : ∃ (b : Nat) (cs : Array Value) (ty : TypeId) (fr : Nat × Nat), W.heap[b]? = some (Obj.cells cs ty fr) := by
  obtain ⟨cs, t, fr, e, _⟩ := tab0_ok h (by simp [laidL]) (muG Tryd.prog)
  exact ⟨0, cs, t, fr, e⟩

theorem tabs_hand (h : laidMet Tryd.prog laidL W) {b : Nat} {B : Blk} (hro : B.ro = true) (hB : BlkRel (muH Tryd.prog b) B W.heap[b]?) : ∀ i B', lk [tb0, tb1, tb2, tb3, tb4, (1000, B)] i = some B' → B'.ro = true ∧ ∃ b', muH Tryd.prog b i = some b' ∧ BlkRel (muH Tryd.prog b) B' W.heap[b']? := by
  intro i B' hB'
  have hs := globs5
  have hmu : ∀ i, i < 5 → muH Tryd.prog b i = some i := fun i hi => by simp only [muH]; rw [if_pos (by omega)]
  rcases lk_cons hB' with ⟨rfl, rfl⟩ | ⟨_, hB'⟩
  · exact ⟨rfl, 0, hmu 0 (by decide), tab0_ok h (by simp [laidL]) _⟩
  rcases lk_cons hB' with ⟨rfl, rfl⟩ | ⟨_, hB'⟩
  · exact ⟨rfl, 1, hmu 1 (by decide), tab1_ok h (by simp [laidL]) _⟩
  rcases lk_cons hB' with ⟨rfl, rfl⟩ | ⟨_, hB'⟩
  · exact ⟨rfl, 2, hmu 2 (by decide), tab2_ok h (by simp [laidL]) _⟩
  rcases lk_cons hB' with ⟨rfl, rfl⟩ | ⟨_, hB'⟩
  · exact ⟨rfl, 3, hmu 3 (by decide), tab3_ok h (by simp [laidL]) _⟩
  rcases lk_cons hB' with ⟨rfl, rfl⟩ | ⟨_, hB'⟩
  · exact ⟨rfl, 4, hmu 4 (by decide), tab4_ok h (by simp [laidL]) _⟩
  rcases lk_cons hB' with ⟨rfl, rfl⟩ | ⟨_, hB'⟩
  · exact ⟨hro, b, muH_1000 hG b, hB⟩
  · cases hB'
end

/-- An act, out of its cells. -/
theorem open_act {H : Type} {enc : TypeId × Value → H} {W : World} {base : Nat} {sp : Nat → Bool} {held : Bool} (fuel : Nat) (cs : List Value) (x : DataW H × List MemPlace) (h : DataW.trod enc Tryd.prog W base sp held fuel 34 cs = some x) : ∃ a, Act.ok a ∧ cs = Act.cells a := by
  obtain ⟨a, e0, w0⟩ := trod_cell_int Tryd.underlying34 h (i := 0) rfl Tryd.underlying5 (by kernel_rfl)
  obtain ⟨b, e1, w1⟩ := trod_cell_int Tryd.underlying34 h (i := 1) rfl Tryd.underlying26 (by kernel_rfl)
  obtain ⟨c, e2, w2⟩ := trod_cell_int Tryd.underlying34 h (i := 2) rfl Tryd.underlying5 (by kernel_rfl)
  obtain ⟨d, e3, w3⟩ := trod_cell_int Tryd.underlying34 h (i := 3) rfl Tryd.underlying26 (by kernel_rfl)
  have hl : cs.length = 4 := (trod_len Tryd.underlying34 h).trans (by kernel_rfl)
  match cs, hl with
  | [x0, x1, x2, x3], _ =>
    simp at e0 e1 e2 e3
    subst e0 e1 e2 e3
    exact ⟨⟨a, b, c, d⟩, ⟨wf_u8 w0, wf_u16 w1, wf_u8 w2, wf_u16 w3⟩, rfl⟩

theorem open_acts {H : Type} {enc : TypeId × Value → H} {W : World} {r : Reach} {b0 base : Nat} {sp : Nat → Bool} {held : Bool} {v : Value} {d : DataW H} {p : List MemPlace} (h : laidMet Tryd.prog laidL W)
    (hval : Value.okWide Tryd.prog W r b0 32 v) (hd : DataW.Trod enc Tryd.prog W base sp held 32 v d p) : ∃ (N d : Nat) (g : Nat → Act), (∀ j, Act.ok (g j)) ∧ HandedAt W 4 (fun i => Act.cells (g i)) N d v :=
  open_handed Tryd.underlying32 (by kernel_rfl) (by decide) Act.cells Act.ok ⟨0, 0, 0, 0⟩ ⟨by decide, by decide, by decide, by decide⟩ (fun _ => rfl) open_act (any_cells h) hval hd

theorem open_bys {H : Type} {enc : TypeId × Value → H} {W : World} {r : Reach} {b0 base : Nat} {sp : Nat → Bool} {held : Bool} {v : Value} {d : DataW H} {p : List MemPlace} (h : laidMet Tryd.prog laidL W)
    (hval : Value.okWide Tryd.prog W r b0 55 v) (hd : DataW.Trod enc Tryd.prog W base sp held 55 v d p) : ∃ (N d : Nat) (f : Nat → Int), (∀ j, rng 256 (f j)) ∧ HandedInts W .u8 f N d v :=
  open_bytes Tryd.underlying55 Tryd.underlying5 (by kernel_rfl) (any_cells h) hval hd

end Go.Proofs.YtgpcfjokmonlgaaDoor
