/-
  What the rows of layer 11's statements have in common: the tables, out of what is laid. No condition.
-/
import Derived.Test.YtngeghiaakkdbaaDoorTC
import Derived.Test.YtngeghiaakkdbaaDoorTie
import Derived.Test.YtngeghiaakkdbaaDoorCards
import Derived.ProofKit
import Derived.SevenTiedAt
namespace Go.Proofs.YtngeghiaakkdbaaDoor
open Go VX Go.ChangeShapes Go.WideShapes Go.RowKit Go.Joins
set_option maxRecDepth 100000
set_option linter.unusedVariables false

theorem own_x : ownKnob Tryd.prog.godebug = none := by kernel_rfl
theorem laid_x : laidOutB Tryd.prog = true := by kernel_rfl
theorem low_x : decide (Tryd.prog.globals.size < (begin Tryd.prog (fun _ _ => 0) default).world.heap.size) = true := by kernel_rfl

abbrev laidL : List (String × DataW Unit) := [("kotatsu/tone.lengths", Rows.laid_kotatsu_tone_lengths), ("kotatsu/tone.noises", Rows.laid_kotatsu_tone_noises), ("kotatsu/tone.duties", Rows.laid_kotatsu_tone_duties)]

def tab0 : Nat × Blk := (0, ⟨[.ints .u16 16 noisesT], 60, true⟩)
def tab1 : Nat × Blk := (1, ⟨[.ints .u8 4 dutiesT], 39, true⟩)
def tab2 : Nat × Blk := (2, ⟨[.ints .u8 32 lengthsT], 64, true⟩)

section
variable {W : World} (h : laidMet Tryd.prog laidL W)
include h
theorem tab0_ok : BlkRel (muG Tryd.prog) tab0.2 W.heap[0]? :=
  tbl_ints h (n := "kotatsu/tone.noises") (d := Rows.laid_kotatsu_tone_noises) (by simp [laidL]) (L := noisesL) (k := .u16) (by kernel_rfl) (g := 0) (by kernel_rfl) (ta := 60) (te := 22) (by kernel_rfl) (len := 16) Tryd.underlying60 Tryd.underlying22 (by kernel_rfl) rfl _ 60
theorem tab1_ok : BlkRel (muG Tryd.prog) tab1.2 W.heap[1]? :=
  tbl_ints h (n := "kotatsu/tone.duties") (d := Rows.laid_kotatsu_tone_duties) (by simp [laidL]) (L := dutiesL) (k := .u8) (by kernel_rfl) (g := 1) (by kernel_rfl) (ta := 39) (te := 5) (by kernel_rfl) (len := 4) Tryd.underlying39 Tryd.underlying5 (by kernel_rfl) rfl _ 39
theorem tab2_ok : BlkRel (muG Tryd.prog) tab2.2 W.heap[2]? :=
  tbl_ints h (n := "kotatsu/tone.lengths") (d := Rows.laid_kotatsu_tone_lengths) (by simp [laidL]) (L := lengthsL) (k := .u8) (by kernel_rfl) (g := 2) (by kernel_rfl) (ta := 64) (te := 5) (by kernel_rfl) (len := 32) Tryd.underlying64 Tryd.underlying5 (by kernel_rfl) rfl _ 64

theorem tabs_ok : ∀ i B, lk [tab0, tab1, tab2] i = some B → i < Tryd.prog.globals.size ∧ B.ro = true ∧ BlkRel (muG Tryd.prog) B W.heap[i]? := by
  intro i B hB
  have hs : 3 ≤ Tryd.prog.globals.size := of_decide_eq_true (by kernel_rfl)
  match i, hB with
  | 0, hB => cases hB; exact ⟨by omega, rfl, tab0_ok h⟩
  | 1, hB => cases hB; exact ⟨by omega, rfl, tab1_ok h⟩
  | 2, hB => cases hB; exact ⟨by omega, rfl, tab2_ok h⟩
  | i + 3, hB => simp [lk, tab0, tab1, tab2, beq_ne (show i + 3 ≠ 0 by omega), beq_ne (show i + 3 ≠ 1 by omega), beq_ne (show i + 3 ≠ 2 by omega)] at hB
end

end Go.Proofs.YtngeghiaakkdbaaDoor
