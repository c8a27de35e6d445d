/-
  A byte's code. Written by gen_core.py. No condition.
-/
import Derived.Laws.Externs
import Derived.Test.YtmnhmplcpijanaaGreatCA
namespace Go.Proofs.YtmnhmplcpijanaaGreat
open Go VX
set_option linter.unusedVariables false
set_option linter.unusedSimpArgs false
set_option maxRecDepth 100000

/-- kotatsu/alu.Name -/
def aName_0  : ByteArray :=
  ⟨#[78, 79, 80]⟩
theorem aName_0_ok  : FnSpec Tryz.prog 56 1000 [.int .u8 0] [] (.string aName_0) [] := by
  unfold aName_0
  exact fn_of_x hG hM Tryz.func56 (by kernel_rfl) (by kernel_rfl) 400 [.no, .cut 0 3] (J (Eq.refl false) (J (Eq.refl (0 : Int)) (J (Eq.refl (3 : Int)) trivial))) (by kernel_rfl)

/-- kotatsu/alu.Name -/
def aName_1  : ByteArray :=
  ⟨#[79, 82, 65]⟩
theorem aName_1_ok  : FnSpec Tryz.prog 56 1000 [.int .u8 1] [] (.string aName_1) [] := by
  unfold aName_1
  exact fn_of_x hG hM Tryz.func56 (by kernel_rfl) (by kernel_rfl) 400 [.no, .cut 3 6] (J (Eq.refl false) (J (Eq.refl (3 : Int)) (J (Eq.refl (6 : Int)) trivial))) (by kernel_rfl)

/-- kotatsu/alu.Name -/
def aName_2  : ByteArray :=
  ⟨#[65, 78, 68]⟩
theorem aName_2_ok  : FnSpec Tryz.prog 56 1000 [.int .u8 2] [] (.string aName_2) [] := by
  unfold aName_2
  exact fn_of_x hG hM Tryz.func56 (by kernel_rfl) (by kernel_rfl) 400 [.no, .cut 6 9] (J (Eq.refl false) (J (Eq.refl (6 : Int)) (J (Eq.refl (9 : Int)) trivial))) (by kernel_rfl)

/-- kotatsu/alu.Name -/
def aName_3  : ByteArray :=
  ⟨#[69, 79, 82]⟩
theorem aName_3_ok  : FnSpec Tryz.prog 56 1000 [.int .u8 3] [] (.string aName_3) [] := by
  unfold aName_3
  exact fn_of_x hG hM Tryz.func56 (by kernel_rfl) (by kernel_rfl) 400 [.no, .cut 9 12] (J (Eq.refl false) (J (Eq.refl (9 : Int)) (J (Eq.refl (12 : Int)) trivial))) (by kernel_rfl)

/-- kotatsu/alu.Name -/
def aName_4  : ByteArray :=
  ⟨#[65, 68, 67]⟩
theorem aName_4_ok  : FnSpec Tryz.prog 56 1000 [.int .u8 4] [] (.string aName_4) [] := by
  unfold aName_4
  exact fn_of_x hG hM Tryz.func56 (by kernel_rfl) (by kernel_rfl) 400 [.no, .cut 12 15] (J (Eq.refl false) (J (Eq.refl (12 : Int)) (J (Eq.refl (15 : Int)) trivial))) (by kernel_rfl)

/-- kotatsu/alu.Name -/
def aName_5  : ByteArray :=
  ⟨#[83, 66, 67]⟩
theorem aName_5_ok  : FnSpec Tryz.prog 56 1000 [.int .u8 5] [] (.string aName_5) [] := by
  unfold aName_5
  exact fn_of_x hG hM Tryz.func56 (by kernel_rfl) (by kernel_rfl) 400 [.no, .cut 15 18] (J (Eq.refl false) (J (Eq.refl (15 : Int)) (J (Eq.refl (18 : Int)) trivial))) (by kernel_rfl)

/-- kotatsu/alu.Name -/
def aName_6  : ByteArray :=
  ⟨#[67, 77, 80]⟩
theorem aName_6_ok  : FnSpec Tryz.prog 56 1000 [.int .u8 6] [] (.string aName_6) [] := by
  unfold aName_6
  exact fn_of_x hG hM Tryz.func56 (by kernel_rfl) (by kernel_rfl) 400 [.no, .cut 18 21] (J (Eq.refl false) (J (Eq.refl (18 : Int)) (J (Eq.refl (21 : Int)) trivial))) (by kernel_rfl)

/-- kotatsu/alu.Name -/
def aName_7  : ByteArray :=
  ⟨#[67, 80, 88]⟩
theorem aName_7_ok  : FnSpec Tryz.prog 56 1000 [.int .u8 7] [] (.string aName_7) [] := by
  unfold aName_7
  exact fn_of_x hG hM Tryz.func56 (by kernel_rfl) (by kernel_rfl) 400 [.no, .cut 21 24] (J (Eq.refl false) (J (Eq.refl (21 : Int)) (J (Eq.refl (24 : Int)) trivial))) (by kernel_rfl)

/-- kotatsu/alu.Name -/
def aName_8  : ByteArray :=
  ⟨#[67, 80, 89]⟩
theorem aName_8_ok  : FnSpec Tryz.prog 56 1000 [.int .u8 8] [] (.string aName_8) [] := by
  unfold aName_8
  exact fn_of_x hG hM Tryz.func56 (by kernel_rfl) (by kernel_rfl) 400 [.no, .cut 24 27] (J (Eq.refl false) (J (Eq.refl (24 : Int)) (J (Eq.refl (27 : Int)) trivial))) (by kernel_rfl)

/-- kotatsu/alu.Name -/
def aName_9  : ByteArray :=
  ⟨#[76, 68, 65]⟩
theorem aName_9_ok  : FnSpec Tryz.prog 56 1000 [.int .u8 9] [] (.string aName_9) [] := by
  unfold aName_9
  exact fn_of_x hG hM Tryz.func56 (by kernel_rfl) (by kernel_rfl) 400 [.no, .cut 27 30] (J (Eq.refl false) (J (Eq.refl (27 : Int)) (J (Eq.refl (30 : Int)) trivial))) (by kernel_rfl)

/-- kotatsu/alu.Name -/
def aName_10  : ByteArray :=
  ⟨#[76, 68, 88]⟩
theorem aName_10_ok  : FnSpec Tryz.prog 56 1000 [.int .u8 10] [] (.string aName_10) [] := by
  unfold aName_10
  exact fn_of_x hG hM Tryz.func56 (by kernel_rfl) (by kernel_rfl) 400 [.no, .cut 30 33] (J (Eq.refl false) (J (Eq.refl (30 : Int)) (J (Eq.refl (33 : Int)) trivial))) (by kernel_rfl)

/-- kotatsu/alu.Name -/
def aName_11  : ByteArray :=
  ⟨#[76, 68, 89]⟩
theorem aName_11_ok  : FnSpec Tryz.prog 56 1000 [.int .u8 11] [] (.string aName_11) [] := by
  unfold aName_11
  exact fn_of_x hG hM Tryz.func56 (by kernel_rfl) (by kernel_rfl) 400 [.no, .cut 33 36] (J (Eq.refl false) (J (Eq.refl (33 : Int)) (J (Eq.refl (36 : Int)) trivial))) (by kernel_rfl)

/-- kotatsu/alu.Name -/
def aName_12  : ByteArray :=
  ⟨#[66, 73, 84]⟩
theorem aName_12_ok  : FnSpec Tryz.prog 56 1000 [.int .u8 12] [] (.string aName_12) [] := by
  unfold aName_12
  exact fn_of_x hG hM Tryz.func56 (by kernel_rfl) (by kernel_rfl) 400 [.no, .cut 36 39] (J (Eq.refl false) (J (Eq.refl (36 : Int)) (J (Eq.refl (39 : Int)) trivial))) (by kernel_rfl)

/-- kotatsu/alu.Name -/
def aName_13  : ByteArray :=
  ⟨#[76, 65, 88]⟩
theorem aName_13_ok  : FnSpec Tryz.prog 56 1000 [.int .u8 13] [] (.string aName_13) [] := by
  unfold aName_13
  exact fn_of_x hG hM Tryz.func56 (by kernel_rfl) (by kernel_rfl) 400 [.no, .cut 39 42] (J (Eq.refl false) (J (Eq.refl (39 : Int)) (J (Eq.refl (42 : Int)) trivial))) (by kernel_rfl)

/-- kotatsu/alu.Name -/
def aName_14  : ByteArray :=
  ⟨#[65, 78, 67]⟩
theorem aName_14_ok  : FnSpec Tryz.prog 56 1000 [.int .u8 14] [] (.string aName_14) [] := by
  unfold aName_14
  exact fn_of_x hG hM Tryz.func56 (by kernel_rfl) (by kernel_rfl) 400 [.no, .cut 42 45] (J (Eq.refl false) (J (Eq.refl (42 : Int)) (J (Eq.refl (45 : Int)) trivial))) (by kernel_rfl)

/-- kotatsu/alu.Name -/
def aName_15  : ByteArray :=
  ⟨#[65, 76, 82]⟩
theorem aName_15_ok  : FnSpec Tryz.prog 56 1000 [.int .u8 15] [] (.string aName_15) [] := by
  unfold aName_15
  exact fn_of_x hG hM Tryz.func56 (by kernel_rfl) (by kernel_rfl) 400 [.no, .cut 45 48] (J (Eq.refl false) (J (Eq.refl (45 : Int)) (J (Eq.refl (48 : Int)) trivial))) (by kernel_rfl)

/-- kotatsu/alu.Name -/
def aName_16  : ByteArray :=
  ⟨#[65, 82, 82]⟩
theorem aName_16_ok  : FnSpec Tryz.prog 56 1000 [.int .u8 16] [] (.string aName_16) [] := by
  unfold aName_16
  exact fn_of_x hG hM Tryz.func56 (by kernel_rfl) (by kernel_rfl) 400 [.no, .cut 48 51] (J (Eq.refl false) (J (Eq.refl (48 : Int)) (J (Eq.refl (51 : Int)) trivial))) (by kernel_rfl)

/-- kotatsu/alu.Name -/
def aName_17  : ByteArray :=
  ⟨#[65, 88, 83]⟩
theorem aName_17_ok  : FnSpec Tryz.prog 56 1000 [.int .u8 17] [] (.string aName_17) [] := by
  unfold aName_17
  exact fn_of_x hG hM Tryz.func56 (by kernel_rfl) (by kernel_rfl) 400 [.no, .cut 51 54] (J (Eq.refl false) (J (Eq.refl (51 : Int)) (J (Eq.refl (54 : Int)) trivial))) (by kernel_rfl)

/-- kotatsu/alu.Name -/
def aName_18  : ByteArray :=
  ⟨#[76, 65, 83]⟩
theorem aName_18_ok  : FnSpec Tryz.prog 56 1000 [.int .u8 18] [] (.string aName_18) [] := by
  unfold aName_18
  exact fn_of_x hG hM Tryz.func56 (by kernel_rfl) (by kernel_rfl) 400 [.no, .cut 54 57] (J (Eq.refl false) (J (Eq.refl (54 : Int)) (J (Eq.refl (57 : Int)) trivial))) (by kernel_rfl)

/-- kotatsu/alu.Name -/
def aName_19  : ByteArray :=
  ⟨#[65, 83, 76]⟩
theorem aName_19_ok  : FnSpec Tryz.prog 56 1000 [.int .u8 19] [] (.string aName_19) [] := by
  unfold aName_19
  exact fn_of_x hG hM Tryz.func56 (by kernel_rfl) (by kernel_rfl) 400 [.no, .cut 57 60] (J (Eq.refl false) (J (Eq.refl (57 : Int)) (J (Eq.refl (60 : Int)) trivial))) (by kernel_rfl)

/-- kotatsu/alu.Name -/
def aName_20  : ByteArray :=
  ⟨#[76, 83, 82]⟩
theorem aName_20_ok  : FnSpec Tryz.prog 56 1000 [.int .u8 20] [] (.string aName_20) [] := by
  unfold aName_20
  exact fn_of_x hG hM Tryz.func56 (by kernel_rfl) (by kernel_rfl) 400 [.no, .cut 60 63] (J (Eq.refl false) (J (Eq.refl (60 : Int)) (J (Eq.refl (63 : Int)) trivial))) (by kernel_rfl)

/-- kotatsu/alu.Name -/
def aName_21  : ByteArray :=
  ⟨#[82, 79, 76]⟩
theorem aName_21_ok  : FnSpec Tryz.prog 56 1000 [.int .u8 21] [] (.string aName_21) [] := by
  unfold aName_21
  exact fn_of_x hG hM Tryz.func56 (by kernel_rfl) (by kernel_rfl) 400 [.no, .cut 63 66] (J (Eq.refl false) (J (Eq.refl (63 : Int)) (J (Eq.refl (66 : Int)) trivial))) (by kernel_rfl)

/-- kotatsu/alu.Name -/
def aName_22  : ByteArray :=
  ⟨#[82, 79, 82]⟩
theorem aName_22_ok  : FnSpec Tryz.prog 56 1000 [.int .u8 22] [] (.string aName_22) [] := by
  unfold aName_22
  exact fn_of_x hG hM Tryz.func56 (by kernel_rfl) (by kernel_rfl) 400 [.no, .cut 66 69] (J (Eq.refl false) (J (Eq.refl (66 : Int)) (J (Eq.refl (69 : Int)) trivial))) (by kernel_rfl)

/-- kotatsu/alu.Name -/
def aName_23  : ByteArray :=
  ⟨#[73, 78, 67]⟩
theorem aName_23_ok  : FnSpec Tryz.prog 56 1000 [.int .u8 23] [] (.string aName_23) [] := by
  unfold aName_23
  exact fn_of_x hG hM Tryz.func56 (by kernel_rfl) (by kernel_rfl) 400 [.no, .cut 69 72] (J (Eq.refl false) (J (Eq.refl (69 : Int)) (J (Eq.refl (72 : Int)) trivial))) (by kernel_rfl)

/-- kotatsu/alu.Name -/
def aName_24  : ByteArray :=
  ⟨#[68, 69, 67]⟩
theorem aName_24_ok  : FnSpec Tryz.prog 56 1000 [.int .u8 24] [] (.string aName_24) [] := by
  unfold aName_24
  exact fn_of_x hG hM Tryz.func56 (by kernel_rfl) (by kernel_rfl) 400 [.no, .cut 72 75] (J (Eq.refl false) (J (Eq.refl (72 : Int)) (J (Eq.refl (75 : Int)) trivial))) (by kernel_rfl)

/-- kotatsu/alu.Name -/
def aName_25  : ByteArray :=
  ⟨#[83, 76, 79]⟩
theorem aName_25_ok  : FnSpec Tryz.prog 56 1000 [.int .u8 25] [] (.string aName_25) [] := by
  unfold aName_25
  exact fn_of_x hG hM Tryz.func56 (by kernel_rfl) (by kernel_rfl) 400 [.no, .cut 75 78] (J (Eq.refl false) (J (Eq.refl (75 : Int)) (J (Eq.refl (78 : Int)) trivial))) (by kernel_rfl)

/-- kotatsu/alu.Name -/
def aName_26  : ByteArray :=
  ⟨#[82, 76, 65]⟩
theorem aName_26_ok  : FnSpec Tryz.prog 56 1000 [.int .u8 26] [] (.string aName_26) [] := by
  unfold aName_26
  exact fn_of_x hG hM Tryz.func56 (by kernel_rfl) (by kernel_rfl) 400 [.no, .cut 78 81] (J (Eq.refl false) (J (Eq.refl (78 : Int)) (J (Eq.refl (81 : Int)) trivial))) (by kernel_rfl)

/-- kotatsu/alu.Name -/
def aName_27  : ByteArray :=
  ⟨#[83, 82, 69]⟩
theorem aName_27_ok  : FnSpec Tryz.prog 56 1000 [.int .u8 27] [] (.string aName_27) [] := by
  unfold aName_27
  exact fn_of_x hG hM Tryz.func56 (by kernel_rfl) (by kernel_rfl) 400 [.no, .cut 81 84] (J (Eq.refl false) (J (Eq.refl (81 : Int)) (J (Eq.refl (84 : Int)) trivial))) (by kernel_rfl)

/-- kotatsu/alu.Name -/
def aName_28  : ByteArray :=
  ⟨#[82, 82, 65]⟩
theorem aName_28_ok  : FnSpec Tryz.prog 56 1000 [.int .u8 28] [] (.string aName_28) [] := by
  unfold aName_28
  exact fn_of_x hG hM Tryz.func56 (by kernel_rfl) (by kernel_rfl) 400 [.no, .cut 84 87] (J (Eq.refl false) (J (Eq.refl (84 : Int)) (J (Eq.refl (87 : Int)) trivial))) (by kernel_rfl)

/-- kotatsu/alu.Name -/
def aName_29  : ByteArray :=
  ⟨#[68, 67, 80]⟩
theorem aName_29_ok  : FnSpec Tryz.prog 56 1000 [.int .u8 29] [] (.string aName_29) [] := by
  unfold aName_29
  exact fn_of_x hG hM Tryz.func56 (by kernel_rfl) (by kernel_rfl) 400 [.no, .cut 87 90] (J (Eq.refl false) (J (Eq.refl (87 : Int)) (J (Eq.refl (90 : Int)) trivial))) (by kernel_rfl)

/-- kotatsu/alu.Name -/
def aName_30  : ByteArray :=
  ⟨#[73, 83, 67]⟩
theorem aName_30_ok  : FnSpec Tryz.prog 56 1000 [.int .u8 30] [] (.string aName_30) [] := by
  unfold aName_30
  exact fn_of_x hG hM Tryz.func56 (by kernel_rfl) (by kernel_rfl) 400 [.no, .cut 90 93] (J (Eq.refl false) (J (Eq.refl (90 : Int)) (J (Eq.refl (93 : Int)) trivial))) (by kernel_rfl)

/-- kotatsu/alu.Name -/
def aName_31  : ByteArray :=
  ⟨#[83, 84, 65]⟩
theorem aName_31_ok  : FnSpec Tryz.prog 56 1000 [.int .u8 31] [] (.string aName_31) [] := by
  unfold aName_31
  exact fn_of_x hG hM Tryz.func56 (by kernel_rfl) (by kernel_rfl) 400 [.no, .cut 93 96] (J (Eq.refl false) (J (Eq.refl (93 : Int)) (J (Eq.refl (96 : Int)) trivial))) (by kernel_rfl)

/-- kotatsu/alu.Name -/
def aName_32  : ByteArray :=
  ⟨#[83, 84, 88]⟩
theorem aName_32_ok  : FnSpec Tryz.prog 56 1000 [.int .u8 32] [] (.string aName_32) [] := by
  unfold aName_32
  exact fn_of_x hG hM Tryz.func56 (by kernel_rfl) (by kernel_rfl) 400 [.no, .cut 96 99] (J (Eq.refl false) (J (Eq.refl (96 : Int)) (J (Eq.refl (99 : Int)) trivial))) (by kernel_rfl)

/-- kotatsu/alu.Name -/
def aName_33  : ByteArray :=
  ⟨#[83, 84, 89]⟩
theorem aName_33_ok  : FnSpec Tryz.prog 56 1000 [.int .u8 33] [] (.string aName_33) [] := by
  unfold aName_33
  exact fn_of_x hG hM Tryz.func56 (by kernel_rfl) (by kernel_rfl) 400 [.no, .cut 99 102] (J (Eq.refl false) (J (Eq.refl (99 : Int)) (J (Eq.refl (102 : Int)) trivial))) (by kernel_rfl)

/-- kotatsu/alu.Name -/
def aName_34  : ByteArray :=
  ⟨#[83, 65, 88]⟩
theorem aName_34_ok  : FnSpec Tryz.prog 56 1000 [.int .u8 34] [] (.string aName_34) [] := by
  unfold aName_34
  exact fn_of_x hG hM Tryz.func56 (by kernel_rfl) (by kernel_rfl) 400 [.no, .cut 102 105] (J (Eq.refl false) (J (Eq.refl (102 : Int)) (J (Eq.refl (105 : Int)) trivial))) (by kernel_rfl)

/-- kotatsu/alu.Name -/
def aName_35  : ByteArray :=
  ⟨#[84, 65, 88]⟩
theorem aName_35_ok  : FnSpec Tryz.prog 56 1000 [.int .u8 35] [] (.string aName_35) [] := by
  unfold aName_35
  exact fn_of_x hG hM Tryz.func56 (by kernel_rfl) (by kernel_rfl) 400 [.no, .cut 105 108] (J (Eq.refl false) (J (Eq.refl (105 : Int)) (J (Eq.refl (108 : Int)) trivial))) (by kernel_rfl)

/-- kotatsu/alu.Name -/
def aName_36  : ByteArray :=
  ⟨#[84, 65, 89]⟩
theorem aName_36_ok  : FnSpec Tryz.prog 56 1000 [.int .u8 36] [] (.string aName_36) [] := by
  unfold aName_36
  exact fn_of_x hG hM Tryz.func56 (by kernel_rfl) (by kernel_rfl) 400 [.no, .cut 108 111] (J (Eq.refl false) (J (Eq.refl (108 : Int)) (J (Eq.refl (111 : Int)) trivial))) (by kernel_rfl)

/-- kotatsu/alu.Name -/
def aName_37  : ByteArray :=
  ⟨#[84, 88, 65]⟩
theorem aName_37_ok  : FnSpec Tryz.prog 56 1000 [.int .u8 37] [] (.string aName_37) [] := by
  unfold aName_37
  exact fn_of_x hG hM Tryz.func56 (by kernel_rfl) (by kernel_rfl) 400 [.no, .cut 111 114] (J (Eq.refl false) (J (Eq.refl (111 : Int)) (J (Eq.refl (114 : Int)) trivial))) (by kernel_rfl)

/-- kotatsu/alu.Name -/
def aName_38  : ByteArray :=
  ⟨#[84, 89, 65]⟩
theorem aName_38_ok  : FnSpec Tryz.prog 56 1000 [.int .u8 38] [] (.string aName_38) [] := by
  unfold aName_38
  exact fn_of_x hG hM Tryz.func56 (by kernel_rfl) (by kernel_rfl) 400 [.no, .cut 114 117] (J (Eq.refl false) (J (Eq.refl (114 : Int)) (J (Eq.refl (117 : Int)) trivial))) (by kernel_rfl)

/-- kotatsu/alu.Name -/
def aName_39  : ByteArray :=
  ⟨#[84, 83, 88]⟩
theorem aName_39_ok  : FnSpec Tryz.prog 56 1000 [.int .u8 39] [] (.string aName_39) [] := by
  unfold aName_39
  exact fn_of_x hG hM Tryz.func56 (by kernel_rfl) (by kernel_rfl) 400 [.no, .cut 117 120] (J (Eq.refl false) (J (Eq.refl (117 : Int)) (J (Eq.refl (120 : Int)) trivial))) (by kernel_rfl)

/-- kotatsu/alu.Name -/
def aName_40  : ByteArray :=
  ⟨#[84, 88, 83]⟩
theorem aName_40_ok  : FnSpec Tryz.prog 56 1000 [.int .u8 40] [] (.string aName_40) [] := by
  unfold aName_40
  exact fn_of_x hG hM Tryz.func56 (by kernel_rfl) (by kernel_rfl) 400 [.no, .cut 120 123] (J (Eq.refl false) (J (Eq.refl (120 : Int)) (J (Eq.refl (123 : Int)) trivial))) (by kernel_rfl)

/-- kotatsu/alu.Name -/
def aName_41  : ByteArray :=
  ⟨#[73, 78, 88]⟩
theorem aName_41_ok  : FnSpec Tryz.prog 56 1000 [.int .u8 41] [] (.string aName_41) [] := by
  unfold aName_41
  exact fn_of_x hG hM Tryz.func56 (by kernel_rfl) (by kernel_rfl) 400 [.no, .cut 123 126] (J (Eq.refl false) (J (Eq.refl (123 : Int)) (J (Eq.refl (126 : Int)) trivial))) (by kernel_rfl)

/-- kotatsu/alu.Name -/
def aName_42  : ByteArray :=
  ⟨#[73, 78, 89]⟩
theorem aName_42_ok  : FnSpec Tryz.prog 56 1000 [.int .u8 42] [] (.string aName_42) [] := by
  unfold aName_42
  exact fn_of_x hG hM Tryz.func56 (by kernel_rfl) (by kernel_rfl) 400 [.no, .cut 126 129] (J (Eq.refl false) (J (Eq.refl (126 : Int)) (J (Eq.refl (129 : Int)) trivial))) (by kernel_rfl)

/-- kotatsu/alu.Name -/
def aName_43  : ByteArray :=
  ⟨#[68, 69, 88]⟩
theorem aName_43_ok  : FnSpec Tryz.prog 56 1000 [.int .u8 43] [] (.string aName_43) [] := by
  unfold aName_43
  exact fn_of_x hG hM Tryz.func56 (by kernel_rfl) (by kernel_rfl) 400 [.no, .cut 129 132] (J (Eq.refl false) (J (Eq.refl (129 : Int)) (J (Eq.refl (132 : Int)) trivial))) (by kernel_rfl)

/-- kotatsu/alu.Name -/
def aName_44  : ByteArray :=
  ⟨#[68, 69, 89]⟩
theorem aName_44_ok  : FnSpec Tryz.prog 56 1000 [.int .u8 44] [] (.string aName_44) [] := by
  unfold aName_44
  exact fn_of_x hG hM Tryz.func56 (by kernel_rfl) (by kernel_rfl) 400 [.no, .cut 132 135] (J (Eq.refl false) (J (Eq.refl (132 : Int)) (J (Eq.refl (135 : Int)) trivial))) (by kernel_rfl)

/-- kotatsu/alu.Name -/
def aName_45  : ByteArray :=
  ⟨#[67, 76, 67]⟩
theorem aName_45_ok  : FnSpec Tryz.prog 56 1000 [.int .u8 45] [] (.string aName_45) [] := by
  unfold aName_45
  exact fn_of_x hG hM Tryz.func56 (by kernel_rfl) (by kernel_rfl) 400 [.no, .cut 135 138] (J (Eq.refl false) (J (Eq.refl (135 : Int)) (J (Eq.refl (138 : Int)) trivial))) (by kernel_rfl)

/-- kotatsu/alu.Name -/
def aName_46  : ByteArray :=
  ⟨#[83, 69, 67]⟩
theorem aName_46_ok  : FnSpec Tryz.prog 56 1000 [.int .u8 46] [] (.string aName_46) [] := by
  unfold aName_46
  exact fn_of_x hG hM Tryz.func56 (by kernel_rfl) (by kernel_rfl) 400 [.no, .cut 138 141] (J (Eq.refl false) (J (Eq.refl (138 : Int)) (J (Eq.refl (141 : Int)) trivial))) (by kernel_rfl)

/-- kotatsu/alu.Name -/
def aName_47  : ByteArray :=
  ⟨#[67, 76, 73]⟩
theorem aName_47_ok  : FnSpec Tryz.prog 56 1000 [.int .u8 47] [] (.string aName_47) [] := by
  unfold aName_47
  exact fn_of_x hG hM Tryz.func56 (by kernel_rfl) (by kernel_rfl) 400 [.no, .cut 141 144] (J (Eq.refl false) (J (Eq.refl (141 : Int)) (J (Eq.refl (144 : Int)) trivial))) (by kernel_rfl)

/-- kotatsu/alu.Name -/
def aName_48  : ByteArray :=
  ⟨#[83, 69, 73]⟩
theorem aName_48_ok  : FnSpec Tryz.prog 56 1000 [.int .u8 48] [] (.string aName_48) [] := by
  unfold aName_48
  exact fn_of_x hG hM Tryz.func56 (by kernel_rfl) (by kernel_rfl) 400 [.no, .cut 144 147] (J (Eq.refl false) (J (Eq.refl (144 : Int)) (J (Eq.refl (147 : Int)) trivial))) (by kernel_rfl)

/-- kotatsu/alu.Name -/
def aName_49  : ByteArray :=
  ⟨#[67, 76, 86]⟩
theorem aName_49_ok  : FnSpec Tryz.prog 56 1000 [.int .u8 49] [] (.string aName_49) [] := by
  unfold aName_49
  exact fn_of_x hG hM Tryz.func56 (by kernel_rfl) (by kernel_rfl) 400 [.no, .cut 147 150] (J (Eq.refl false) (J (Eq.refl (147 : Int)) (J (Eq.refl (150 : Int)) trivial))) (by kernel_rfl)

/-- kotatsu/alu.Name -/
def aName_50  : ByteArray :=
  ⟨#[67, 76, 68]⟩
theorem aName_50_ok  : FnSpec Tryz.prog 56 1000 [.int .u8 50] [] (.string aName_50) [] := by
  unfold aName_50
  exact fn_of_x hG hM Tryz.func56 (by kernel_rfl) (by kernel_rfl) 400 [.no, .cut 150 153] (J (Eq.refl false) (J (Eq.refl (150 : Int)) (J (Eq.refl (153 : Int)) trivial))) (by kernel_rfl)

/-- kotatsu/alu.Name -/
def aName_51  : ByteArray :=
  ⟨#[83, 69, 68]⟩
theorem aName_51_ok  : FnSpec Tryz.prog 56 1000 [.int .u8 51] [] (.string aName_51) [] := by
  unfold aName_51
  exact fn_of_x hG hM Tryz.func56 (by kernel_rfl) (by kernel_rfl) 400 [.no, .cut 153 156] (J (Eq.refl false) (J (Eq.refl (153 : Int)) (J (Eq.refl (156 : Int)) trivial))) (by kernel_rfl)

/-- kotatsu/alu.Name -/
def aName_52  : ByteArray :=
  ⟨#[66, 80, 76]⟩
theorem aName_52_ok  : FnSpec Tryz.prog 56 1000 [.int .u8 52] [] (.string aName_52) [] := by
  unfold aName_52
  exact fn_of_x hG hM Tryz.func56 (by kernel_rfl) (by kernel_rfl) 400 [.no, .cut 156 159] (J (Eq.refl false) (J (Eq.refl (156 : Int)) (J (Eq.refl (159 : Int)) trivial))) (by kernel_rfl)

/-- kotatsu/alu.Name -/
def aName_53  : ByteArray :=
  ⟨#[66, 77, 73]⟩
theorem aName_53_ok  : FnSpec Tryz.prog 56 1000 [.int .u8 53] [] (.string aName_53) [] := by
  unfold aName_53
  exact fn_of_x hG hM Tryz.func56 (by kernel_rfl) (by kernel_rfl) 400 [.no, .cut 159 162] (J (Eq.refl false) (J (Eq.refl (159 : Int)) (J (Eq.refl (162 : Int)) trivial))) (by kernel_rfl)

/-- kotatsu/alu.Name -/
def aName_54  : ByteArray :=
  ⟨#[66, 86, 67]⟩
theorem aName_54_ok  : FnSpec Tryz.prog 56 1000 [.int .u8 54] [] (.string aName_54) [] := by
  unfold aName_54
  exact fn_of_x hG hM Tryz.func56 (by kernel_rfl) (by kernel_rfl) 400 [.no, .cut 162 165] (J (Eq.refl false) (J (Eq.refl (162 : Int)) (J (Eq.refl (165 : Int)) trivial))) (by kernel_rfl)

/-- kotatsu/alu.Name -/
def aName_55  : ByteArray :=
  ⟨#[66, 86, 83]⟩
theorem aName_55_ok  : FnSpec Tryz.prog 56 1000 [.int .u8 55] [] (.string aName_55) [] := by
  unfold aName_55
  exact fn_of_x hG hM Tryz.func56 (by kernel_rfl) (by kernel_rfl) 400 [.no, .cut 165 168] (J (Eq.refl false) (J (Eq.refl (165 : Int)) (J (Eq.refl (168 : Int)) trivial))) (by kernel_rfl)

/-- kotatsu/alu.Name -/
def aName_56  : ByteArray :=
  ⟨#[66, 67, 67]⟩
theorem aName_56_ok  : FnSpec Tryz.prog 56 1000 [.int .u8 56] [] (.string aName_56) [] := by
  unfold aName_56
  exact fn_of_x hG hM Tryz.func56 (by kernel_rfl) (by kernel_rfl) 400 [.no, .cut 168 171] (J (Eq.refl false) (J (Eq.refl (168 : Int)) (J (Eq.refl (171 : Int)) trivial))) (by kernel_rfl)

/-- kotatsu/alu.Name -/
def aName_57  : ByteArray :=
  ⟨#[66, 67, 83]⟩
theorem aName_57_ok  : FnSpec Tryz.prog 56 1000 [.int .u8 57] [] (.string aName_57) [] := by
  unfold aName_57
  exact fn_of_x hG hM Tryz.func56 (by kernel_rfl) (by kernel_rfl) 400 [.no, .cut 171 174] (J (Eq.refl false) (J (Eq.refl (171 : Int)) (J (Eq.refl (174 : Int)) trivial))) (by kernel_rfl)

/-- kotatsu/alu.Name -/
def aName_58  : ByteArray :=
  ⟨#[66, 78, 69]⟩
theorem aName_58_ok  : FnSpec Tryz.prog 56 1000 [.int .u8 58] [] (.string aName_58) [] := by
  unfold aName_58
  exact fn_of_x hG hM Tryz.func56 (by kernel_rfl) (by kernel_rfl) 400 [.no, .cut 174 177] (J (Eq.refl false) (J (Eq.refl (174 : Int)) (J (Eq.refl (177 : Int)) trivial))) (by kernel_rfl)

/-- kotatsu/alu.Name -/
def aName_59  : ByteArray :=
  ⟨#[66, 69, 81]⟩
theorem aName_59_ok  : FnSpec Tryz.prog 56 1000 [.int .u8 59] [] (.string aName_59) [] := by
  unfold aName_59
  exact fn_of_x hG hM Tryz.func56 (by kernel_rfl) (by kernel_rfl) 400 [.no, .cut 177 180] (J (Eq.refl false) (J (Eq.refl (177 : Int)) (J (Eq.refl (180 : Int)) trivial))) (by kernel_rfl)

/-- kotatsu/alu.Name -/
def aName_60  : ByteArray :=
  ⟨#[74, 77, 80]⟩
theorem aName_60_ok  : FnSpec Tryz.prog 56 1000 [.int .u8 60] [] (.string aName_60) [] := by
  unfold aName_60
  exact fn_of_x hG hM Tryz.func56 (by kernel_rfl) (by kernel_rfl) 400 [.no, .cut 180 183] (J (Eq.refl false) (J (Eq.refl (180 : Int)) (J (Eq.refl (183 : Int)) trivial))) (by kernel_rfl)

/-- kotatsu/alu.Name -/
def aName_61  : ByteArray :=
  ⟨#[74, 83, 82]⟩
theorem aName_61_ok  : FnSpec Tryz.prog 56 1000 [.int .u8 61] [] (.string aName_61) [] := by
  unfold aName_61
  exact fn_of_x hG hM Tryz.func56 (by kernel_rfl) (by kernel_rfl) 400 [.no, .cut 183 186] (J (Eq.refl false) (J (Eq.refl (183 : Int)) (J (Eq.refl (186 : Int)) trivial))) (by kernel_rfl)

/-- kotatsu/alu.Name -/
def aName_62  : ByteArray :=
  ⟨#[82, 84, 83]⟩
theorem aName_62_ok  : FnSpec Tryz.prog 56 1000 [.int .u8 62] [] (.string aName_62) [] := by
  unfold aName_62
  exact fn_of_x hG hM Tryz.func56 (by kernel_rfl) (by kernel_rfl) 400 [.no, .cut 186 189] (J (Eq.refl false) (J (Eq.refl (186 : Int)) (J (Eq.refl (189 : Int)) trivial))) (by kernel_rfl)

/-- kotatsu/alu.Name -/
def aName_63  : ByteArray :=
  ⟨#[82, 84, 73]⟩
theorem aName_63_ok  : FnSpec Tryz.prog 56 1000 [.int .u8 63] [] (.string aName_63) [] := by
  unfold aName_63
  exact fn_of_x hG hM Tryz.func56 (by kernel_rfl) (by kernel_rfl) 400 [.no, .cut 189 192] (J (Eq.refl false) (J (Eq.refl (189 : Int)) (J (Eq.refl (192 : Int)) trivial))) (by kernel_rfl)

/-- kotatsu/alu.Name -/
def aName_64  : ByteArray :=
  ⟨#[66, 82, 75]⟩
theorem aName_64_ok  : FnSpec Tryz.prog 56 1000 [.int .u8 64] [] (.string aName_64) [] := by
  unfold aName_64
  exact fn_of_x hG hM Tryz.func56 (by kernel_rfl) (by kernel_rfl) 400 [.no, .cut 192 195] (J (Eq.refl false) (J (Eq.refl (192 : Int)) (J (Eq.refl (195 : Int)) trivial))) (by kernel_rfl)

/-- kotatsu/alu.Name -/
def aName_65  : ByteArray :=
  ⟨#[80, 72, 65]⟩
theorem aName_65_ok  : FnSpec Tryz.prog 56 1000 [.int .u8 65] [] (.string aName_65) [] := by
  unfold aName_65
  exact fn_of_x hG hM Tryz.func56 (by kernel_rfl) (by kernel_rfl) 400 [.no, .cut 195 198] (J (Eq.refl false) (J (Eq.refl (195 : Int)) (J (Eq.refl (198 : Int)) trivial))) (by kernel_rfl)

/-- kotatsu/alu.Name -/
def aName_66  : ByteArray :=
  ⟨#[80, 72, 80]⟩
theorem aName_66_ok  : FnSpec Tryz.prog 56 1000 [.int .u8 66] [] (.string aName_66) [] := by
  unfold aName_66
  exact fn_of_x hG hM Tryz.func56 (by kernel_rfl) (by kernel_rfl) 400 [.no, .cut 198 201] (J (Eq.refl false) (J (Eq.refl (198 : Int)) (J (Eq.refl (201 : Int)) trivial))) (by kernel_rfl)

/-- kotatsu/alu.Name -/
def aName_67  : ByteArray :=
  ⟨#[80, 76, 65]⟩
theorem aName_67_ok  : FnSpec Tryz.prog 56 1000 [.int .u8 67] [] (.string aName_67) [] := by
  unfold aName_67
  exact fn_of_x hG hM Tryz.func56 (by kernel_rfl) (by kernel_rfl) 400 [.no, .cut 201 204] (J (Eq.refl false) (J (Eq.refl (201 : Int)) (J (Eq.refl (204 : Int)) trivial))) (by kernel_rfl)

/-- kotatsu/alu.Name -/
def aName_68  : ByteArray :=
  ⟨#[80, 76, 80]⟩
theorem aName_68_ok  : FnSpec Tryz.prog 56 1000 [.int .u8 68] [] (.string aName_68) [] := by
  unfold aName_68
  exact fn_of_x hG hM Tryz.func56 (by kernel_rfl) (by kernel_rfl) 400 [.no, .cut 204 207] (J (Eq.refl false) (J (Eq.refl (204 : Int)) (J (Eq.refl (207 : Int)) trivial))) (by kernel_rfl)

/-- kotatsu/alu.Name -/
def aName_69  : ByteArray :=
  ⟨#[74, 65, 77]⟩
theorem aName_69_ok  : FnSpec Tryz.prog 56 1000 [.int .u8 69] [] (.string aName_69) [] := by
  unfold aName_69
  exact fn_of_x hG hM Tryz.func56 (by kernel_rfl) (by kernel_rfl) 400 [.no, .cut 207 210] (J (Eq.refl false) (J (Eq.refl (207 : Int)) (J (Eq.refl (210 : Int)) trivial))) (by kernel_rfl)

def namesB : List ByteArray := [⟨#[78, 79, 80]⟩, ⟨#[79, 82, 65]⟩, ⟨#[65, 78, 68]⟩, ⟨#[69, 79, 82]⟩, ⟨#[65, 68, 67]⟩, ⟨#[83, 66, 67]⟩, ⟨#[67, 77, 80]⟩, ⟨#[67, 80, 88]⟩, ⟨#[67, 80, 89]⟩, ⟨#[76, 68, 65]⟩, ⟨#[76, 68, 88]⟩, ⟨#[76, 68, 89]⟩, ⟨#[66, 73, 84]⟩, ⟨#[76, 65, 88]⟩, ⟨#[65, 78, 67]⟩, ⟨#[65, 76, 82]⟩, ⟨#[65, 82, 82]⟩, ⟨#[65, 88, 83]⟩, ⟨#[76, 65, 83]⟩, ⟨#[65, 83, 76]⟩, ⟨#[76, 83, 82]⟩, ⟨#[82, 79, 76]⟩, ⟨#[82, 79, 82]⟩, ⟨#[73, 78, 67]⟩, ⟨#[68, 69, 67]⟩, ⟨#[83, 76, 79]⟩, ⟨#[82, 76, 65]⟩, ⟨#[83, 82, 69]⟩, ⟨#[82, 82, 65]⟩, ⟨#[68, 67, 80]⟩, ⟨#[73, 83, 67]⟩, ⟨#[83, 84, 65]⟩, ⟨#[83, 84, 88]⟩, ⟨#[83, 84, 89]⟩, ⟨#[83, 65, 88]⟩, ⟨#[84, 65, 88]⟩, ⟨#[84, 65, 89]⟩, ⟨#[84, 88, 65]⟩, ⟨#[84, 89, 65]⟩, ⟨#[84, 83, 88]⟩, ⟨#[84, 88, 83]⟩, ⟨#[73, 78, 88]⟩, ⟨#[73, 78, 89]⟩, ⟨#[68, 69, 88]⟩, ⟨#[68, 69, 89]⟩, ⟨#[67, 76, 67]⟩, ⟨#[83, 69, 67]⟩, ⟨#[67, 76, 73]⟩, ⟨#[83, 69, 73]⟩, ⟨#[67, 76, 86]⟩, ⟨#[67, 76, 68]⟩, ⟨#[83, 69, 68]⟩, ⟨#[66, 80, 76]⟩, ⟨#[66, 77, 73]⟩, ⟨#[66, 86, 67]⟩, ⟨#[66, 86, 83]⟩, ⟨#[66, 67, 67]⟩, ⟨#[66, 67, 83]⟩, ⟨#[66, 78, 69]⟩, ⟨#[66, 69, 81]⟩, ⟨#[74, 77, 80]⟩, ⟨#[74, 83, 82]⟩, ⟨#[82, 84, 83]⟩, ⟨#[82, 84, 73]⟩, ⟨#[66, 82, 75]⟩, ⟨#[80, 72, 65]⟩, ⟨#[80, 72, 80]⟩, ⟨#[80, 76, 65]⟩, ⟨#[80, 76, 80]⟩, ⟨#[74, 65, 77]⟩]
def nameB (op : Int) : ByteArray := if 0 ≤ op ∧ op ≤ 69 then namesB.getD op.toNat ⟨#[]⟩ else ⟨#[]⟩
/-- kotatsu/alu.Name -/
def aName_no (op : Int) : ByteArray :=
  ⟨#[]⟩
theorem aName_no_ok (op : Int) (ho : (decide ((op : Int) > 69)) = true) : FnSpec Tryz.prog 56 1000 [.int .u8 op] [] (.string (aName_no op)) [] := by
  unfold aName_no
  exact fn_of_x hG hM Tryz.func56 (by kernel_rfl) (by kernel_rfl) 400 [.yes] (J ho trivial) (by kernel_rfl)

theorem aNameB_ok (op : Int) (hop : 0 ≤ op ∧ op < 256) : FnSpec Tryz.prog 56 1000 [.int .u8 op] [] (.string (nameB op)) [] := by
  rcases (show op = 0 ∨ op = 1 ∨ op = 2 ∨ op = 3 ∨ op = 4 ∨ op = 5 ∨ op = 6 ∨ op = 7 ∨ op = 8 ∨ op = 9 ∨ op = 10 ∨ op = 11 ∨ op = 12 ∨ op = 13 ∨ op = 14 ∨ op = 15 ∨ op = 16 ∨ op = 17 ∨ op = 18 ∨ op = 19 ∨ op = 20 ∨ op = 21 ∨ op = 22 ∨ op = 23 ∨ op = 24 ∨ op = 25 ∨ op = 26 ∨ op = 27 ∨ op = 28 ∨ op = 29 ∨ op = 30 ∨ op = 31 ∨ op = 32 ∨ op = 33 ∨ op = 34 ∨ op = 35 ∨ op = 36 ∨ op = 37 ∨ op = 38 ∨ op = 39 ∨ op = 40 ∨ op = 41 ∨ op = 42 ∨ op = 43 ∨ op = 44 ∨ op = 45 ∨ op = 46 ∨ op = 47 ∨ op = 48 ∨ op = 49 ∨ op = 50 ∨ op = 51 ∨ op = 52 ∨ op = 53 ∨ op = 54 ∨ op = 55 ∨ op = 56 ∨ op = 57 ∨ op = 58 ∨ op = 59 ∨ op = 60 ∨ op = 61 ∨ op = 62 ∨ op = 63 ∨ op = 64 ∨ op = 65 ∨ op = 66 ∨ op = 67 ∨ op = 68 ∨ op = 69 ∨ 69 < op by omega) with h | h | h | h | h | h | h | h | h | h | h | h | h | h | h | h | h | h | h | h | h | h | h | h | h | h | h | h | h | h | h | h | h | h | h | h | h | h | h | h | h | h | h | h | h | h | h | h | h | h | h | h | h | h | h | h | h | h | h | h | h | h | h | h | h | h | h | h | h | h | h
  · subst h; exact aName_0_ok
  · subst h; exact aName_1_ok
  · subst h; exact aName_2_ok
  · subst h; exact aName_3_ok
  · subst h; exact aName_4_ok
  · subst h; exact aName_5_ok
  · subst h; exact aName_6_ok
  · subst h; exact aName_7_ok
  · subst h; exact aName_8_ok
  · subst h; exact aName_9_ok
  · subst h; exact aName_10_ok
  · subst h; exact aName_11_ok
  · subst h; exact aName_12_ok
  · subst h; exact aName_13_ok
  · subst h; exact aName_14_ok
  · subst h; exact aName_15_ok
  · subst h; exact aName_16_ok
  · subst h; exact aName_17_ok
  · subst h; exact aName_18_ok
  · subst h; exact aName_19_ok
  · subst h; exact aName_20_ok
  · subst h; exact aName_21_ok
  · subst h; exact aName_22_ok
  · subst h; exact aName_23_ok
  · subst h; exact aName_24_ok
  · subst h; exact aName_25_ok
  · subst h; exact aName_26_ok
  · subst h; exact aName_27_ok
  · subst h; exact aName_28_ok
  · subst h; exact aName_29_ok
  · subst h; exact aName_30_ok
  · subst h; exact aName_31_ok
  · subst h; exact aName_32_ok
  · subst h; exact aName_33_ok
  · subst h; exact aName_34_ok
  · subst h; exact aName_35_ok
  · subst h; exact aName_36_ok
  · subst h; exact aName_37_ok
  · subst h; exact aName_38_ok
  · subst h; exact aName_39_ok
  · subst h; exact aName_40_ok
  · subst h; exact aName_41_ok
  · subst h; exact aName_42_ok
  · subst h; exact aName_43_ok
  · subst h; exact aName_44_ok
  · subst h; exact aName_45_ok
  · subst h; exact aName_46_ok
  · subst h; exact aName_47_ok
  · subst h; exact aName_48_ok
  · subst h; exact aName_49_ok
  · subst h; exact aName_50_ok
  · subst h; exact aName_51_ok
  · subst h; exact aName_52_ok
  · subst h; exact aName_53_ok
  · subst h; exact aName_54_ok
  · subst h; exact aName_55_ok
  · subst h; exact aName_56_ok
  · subst h; exact aName_57_ok
  · subst h; exact aName_58_ok
  · subst h; exact aName_59_ok
  · subst h; exact aName_60_ok
  · subst h; exact aName_61_ok
  · subst h; exact aName_62_ok
  · subst h; exact aName_63_ok
  · subst h; exact aName_64_ok
  · subst h; exact aName_65_ok
  · subst h; exact aName_66_ok
  · subst h; exact aName_67_ok
  · subst h; exact aName_68_ok
  · subst h; exact aName_69_ok
  · have e : nameB op = ⟨#[]⟩ := by unfold nameB; rw [if_neg (by omega)]
    rw [e]; exact aName_no_ok op (by simpa using h)
abbrev aNameB := nameB

/-- a loop of kotatsu/alu.Find: one round -/
inductive aFind_L1 (name : ByteArray) (xd : Int × Int × Bool) : (Int × Int × Bool) ⊕ ((Int × Int × Bool) ⊕ (Int × Bool)) → Prop
  | p1 (d1 : (decide ((xd.1 : Int) < 70)) = true) (w1d : 0 ≤ (IntKind.u8.wrap xd.1) ∧ (IntKind.u8.wrap xd.1) < 256) (d2 : (ByteArray.toList (aNameB (IntKind.u8.wrap xd.1)) == ByteArray.toList name) = true) : aFind_L1 name xd (.inr (.inr ((IntKind.u8.wrap xd.1), true)))
  | p2 (d1 : (decide ((xd.1 : Int) < 70)) = true) (w1d : 0 ≤ (IntKind.u8.wrap xd.1) ∧ (IntKind.u8.wrap xd.1) < 256) (d2 : (ByteArray.toList (aNameB (IntKind.u8.wrap xd.1)) == ByteArray.toList name) = false) : aFind_L1 name xd (.inl ((IntKind.i64.wrap (xd.1 + 1)), xd.2.1, xd.2.2))
  | p3 (d1 : (decide ((xd.1 : Int) < 70)) = false) : aFind_L1 name xd (.inr (.inl (xd.1, xd.2.1, xd.2.2)))
def aFind_L1_T (name : ByteArray) (xd : Int × Int × Bool) : Tm := [(0, .string name), (2, .int .u8 xd.2.1), (3, .bool xd.2.2), (5, .int .i64 xd.1)]
def aFind_L1_H (name : ByteArray) (xd : Int × Int × Bool) : Heap := []
def aFind_L1_T1 (name : ByteArray) : ((Int × Int × Bool) ⊕ (Int × Bool)) → Tm
  | .inl q_ => aFind_L1_T name q_
  | .inr v => [(2, .int .u8 v.1), (3, .bool v.2)]
def aFind_L1_H1 (name : ByteArray) : ((Int × Int × Bool) ⊕ (Int × Bool)) → Heap
  | .inl q_ => aFind_L1_H name q_
  | .inr v => []
def aFind_L1_ex : ((Int × Int × Bool) ⊕ (Int × Bool)) → Ex
  | .inl _ => .exit 0
  | .inr _ => .ret
theorem aFind_L1_p1 (name : ByteArray) (xd : Int × Int × Bool) (d1 : (decide ((xd.1 : Int) < 70)) = true) (w1d : 0 ≤ (IntKind.u8.wrap xd.1) ∧ (IntKind.u8.wrap xd.1) < 256) (d2 : (ByteArray.toList (aNameB (IntKind.u8.wrap xd.1)) == ByteArray.toList name) = true) : Runs Tryz.prog 16 (bodyOf Tryz.f34 [1, 0, 1, 0, 0]) (aFind_L1_T name xd) (aFind_L1_H name xd) 1000 .ret (aFind_L1_T1 name (.inr ((IntKind.u8.wrap xd.1), true))) (aFind_L1_H1 name (.inr ((IntKind.u8.wrap xd.1), true))) 1000 := by
  exact runs_of_x hG hM 400 [.yes, .call [] [] 1000 (.string (aNameB (IntKind.u8.wrap xd.1))) [], .yes] (J d1 (J (aNameB_ok (IntKind.u8.wrap xd.1) w1d) (J d2 trivial))) (by kernel_rfl)
theorem aFind_L1_p2 (name : ByteArray) (xd : Int × Int × Bool) (d1 : (decide ((xd.1 : Int) < 70)) = true) (w1d : 0 ≤ (IntKind.u8.wrap xd.1) ∧ (IntKind.u8.wrap xd.1) < 256) (d2 : (ByteArray.toList (aNameB (IntKind.u8.wrap xd.1)) == ByteArray.toList name) = false) : Runs Tryz.prog 16 (bodyOf Tryz.f34 [1, 0, 1, 0, 0]) (aFind_L1_T name xd) (aFind_L1_H name xd) 1000 .normal (aFind_L1_T name ((IntKind.i64.wrap (xd.1 + 1)), xd.2.1, xd.2.2)) (aFind_L1_H name ((IntKind.i64.wrap (xd.1 + 1)), xd.2.1, xd.2.2)) 1000 := by
  exact runs_of_x hG hM 400 [.yes, .call [] [] 1000 (.string (aNameB (IntKind.u8.wrap xd.1))) [], .no] (J d1 (J (aNameB_ok (IntKind.u8.wrap xd.1) w1d) (J d2 trivial))) (by kernel_rfl)
theorem aFind_L1_p3 (name : ByteArray) (xd : Int × Int × Bool) (d1 : (decide ((xd.1 : Int) < 70)) = false) : Runs Tryz.prog 16 (bodyOf Tryz.f34 [1, 0, 1, 0, 0]) (aFind_L1_T name xd) (aFind_L1_H name xd) 1000 (.exit 0) (aFind_L1_T1 name (.inl (xd.1, xd.2.1, xd.2.2))) (aFind_L1_H1 name (.inl (xd.1, xd.2.1, xd.2.2))) 1000 := by
  exact runs_of_x hG hM 400 [.no] (J d1 trivial) (by kernel_rfl)
theorem aFind_L1_runs (name : ByteArray) (x_ : Int × Int × Bool) (y_ : (Int × Int × Bool) ⊕ (Int × Bool)) (h_ : LoopR (aFind_L1 name) x_ y_) : Runs Tryz.prog 16 (.block 0 (.loop (bodyOf Tryz.f34 [1, 0, 1, 0, 0]))) (aFind_L1_T name x_) (aFind_L1_H name x_) 1000 (outOf 0 (aFind_L1_ex y_)) (aFind_L1_T1 name y_) (aFind_L1_H1 name y_) 1000 := by
  refine block_loop (aFind_L1 name) (aFind_L1_T name) (aFind_L1_H name) aFind_L1_ex (aFind_L1_T1 name) (aFind_L1_H1 name) ?_ ?_ ?_ x_ y_ h_
  · intro r hr; cases r <;> cases hr
  · intro xd y_ hx
    cases hx with
    | p2 d1 w1d d2 => exact aFind_L1_p2 name xd d1 w1d d2
  · intro xd y_ hx
    cases hx with
    | p1 d1 w1d d2 => exact aFind_L1_p1 name xd d1 w1d d2
    | p3 d1 => exact aFind_L1_p3 name xd d1

theorem aFind_p1 (name : ByteArray) (r1 : Int × Int × Bool) (l1 : LoopR (aFind_L1 name) (0, 0, false) (.inl r1)) : FnSpec Tryz.prog 34 1000 [.string name] [] (.tuple ⟨[.int .u8 0, .bool false]⟩) [] := by
  exact fn_of_x hG hM Tryz.func34 (by kernel_rfl) (by kernel_rfl) 400 [.segk 1 0 [0, 2, 3, 5] [] .normal (aFind_L1_T1 name (.inl r1)) (aFind_L1_H1 name (.inl r1)) 1000] (J (aFind_L1_runs name (0, 0, false) (.inl r1) l1) trivial) (by kernel_rfl)
theorem aFind_p2 (name : ByteArray) (r1 : Int × Bool) (l1 : LoopR (aFind_L1 name) (0, 0, false) (.inr r1)) : FnSpec Tryz.prog 34 1000 [.string name] [] (.tuple ⟨[.int .u8 r1.1, .bool r1.2]⟩) [] := by
  exact fn_of_x hG hM Tryz.func34 (by kernel_rfl) (by kernel_rfl) 400 [.segk 1 0 [0, 2, 3, 5] [] .ret (aFind_L1_T1 name (.inr r1)) (aFind_L1_H1 name (.inr r1)) 1000] (J (aFind_L1_runs name (0, 0, false) (.inr r1) l1) trivial) (by kernel_rfl)

def eqB (a b : ByteArray) : Bool := a.toList == b.toList
def findFrom (name : ByteArray) : Nat → Int → Int × Bool
  | 0, _ => (0, false)
  | k + 1, i => if eqB (nameB i) name = true then (i, true) else findFrom name k (i + 1)
def findF (name : ByteArray) : Int × Bool := findFrom name 70 0
theorem i64_id {i : Int} (h : 0 ≤ i ∧ i < 300) : IntKind.i64.wrap i = i := by rw [IntKind.wrap_i64]; omega
theorem u8_id {i : Int} (h : 0 ≤ i ∧ i < 256) : IntKind.u8.wrap i = i := by rw [IntKind.wrap_u8]; omega
theorem find_loop (name : ByteArray) : ∀ (k : Nat) (i : Int) (x : Int × Bool), 0 ≤ i → i + (k : Int) = 70 →
    (∃ r, LoopR (aFind_L1 name) (i, x) (.inl r) ∧ findFrom name k i = (0, false)) ∨ (∃ j, LoopR (aFind_L1 name) (i, x) (.inr (j, true)) ∧ findFrom name k i = (j, true)) := by
  intro k
  induction k with
  | zero =>
    intro i x h0 hi
    exact .inl ⟨_, .last (.p3 (by simp; omega)), rfl⟩
  | succ k ih =>
    intro i x h0 hi
    have hw : IntKind.u8.wrap i = i := u8_id ⟨h0, by omega⟩
    have hw2 : IntKind.i64.wrap (i + 1) = i + 1 := i64_id ⟨by omega, by omega⟩
    have hr : 0 ≤ IntKind.u8.wrap i ∧ IntKind.u8.wrap i < 256 := by rw [hw]; omega
    have hlt : (decide (i < 70)) = true := by simp; omega
    unfold findFrom
    cases he : eqB (nameB i) name with
    | true =>
      rw [if_pos rfl]
      refine .inr ⟨i, .last ?_, rfl⟩
      have := aFind_L1.p1 (name := name) (xd := (i, x)) hlt hr (by simpa [hw, eqB, aNameB] using he)
      simpa [hw] using this
    | false =>
      rw [if_neg (by simp)]
      have st := aFind_L1.p2 (name := name) (xd := (i, x)) hlt hr (by simpa [hw, eqB, aNameB] using he)
      simp only [hw2] at st
      rcases ih (i + 1) x (by omega) (by omega) with ⟨r, h1, h2⟩ | ⟨j, h1, h2⟩
      · exact .inl ⟨r, .more st h1, h2⟩
      · exact .inr ⟨j, .more st h1, h2⟩

theorem findF_ok (name : ByteArray) : FnSpec Tryz.prog 34 1000 [.string name] [] (.tuple ⟨[.int .u8 ((findF name).1), .bool ((findF name).2)]⟩) [] := by
  unfold findF
  rcases find_loop name 70 0 (0, false) (by omega) (by omega) with ⟨r, h1, h2⟩ | ⟨j, h1, h2⟩
  · rw [h2]; exact aFind_p1 name r h1
  · rw [h2]; exact aFind_p2 name _ h1

abbrev codeNames : ByteArray := ⟨#[66, 82, 75, 79, 82, 65, 74, 65, 77, 83, 76, 79, 78, 79, 80, 79, 82, 65, 65, 83, 76, 83, 76, 79, 80, 72, 80, 79, 82, 65, 65, 83, 76, 65, 78, 67, 78, 79, 80, 79, 82, 65, 65, 83, 76, 83, 76, 79, 66, 80, 76, 79, 82, 65, 74, 65, 77, 83, 76, 79, 78, 79, 80, 79, 82, 65, 65, 83, 76, 83, 76, 79, 67, 76, 67, 79, 82, 65, 78, 79, 80, 83, 76, 79, 78, 79, 80, 79, 82, 65, 65, 83, 76, 83, 76, 79, 74, 83, 82, 65, 78, 68, 74, 65, 77, 82, 76, 65, 66, 73, 84, 65, 78, 68, 82, 79, 76, 82, 76, 65, 80, 76, 80, 65, 78, 68, 82, 79, 76, 65, 78, 67, 66, 73, 84, 65, 78, 68, 82, 79, 76, 82, 76, 65, 66, 77, 73, 65, 78, 68, 74, 65, 77, 82, 76, 65, 78, 79, 80, 65, 78, 68, 82, 79, 76, 82, 76, 65, 83, 69, 67, 65, 78, 68, 78, 79, 80, 82, 76, 65, 78, 79, 80, 65, 78, 68, 82, 79, 76, 82, 76, 65, 82, 84, 73, 69, 79, 82, 74, 65, 77, 83, 82, 69, 78, 79, 80, 69, 79, 82, 76, 83, 82, 83, 82, 69, 80, 72, 65, 69, 79, 82, 76, 83, 82, 65, 76, 82, 74, 77, 80, 69, 79, 82, 76, 83, 82, 83, 82, 69, 66, 86, 67, 69, 79, 82, 74, 65, 77, 83, 82, 69, 78, 79, 80, 69, 79, 82, 76, 83, 82, 83, 82, 69, 67, 76, 73, 69, 79, 82, 78, 79, 80, 83, 82, 69, 78, 79, 80, 69, 79, 82, 76, 83, 82, 83, 82, 69, 82, 84, 83, 65, 68, 67, 74, 65, 77, 82, 82, 65, 78, 79, 80, 65, 68, 67, 82, 79, 82, 82, 82, 65, 80, 76, 65, 65, 68, 67, 82, 79, 82, 65, 82, 82, 74, 77, 80, 65, 68, 67, 82, 79, 82, 82, 82, 65, 66, 86, 83, 65, 68, 67, 74, 65, 77, 82, 82, 65, 78, 79, 80, 65, 68, 67, 82, 79, 82, 82, 82, 65, 83, 69, 73, 65, 68, 67, 78, 79, 80, 82, 82, 65, 78, 79, 80, 65, 68, 67, 82, 79, 82, 82, 82, 65, 78, 79, 80, 83, 84, 65, 78, 79, 80, 83, 65, 88, 83, 84, 89, 83, 84, 65, 83, 84, 88, 83, 65, 88, 68, 69, 89, 78, 79, 80, 84, 88, 65, 74, 65, 77, 83, 84, 89, 83, 84, 65, 83, 84, 88, 83, 65, 88, 66, 67, 67, 83, 84, 65, 74, 65, 77, 74, 65, 77, 83, 84, 89, 83, 84, 65, 83, 84, 88, 83, 65, 88, 84, 89, 65, 83, 84, 65, 84, 88, 83, 74, 65, 77, 74, 65, 77, 83, 84, 65, 74, 65, 77, 74, 65, 77, 76, 68, 89, 76, 68, 65, 76, 68, 88, 76, 65, 88, 76, 68, 89, 76, 68, 65, 76, 68, 88, 76, 65, 88, 84, 65, 89, 76, 68, 65, 84, 65, 88, 74, 65, 77, 76, 68, 89, 76, 68, 65, 76, 68, 88, 76, 65, 88, 66, 67, 83, 76, 68, 65, 74, 65, 77, 76, 65, 88, 76, 68, 89, 76, 68, 65, 76, 68, 88, 76, 65, 88, 67, 76, 86, 76, 68, 65, 84, 83, 88, 76, 65, 83, 76, 68, 89, 76, 68, 65, 76, 68, 88, 76, 65, 88, 67, 80, 89, 67, 77, 80, 78, 79, 80, 68, 67, 80, 67, 80, 89, 67, 77, 80, 68, 69, 67, 68, 67, 80, 73, 78, 89, 67, 77, 80, 68, 69, 88, 65, 88, 83, 67, 80, 89, 67, 77, 80, 68, 69, 67, 68, 67, 80, 66, 78, 69, 67, 77, 80, 74, 65, 77, 68, 67, 80, 78, 79, 80, 67, 77, 80, 68, 69, 67, 68, 67, 80, 67, 76, 68, 67, 77, 80, 78, 79, 80, 68, 67, 80, 78, 79, 80, 67, 77, 80, 68, 69, 67, 68, 67, 80, 67, 80, 88, 83, 66, 67, 78, 79, 80, 73, 83, 67, 67, 80, 88, 83, 66, 67, 73, 78, 67, 73, 83, 67, 73, 78, 88, 83, 66, 67, 78, 79, 80, 83, 66, 67, 67, 80, 88, 83, 66, 67, 73, 78, 67, 73, 83, 67, 66, 69, 81, 83, 66, 67, 74, 65, 77, 73, 83, 67, 78, 79, 80, 83, 66, 67, 73, 78, 67, 73, 83, 67, 83, 69, 68, 83, 66, 67, 78, 79, 80, 73, 83, 67, 78, 79, 80, 83, 66, 67, 73, 78, 67, 73, 83, 67]⟩
abbrev codeModes : ByteArray := ⟨#[35, 40, 46, 40, 122, 122, 122, 122, 46, 35, 46, 35, 97, 97, 97, 97, 114, 41, 46, 41, 120, 120, 120, 120, 46, 89, 46, 89, 88, 88, 88, 88, 97, 40, 46, 40, 122, 122, 122, 122, 46, 35, 46, 35, 97, 97, 97, 97, 114, 41, 46, 41, 120, 120, 120, 120, 46, 89, 46, 89, 88, 88, 88, 88, 46, 40, 46, 40, 122, 122, 122, 122, 46, 35, 46, 35, 97, 97, 97, 97, 114, 41, 46, 41, 120, 120, 120, 120, 46, 89, 46, 89, 88, 88, 88, 88, 46, 40, 46, 40, 122, 122, 122, 122, 46, 35, 46, 35, 105, 97, 97, 97, 114, 41, 46, 41, 120, 120, 120, 120, 46, 89, 46, 89, 88, 88, 88, 88, 35, 40, 35, 40, 122, 122, 122, 122, 46, 35, 46, 46, 97, 97, 97, 97, 114, 41, 46, 46, 120, 120, 121, 121, 46, 89, 46, 46, 46, 88, 46, 46, 35, 40, 35, 40, 122, 122, 122, 122, 46, 35, 46, 46, 97, 97, 97, 97, 114, 41, 46, 41, 120, 120, 121, 121, 46, 89, 46, 89, 88, 88, 89, 89, 35, 40, 35, 40, 122, 122, 122, 122, 46, 35, 46, 35, 97, 97, 97, 97, 114, 41, 46, 41, 120, 120, 120, 120, 46, 89, 46, 89, 88, 88, 88, 88, 35, 40, 35, 40, 122, 122, 122, 122, 46, 35, 46, 35, 97, 97, 97, 97, 114, 41, 46, 41, 120, 120, 120, 120, 46, 89, 46, 89, 88, 88, 88, 88]⟩
abbrev codeSigns : ByteArray := ⟨#[46, 35, 122, 120, 121, 97, 88, 89, 40, 41, 114, 105]⟩
theorem ext80 (s : ByteArray) (c : Int) : ExtSpec Tryz.prog 80 [.string s, .int .u8 c] (.int .i64 (firstIdx s c.toNat.toUInt8)) :=
  ⟨rfl, rfl, fun w => by
    rw [run_callFunc_extern (P := Tryz.prog) Tryz.func80 (by kernel_rfl) rfl (by kernel_rfl) (e := Extern.BytealgIndexByte.indexByte) (by kernel_rfl), run_indexByte_string]; rfl⟩

/-- internal/stringslite.IndexByte -/
def slIndex (s : ByteArray) (c : Int) : Int :=
  (firstIdx s (Int.toNat c).toUInt8)
theorem slIndex_ok (s : ByteArray) (c : Int) : FnSpec Tryz.prog 57 1000 [.string s, .int .u8 c] [] (.int .i64 (slIndex s c)) [] := by
  unfold slIndex
  exact fn_of_x hG hM Tryz.func57 (by kernel_rfl) (by kernel_rfl) 400 [.ext (.int .i64 (firstIdx s (Int.toNat c).toUInt8))] (J (ext80 s c) trivial) (by kernel_rfl)

/-- strings.IndexByte -/
def sIndex (s : ByteArray) (c : Int) : Int :=
  (slIndex s c)
theorem sIndex_ok (s : ByteArray) (c : Int) : FnSpec Tryz.prog 35 1000 [.string s, .int .u8 c] [] (.int .i64 (sIndex s c)) [] := by
  unfold sIndex
  exact fn_of_x hG hM Tryz.func35 (by kernel_rfl) (by kernel_rfl) 400 [.call [] [] 1000 (.int .i64 (slIndex s c)) []] (J (slIndex_ok s c) trivial) (by kernel_rfl)

structure Code where
  Op : Int
  Mode : Int
def Code.enc (s : Code) : Value := .agg ⟨[.int .u8 s.Op, .int .u8 s.Mode]⟩
def Code.blk (s : Code) : Blk := ⟨[.one (.int .u8 s.Op), .one (.int .u8 s.Mode)], 36, false⟩
def Code.cells (s : Code) : List Value := [.int .u8 s.Op, .int .u8 s.Mode]
structure Code.ok (s : Code) : Prop where
  Op : rng 256 s.Op
  Mode : rng 256 s.Mode

theorem codeNames_n : ByteArray.size codeNames = 768 := by kernel_rfl
theorem codeModes_n : ByteArray.size codeModes = 256 := by kernel_rfl
theorem i64_id2 {i : Int} (h : 0 ≤ i ∧ i < 100000) : IntKind.i64.wrap i = i := by rw [IntKind.wrap_i64]; omega
/-- kotatsu/code.Of -/
def codeF (b : Int) : Code :=
  ({ Op := (findF (ByteArray.extract codeNames (Int.toNat (IntKind.i64.wrap (3 * (IntKind.i64.wrap b)))) (Int.toNat (IntKind.i64.wrap ((IntKind.i64.wrap (3 * (IntKind.i64.wrap b))) + 3))))).1, Mode := (IntKind.u8.wrap (sIndex codeSigns (strAt codeModes (Int.toNat b)))) } : Code)
theorem codeF_ok (b : Int) (w_b : rng 256 b) : FnSpec Tryz.prog 14 1000 [.int .u8 b] [] (Code.enc (codeF b)) [] := by
  unfold codeF
  exact fn_of_x hG hM Tryz.func14 (by kernel_rfl) (by kernel_rfl) 400 [.symcut, .call [] [] 1000 (.tuple ⟨[.int .u8 ((findF (ByteArray.extract codeNames (Int.toNat (IntKind.i64.wrap (3 * (IntKind.i64.wrap b)))) (Int.toNat (IntKind.i64.wrap ((IntKind.i64.wrap (3 * (IntKind.i64.wrap b))) + 3))))).1), .bool ((findF (ByteArray.extract codeNames (Int.toNat (IntKind.i64.wrap (3 * (IntKind.i64.wrap b)))) (Int.toNat (IntKind.i64.wrap ((IntKind.i64.wrap (3 * (IntKind.i64.wrap b))) + 3))))).2)]⟩) [], .call [] [] 1000 (.int .i64 (sIndex codeSigns (strAt codeModes (Int.toNat b)))) []] (J (show (0 : Int) ≤ (IntKind.i64.wrap (3 * (IntKind.i64.wrap b))) ∧ ((IntKind.i64.wrap (3 * (IntKind.i64.wrap b))) : Int) ≤ (IntKind.i64.wrap ((IntKind.i64.wrap (3 * (IntKind.i64.wrap b))) + 3)) ∧ ((IntKind.i64.wrap ((IntKind.i64.wrap (3 * (IntKind.i64.wrap b))) + 3)) : Int) ≤ ((ByteArray.size codeNames : Nat) : Int) from by unfold rng at w_b; rw [codeNames_n, i64_id2 (i := b) (by omega), i64_id2 (i := 3 * b) (by omega), i64_id2 (i := 3 * b + 3) (by omega)]; omega) (J (findF_ok (ByteArray.extract codeNames (Int.toNat (IntKind.i64.wrap (3 * (IntKind.i64.wrap b)))) (Int.toNat (IntKind.i64.wrap ((IntKind.i64.wrap (3 * (IntKind.i64.wrap b))) + 3))))) (J (show (0 : Int) ≤ b ∧ (b : Int) < ((ByteArray.size codeModes : Nat) : Int) from by unfold rng at w_b; rw [codeModes_n]; omega) (J (sIndex_ok codeSigns (strAt codeModes (Int.toNat b))) trivial)))) (by kernel_rfl)

theorem find_rng (name : ByteArray) : ∀ (k : Nat) (i : Int), 0 ≤ i → 0 ≤ (findFrom name k i).1 ∧ (findFrom name k i).1 ≤ i + (k : Int)
  | 0, i, h => by simp only [findFrom]; omega
  | k + 1, i, h => by
    unfold findFrom
    split
    · simp only; omega
    · have := find_rng name k (i + 1) (by omega); omega
theorem codeF_w (b : Int) : Code.ok (codeF b) := by
  constructor
  · unfold codeF; simp only [rng, findF]
    have := find_rng (ByteArray.extract codeNames (Int.toNat (IntKind.i64.wrap (3 * (IntKind.i64.wrap b)))) (Int.toNat (IntKind.i64.wrap ((IntKind.i64.wrap (3 * (IntKind.i64.wrap b))) + 3)))) 70 0 (by omega)
    omega
  · unfold codeF; exact rng_wrap_u8 _

end Go.Proofs.YtmnhmplcpijanaaGreat
