/-
  What an operation is called, by each number. Written by gen_names.py. No condition.
-/
import Derived.Test.YtfjeifmenlnkkaaVS
import Derived.Test.YtfjeifmenlnkkaaVR
import Derived.Test.YtfjeifmenlnkkaaVP
import Derived.Test.YtfjeifmenlnkkaaVT
import Derived.Test.YtfjeifmenlnkkaaRows
namespace Go.Proofs.Ytfjeifmenlnkkaa
open Go VX
set_option linter.unusedVariables false
set_option linter.unusedSimpArgs false
set_option maxRecDepth 100000

theorem hG : Try.prog.globals.size ≤ 1000 := of_decide_eq_true (by kernel_rfl)
theorem hM : Try.prog.follows .mixedOrders = true := by kernel_rfl
abbrev namesV : List Value := [.string ⟨#[78, 79, 80]⟩, .string ⟨#[79, 82, 65]⟩, .string ⟨#[65, 78, 68]⟩, .string ⟨#[69, 79, 82]⟩, .string ⟨#[65, 68, 67]⟩, .string ⟨#[83, 66, 67]⟩, .string ⟨#[67, 77, 80]⟩, .string ⟨#[67, 80, 88]⟩, .string ⟨#[67, 80, 89]⟩, .string ⟨#[76, 68, 65]⟩, .string ⟨#[76, 68, 88]⟩, .string ⟨#[76, 68, 89]⟩, .string ⟨#[66, 73, 84]⟩, .string ⟨#[76, 65, 88]⟩, .string ⟨#[65, 78, 67]⟩, .string ⟨#[65, 76, 82]⟩, .string ⟨#[65, 82, 82]⟩, .string ⟨#[65, 88, 83]⟩, .string ⟨#[76, 65, 83]⟩, .string ⟨#[65, 83, 76]⟩, .string ⟨#[76, 83, 82]⟩, .string ⟨#[82, 79, 76]⟩, .string ⟨#[82, 79, 82]⟩, .string ⟨#[73, 78, 67]⟩, .string ⟨#[68, 69, 67]⟩, .string ⟨#[83, 76, 79]⟩, .string ⟨#[82, 76, 65]⟩, .string ⟨#[83, 82, 69]⟩, .string ⟨#[82, 82, 65]⟩, .string ⟨#[68, 67, 80]⟩, .string ⟨#[73, 83, 67]⟩, .string ⟨#[83, 84, 65]⟩, .string ⟨#[83, 84, 88]⟩, .string ⟨#[83, 84, 89]⟩, .string ⟨#[83, 65, 88]⟩, .string ⟨#[84, 65, 88]⟩, .string ⟨#[84, 65, 89]⟩, .string ⟨#[84, 88, 65]⟩, .string ⟨#[84, 89, 65]⟩, .string ⟨#[84, 83, 88]⟩, .string ⟨#[84, 88, 83]⟩, .string ⟨#[73, 78, 88]⟩, .string ⟨#[73, 78, 89]⟩, .string ⟨#[68, 69, 88]⟩, .string ⟨#[68, 69, 89]⟩, .string ⟨#[67, 76, 67]⟩, .string ⟨#[83, 69, 67]⟩, .string ⟨#[67, 76, 73]⟩, .string ⟨#[83, 69, 73]⟩, .string ⟨#[67, 76, 86]⟩, .string ⟨#[67, 76, 68]⟩, .string ⟨#[83, 69, 68]⟩, .string ⟨#[66, 80, 76]⟩, .string ⟨#[66, 77, 73]⟩, .string ⟨#[66, 86, 67]⟩, .string ⟨#[66, 86, 83]⟩, .string ⟨#[66, 67, 67]⟩, .string ⟨#[66, 67, 83]⟩, .string ⟨#[66, 78, 69]⟩, .string ⟨#[66, 69, 81]⟩, .string ⟨#[74, 77, 80]⟩, .string ⟨#[74, 83, 82]⟩, .string ⟨#[82, 84, 83]⟩, .string ⟨#[82, 84, 73]⟩, .string ⟨#[66, 82, 75]⟩, .string ⟨#[80, 72, 65]⟩, .string ⟨#[80, 72, 80]⟩, .string ⟨#[80, 76, 65]⟩, .string ⟨#[80, 76, 80]⟩, .string ⟨#[74, 65, 77]⟩]
theorem bt (b : Bool) : b = true ∨ b = false := by cases b <;> simp
theorem nt {b : Bool} (h : b = false) : ¬ b = true := by rw [h]; decide
theorem nf {b : Bool} (h : b = false) : (!b) = true := by rw [h]; rfl

/-- kotatsu/alu.Name -/
def aName_0  : ByteArray :=
  ⟨#[78, 79, 80]⟩
theorem aName_0_ok  : FnSpec Try.prog 22 1000 [.int .u8 0] [] (.string aName_0) [] := by
  unfold aName_0
  exact fn_of_x hG hM Try.func22 (by kernel_rfl) (by kernel_rfl) 400 [.no, .cut 0 3] (J (Eq.refl false) (J (Eq.refl (0 : Int)) (J (Eq.refl (3 : Int)) trivial))) (by kernel_rfl)

/-- kotatsu/alu.Name -/
def aName_1  : ByteArray :=
  ⟨#[79, 82, 65]⟩
theorem aName_1_ok  : FnSpec Try.prog 22 1000 [.int .u8 1] [] (.string aName_1) [] := by
  unfold aName_1
  exact fn_of_x hG hM Try.func22 (by kernel_rfl) (by kernel_rfl) 400 [.no, .cut 3 6] (J (Eq.refl false) (J (Eq.refl (3 : Int)) (J (Eq.refl (6 : Int)) trivial))) (by kernel_rfl)

/-- kotatsu/alu.Name -/
def aName_2  : ByteArray :=
  ⟨#[65, 78, 68]⟩
theorem aName_2_ok  : FnSpec Try.prog 22 1000 [.int .u8 2] [] (.string aName_2) [] := by
  unfold aName_2
  exact fn_of_x hG hM Try.func22 (by kernel_rfl) (by kernel_rfl) 400 [.no, .cut 6 9] (J (Eq.refl false) (J (Eq.refl (6 : Int)) (J (Eq.refl (9 : Int)) trivial))) (by kernel_rfl)

/-- kotatsu/alu.Name -/
def aName_3  : ByteArray :=
  ⟨#[69, 79, 82]⟩
theorem aName_3_ok  : FnSpec Try.prog 22 1000 [.int .u8 3] [] (.string aName_3) [] := by
  unfold aName_3
  exact fn_of_x hG hM Try.func22 (by kernel_rfl) (by kernel_rfl) 400 [.no, .cut 9 12] (J (Eq.refl false) (J (Eq.refl (9 : Int)) (J (Eq.refl (12 : Int)) trivial))) (by kernel_rfl)

/-- kotatsu/alu.Name -/
def aName_4  : ByteArray :=
  ⟨#[65, 68, 67]⟩
theorem aName_4_ok  : FnSpec Try.prog 22 1000 [.int .u8 4] [] (.string aName_4) [] := by
  unfold aName_4
  exact fn_of_x hG hM Try.func22 (by kernel_rfl) (by kernel_rfl) 400 [.no, .cut 12 15] (J (Eq.refl false) (J (Eq.refl (12 : Int)) (J (Eq.refl (15 : Int)) trivial))) (by kernel_rfl)

/-- kotatsu/alu.Name -/
def aName_5  : ByteArray :=
  ⟨#[83, 66, 67]⟩
theorem aName_5_ok  : FnSpec Try.prog 22 1000 [.int .u8 5] [] (.string aName_5) [] := by
  unfold aName_5
  exact fn_of_x hG hM Try.func22 (by kernel_rfl) (by kernel_rfl) 400 [.no, .cut 15 18] (J (Eq.refl false) (J (Eq.refl (15 : Int)) (J (Eq.refl (18 : Int)) trivial))) (by kernel_rfl)

/-- kotatsu/alu.Name -/
def aName_6  : ByteArray :=
  ⟨#[67, 77, 80]⟩
theorem aName_6_ok  : FnSpec Try.prog 22 1000 [.int .u8 6] [] (.string aName_6) [] := by
  unfold aName_6
  exact fn_of_x hG hM Try.func22 (by kernel_rfl) (by kernel_rfl) 400 [.no, .cut 18 21] (J (Eq.refl false) (J (Eq.refl (18 : Int)) (J (Eq.refl (21 : Int)) trivial))) (by kernel_rfl)

/-- kotatsu/alu.Name -/
def aName_7  : ByteArray :=
  ⟨#[67, 80, 88]⟩
theorem aName_7_ok  : FnSpec Try.prog 22 1000 [.int .u8 7] [] (.string aName_7) [] := by
  unfold aName_7
  exact fn_of_x hG hM Try.func22 (by kernel_rfl) (by kernel_rfl) 400 [.no, .cut 21 24] (J (Eq.refl false) (J (Eq.refl (21 : Int)) (J (Eq.refl (24 : Int)) trivial))) (by kernel_rfl)

/-- kotatsu/alu.Name -/
def aName_8  : ByteArray :=
  ⟨#[67, 80, 89]⟩
theorem aName_8_ok  : FnSpec Try.prog 22 1000 [.int .u8 8] [] (.string aName_8) [] := by
  unfold aName_8
  exact fn_of_x hG hM Try.func22 (by kernel_rfl) (by kernel_rfl) 400 [.no, .cut 24 27] (J (Eq.refl false) (J (Eq.refl (24 : Int)) (J (Eq.refl (27 : Int)) trivial))) (by kernel_rfl)

/-- kotatsu/alu.Name -/
def aName_9  : ByteArray :=
  ⟨#[76, 68, 65]⟩
theorem aName_9_ok  : FnSpec Try.prog 22 1000 [.int .u8 9] [] (.string aName_9) [] := by
  unfold aName_9
  exact fn_of_x hG hM Try.func22 (by kernel_rfl) (by kernel_rfl) 400 [.no, .cut 27 30] (J (Eq.refl false) (J (Eq.refl (27 : Int)) (J (Eq.refl (30 : Int)) trivial))) (by kernel_rfl)

/-- kotatsu/alu.Name -/
def aName_10  : ByteArray :=
  ⟨#[76, 68, 88]⟩
theorem aName_10_ok  : FnSpec Try.prog 22 1000 [.int .u8 10] [] (.string aName_10) [] := by
  unfold aName_10
  exact fn_of_x hG hM Try.func22 (by kernel_rfl) (by kernel_rfl) 400 [.no, .cut 30 33] (J (Eq.refl false) (J (Eq.refl (30 : Int)) (J (Eq.refl (33 : Int)) trivial))) (by kernel_rfl)

/-- kotatsu/alu.Name -/
def aName_11  : ByteArray :=
  ⟨#[76, 68, 89]⟩
theorem aName_11_ok  : FnSpec Try.prog 22 1000 [.int .u8 11] [] (.string aName_11) [] := by
  unfold aName_11
  exact fn_of_x hG hM Try.func22 (by kernel_rfl) (by kernel_rfl) 400 [.no, .cut 33 36] (J (Eq.refl false) (J (Eq.refl (33 : Int)) (J (Eq.refl (36 : Int)) trivial))) (by kernel_rfl)

/-- kotatsu/alu.Name -/
def aName_12  : ByteArray :=
  ⟨#[66, 73, 84]⟩
theorem aName_12_ok  : FnSpec Try.prog 22 1000 [.int .u8 12] [] (.string aName_12) [] := by
  unfold aName_12
  exact fn_of_x hG hM Try.func22 (by kernel_rfl) (by kernel_rfl) 400 [.no, .cut 36 39] (J (Eq.refl false) (J (Eq.refl (36 : Int)) (J (Eq.refl (39 : Int)) trivial))) (by kernel_rfl)

/-- kotatsu/alu.Name -/
def aName_13  : ByteArray :=
  ⟨#[76, 65, 88]⟩
theorem aName_13_ok  : FnSpec Try.prog 22 1000 [.int .u8 13] [] (.string aName_13) [] := by
  unfold aName_13
  exact fn_of_x hG hM Try.func22 (by kernel_rfl) (by kernel_rfl) 400 [.no, .cut 39 42] (J (Eq.refl false) (J (Eq.refl (39 : Int)) (J (Eq.refl (42 : Int)) trivial))) (by kernel_rfl)

/-- kotatsu/alu.Name -/
def aName_14  : ByteArray :=
  ⟨#[65, 78, 67]⟩
theorem aName_14_ok  : FnSpec Try.prog 22 1000 [.int .u8 14] [] (.string aName_14) [] := by
  unfold aName_14
  exact fn_of_x hG hM Try.func22 (by kernel_rfl) (by kernel_rfl) 400 [.no, .cut 42 45] (J (Eq.refl false) (J (Eq.refl (42 : Int)) (J (Eq.refl (45 : Int)) trivial))) (by kernel_rfl)

/-- kotatsu/alu.Name -/
def aName_15  : ByteArray :=
  ⟨#[65, 76, 82]⟩
theorem aName_15_ok  : FnSpec Try.prog 22 1000 [.int .u8 15] [] (.string aName_15) [] := by
  unfold aName_15
  exact fn_of_x hG hM Try.func22 (by kernel_rfl) (by kernel_rfl) 400 [.no, .cut 45 48] (J (Eq.refl false) (J (Eq.refl (45 : Int)) (J (Eq.refl (48 : Int)) trivial))) (by kernel_rfl)

/-- kotatsu/alu.Name -/
def aName_16  : ByteArray :=
  ⟨#[65, 82, 82]⟩
theorem aName_16_ok  : FnSpec Try.prog 22 1000 [.int .u8 16] [] (.string aName_16) [] := by
  unfold aName_16
  exact fn_of_x hG hM Try.func22 (by kernel_rfl) (by kernel_rfl) 400 [.no, .cut 48 51] (J (Eq.refl false) (J (Eq.refl (48 : Int)) (J (Eq.refl (51 : Int)) trivial))) (by kernel_rfl)

/-- kotatsu/alu.Name -/
def aName_17  : ByteArray :=
  ⟨#[65, 88, 83]⟩
theorem aName_17_ok  : FnSpec Try.prog 22 1000 [.int .u8 17] [] (.string aName_17) [] := by
  unfold aName_17
  exact fn_of_x hG hM Try.func22 (by kernel_rfl) (by kernel_rfl) 400 [.no, .cut 51 54] (J (Eq.refl false) (J (Eq.refl (51 : Int)) (J (Eq.refl (54 : Int)) trivial))) (by kernel_rfl)

/-- kotatsu/alu.Name -/
def aName_18  : ByteArray :=
  ⟨#[76, 65, 83]⟩
theorem aName_18_ok  : FnSpec Try.prog 22 1000 [.int .u8 18] [] (.string aName_18) [] := by
  unfold aName_18
  exact fn_of_x hG hM Try.func22 (by kernel_rfl) (by kernel_rfl) 400 [.no, .cut 54 57] (J (Eq.refl false) (J (Eq.refl (54 : Int)) (J (Eq.refl (57 : Int)) trivial))) (by kernel_rfl)

/-- kotatsu/alu.Name -/
def aName_19  : ByteArray :=
  ⟨#[65, 83, 76]⟩
theorem aName_19_ok  : FnSpec Try.prog 22 1000 [.int .u8 19] [] (.string aName_19) [] := by
  unfold aName_19
  exact fn_of_x hG hM Try.func22 (by kernel_rfl) (by kernel_rfl) 400 [.no, .cut 57 60] (J (Eq.refl false) (J (Eq.refl (57 : Int)) (J (Eq.refl (60 : Int)) trivial))) (by kernel_rfl)

/-- kotatsu/alu.Name -/
def aName_20  : ByteArray :=
  ⟨#[76, 83, 82]⟩
theorem aName_20_ok  : FnSpec Try.prog 22 1000 [.int .u8 20] [] (.string aName_20) [] := by
  unfold aName_20
  exact fn_of_x hG hM Try.func22 (by kernel_rfl) (by kernel_rfl) 400 [.no, .cut 60 63] (J (Eq.refl false) (J (Eq.refl (60 : Int)) (J (Eq.refl (63 : Int)) trivial))) (by kernel_rfl)

/-- kotatsu/alu.Name -/
def aName_21  : ByteArray :=
  ⟨#[82, 79, 76]⟩
theorem aName_21_ok  : FnSpec Try.prog 22 1000 [.int .u8 21] [] (.string aName_21) [] := by
  unfold aName_21
  exact fn_of_x hG hM Try.func22 (by kernel_rfl) (by kernel_rfl) 400 [.no, .cut 63 66] (J (Eq.refl false) (J (Eq.refl (63 : Int)) (J (Eq.refl (66 : Int)) trivial))) (by kernel_rfl)

/-- kotatsu/alu.Name -/
def aName_22  : ByteArray :=
  ⟨#[82, 79, 82]⟩
theorem aName_22_ok  : FnSpec Try.prog 22 1000 [.int .u8 22] [] (.string aName_22) [] := by
  unfold aName_22
  exact fn_of_x hG hM Try.func22 (by kernel_rfl) (by kernel_rfl) 400 [.no, .cut 66 69] (J (Eq.refl false) (J (Eq.refl (66 : Int)) (J (Eq.refl (69 : Int)) trivial))) (by kernel_rfl)

/-- kotatsu/alu.Name -/
def aName_23  : ByteArray :=
  ⟨#[73, 78, 67]⟩
theorem aName_23_ok  : FnSpec Try.prog 22 1000 [.int .u8 23] [] (.string aName_23) [] := by
  unfold aName_23
  exact fn_of_x hG hM Try.func22 (by kernel_rfl) (by kernel_rfl) 400 [.no, .cut 69 72] (J (Eq.refl false) (J (Eq.refl (69 : Int)) (J (Eq.refl (72 : Int)) trivial))) (by kernel_rfl)

/-- kotatsu/alu.Name -/
def aName_24  : ByteArray :=
  ⟨#[68, 69, 67]⟩
theorem aName_24_ok  : FnSpec Try.prog 22 1000 [.int .u8 24] [] (.string aName_24) [] := by
  unfold aName_24
  exact fn_of_x hG hM Try.func22 (by kernel_rfl) (by kernel_rfl) 400 [.no, .cut 72 75] (J (Eq.refl false) (J (Eq.refl (72 : Int)) (J (Eq.refl (75 : Int)) trivial))) (by kernel_rfl)

/-- kotatsu/alu.Name -/
def aName_25  : ByteArray :=
  ⟨#[83, 76, 79]⟩
theorem aName_25_ok  : FnSpec Try.prog 22 1000 [.int .u8 25] [] (.string aName_25) [] := by
  unfold aName_25
  exact fn_of_x hG hM Try.func22 (by kernel_rfl) (by kernel_rfl) 400 [.no, .cut 75 78] (J (Eq.refl false) (J (Eq.refl (75 : Int)) (J (Eq.refl (78 : Int)) trivial))) (by kernel_rfl)

/-- kotatsu/alu.Name -/
def aName_26  : ByteArray :=
  ⟨#[82, 76, 65]⟩
theorem aName_26_ok  : FnSpec Try.prog 22 1000 [.int .u8 26] [] (.string aName_26) [] := by
  unfold aName_26
  exact fn_of_x hG hM Try.func22 (by kernel_rfl) (by kernel_rfl) 400 [.no, .cut 78 81] (J (Eq.refl false) (J (Eq.refl (78 : Int)) (J (Eq.refl (81 : Int)) trivial))) (by kernel_rfl)

/-- kotatsu/alu.Name -/
def aName_27  : ByteArray :=
  ⟨#[83, 82, 69]⟩
theorem aName_27_ok  : FnSpec Try.prog 22 1000 [.int .u8 27] [] (.string aName_27) [] := by
  unfold aName_27
  exact fn_of_x hG hM Try.func22 (by kernel_rfl) (by kernel_rfl) 400 [.no, .cut 81 84] (J (Eq.refl false) (J (Eq.refl (81 : Int)) (J (Eq.refl (84 : Int)) trivial))) (by kernel_rfl)

/-- kotatsu/alu.Name -/
def aName_28  : ByteArray :=
  ⟨#[82, 82, 65]⟩
theorem aName_28_ok  : FnSpec Try.prog 22 1000 [.int .u8 28] [] (.string aName_28) [] := by
  unfold aName_28
  exact fn_of_x hG hM Try.func22 (by kernel_rfl) (by kernel_rfl) 400 [.no, .cut 84 87] (J (Eq.refl false) (J (Eq.refl (84 : Int)) (J (Eq.refl (87 : Int)) trivial))) (by kernel_rfl)

/-- kotatsu/alu.Name -/
def aName_29  : ByteArray :=
  ⟨#[68, 67, 80]⟩
theorem aName_29_ok  : FnSpec Try.prog 22 1000 [.int .u8 29] [] (.string aName_29) [] := by
  unfold aName_29
  exact fn_of_x hG hM Try.func22 (by kernel_rfl) (by kernel_rfl) 400 [.no, .cut 87 90] (J (Eq.refl false) (J (Eq.refl (87 : Int)) (J (Eq.refl (90 : Int)) trivial))) (by kernel_rfl)

/-- kotatsu/alu.Name -/
def aName_30  : ByteArray :=
  ⟨#[73, 83, 67]⟩
theorem aName_30_ok  : FnSpec Try.prog 22 1000 [.int .u8 30] [] (.string aName_30) [] := by
  unfold aName_30
  exact fn_of_x hG hM Try.func22 (by kernel_rfl) (by kernel_rfl) 400 [.no, .cut 90 93] (J (Eq.refl false) (J (Eq.refl (90 : Int)) (J (Eq.refl (93 : Int)) trivial))) (by kernel_rfl)

/-- kotatsu/alu.Name -/
def aName_31  : ByteArray :=
  ⟨#[83, 84, 65]⟩
theorem aName_31_ok  : FnSpec Try.prog 22 1000 [.int .u8 31] [] (.string aName_31) [] := by
  unfold aName_31
  exact fn_of_x hG hM Try.func22 (by kernel_rfl) (by kernel_rfl) 400 [.no, .cut 93 96] (J (Eq.refl false) (J (Eq.refl (93 : Int)) (J (Eq.refl (96 : Int)) trivial))) (by kernel_rfl)

/-- kotatsu/alu.Name -/
def aName_32  : ByteArray :=
  ⟨#[83, 84, 88]⟩
theorem aName_32_ok  : FnSpec Try.prog 22 1000 [.int .u8 32] [] (.string aName_32) [] := by
  unfold aName_32
  exact fn_of_x hG hM Try.func22 (by kernel_rfl) (by kernel_rfl) 400 [.no, .cut 96 99] (J (Eq.refl false) (J (Eq.refl (96 : Int)) (J (Eq.refl (99 : Int)) trivial))) (by kernel_rfl)

/-- kotatsu/alu.Name -/
def aName_33  : ByteArray :=
  ⟨#[83, 84, 89]⟩
theorem aName_33_ok  : FnSpec Try.prog 22 1000 [.int .u8 33] [] (.string aName_33) [] := by
  unfold aName_33
  exact fn_of_x hG hM Try.func22 (by kernel_rfl) (by kernel_rfl) 400 [.no, .cut 99 102] (J (Eq.refl false) (J (Eq.refl (99 : Int)) (J (Eq.refl (102 : Int)) trivial))) (by kernel_rfl)

/-- kotatsu/alu.Name -/
def aName_34  : ByteArray :=
  ⟨#[83, 65, 88]⟩
theorem aName_34_ok  : FnSpec Try.prog 22 1000 [.int .u8 34] [] (.string aName_34) [] := by
  unfold aName_34
  exact fn_of_x hG hM Try.func22 (by kernel_rfl) (by kernel_rfl) 400 [.no, .cut 102 105] (J (Eq.refl false) (J (Eq.refl (102 : Int)) (J (Eq.refl (105 : Int)) trivial))) (by kernel_rfl)

/-- kotatsu/alu.Name -/
def aName_35  : ByteArray :=
  ⟨#[84, 65, 88]⟩
theorem aName_35_ok  : FnSpec Try.prog 22 1000 [.int .u8 35] [] (.string aName_35) [] := by
  unfold aName_35
  exact fn_of_x hG hM Try.func22 (by kernel_rfl) (by kernel_rfl) 400 [.no, .cut 105 108] (J (Eq.refl false) (J (Eq.refl (105 : Int)) (J (Eq.refl (108 : Int)) trivial))) (by kernel_rfl)

/-- kotatsu/alu.Name -/
def aName_36  : ByteArray :=
  ⟨#[84, 65, 89]⟩
theorem aName_36_ok  : FnSpec Try.prog 22 1000 [.int .u8 36] [] (.string aName_36) [] := by
  unfold aName_36
  exact fn_of_x hG hM Try.func22 (by kernel_rfl) (by kernel_rfl) 400 [.no, .cut 108 111] (J (Eq.refl false) (J (Eq.refl (108 : Int)) (J (Eq.refl (111 : Int)) trivial))) (by kernel_rfl)

/-- kotatsu/alu.Name -/
def aName_37  : ByteArray :=
  ⟨#[84, 88, 65]⟩
theorem aName_37_ok  : FnSpec Try.prog 22 1000 [.int .u8 37] [] (.string aName_37) [] := by
  unfold aName_37
  exact fn_of_x hG hM Try.func22 (by kernel_rfl) (by kernel_rfl) 400 [.no, .cut 111 114] (J (Eq.refl false) (J (Eq.refl (111 : Int)) (J (Eq.refl (114 : Int)) trivial))) (by kernel_rfl)

/-- kotatsu/alu.Name -/
def aName_38  : ByteArray :=
  ⟨#[84, 89, 65]⟩
theorem aName_38_ok  : FnSpec Try.prog 22 1000 [.int .u8 38] [] (.string aName_38) [] := by
  unfold aName_38
  exact fn_of_x hG hM Try.func22 (by kernel_rfl) (by kernel_rfl) 400 [.no, .cut 114 117] (J (Eq.refl false) (J (Eq.refl (114 : Int)) (J (Eq.refl (117 : Int)) trivial))) (by kernel_rfl)

/-- kotatsu/alu.Name -/
def aName_39  : ByteArray :=
  ⟨#[84, 83, 88]⟩
theorem aName_39_ok  : FnSpec Try.prog 22 1000 [.int .u8 39] [] (.string aName_39) [] := by
  unfold aName_39
  exact fn_of_x hG hM Try.func22 (by kernel_rfl) (by kernel_rfl) 400 [.no, .cut 117 120] (J (Eq.refl false) (J (Eq.refl (117 : Int)) (J (Eq.refl (120 : Int)) trivial))) (by kernel_rfl)

/-- kotatsu/alu.Name -/
def aName_40  : ByteArray :=
  ⟨#[84, 88, 83]⟩
theorem aName_40_ok  : FnSpec Try.prog 22 1000 [.int .u8 40] [] (.string aName_40) [] := by
  unfold aName_40
  exact fn_of_x hG hM Try.func22 (by kernel_rfl) (by kernel_rfl) 400 [.no, .cut 120 123] (J (Eq.refl false) (J (Eq.refl (120 : Int)) (J (Eq.refl (123 : Int)) trivial))) (by kernel_rfl)

/-- kotatsu/alu.Name -/
def aName_41  : ByteArray :=
  ⟨#[73, 78, 88]⟩
theorem aName_41_ok  : FnSpec Try.prog 22 1000 [.int .u8 41] [] (.string aName_41) [] := by
  unfold aName_41
  exact fn_of_x hG hM Try.func22 (by kernel_rfl) (by kernel_rfl) 400 [.no, .cut 123 126] (J (Eq.refl false) (J (Eq.refl (123 : Int)) (J (Eq.refl (126 : Int)) trivial))) (by kernel_rfl)

/-- kotatsu/alu.Name -/
def aName_42  : ByteArray :=
  ⟨#[73, 78, 89]⟩
theorem aName_42_ok  : FnSpec Try.prog 22 1000 [.int .u8 42] [] (.string aName_42) [] := by
  unfold aName_42
  exact fn_of_x hG hM Try.func22 (by kernel_rfl) (by kernel_rfl) 400 [.no, .cut 126 129] (J (Eq.refl false) (J (Eq.refl (126 : Int)) (J (Eq.refl (129 : Int)) trivial))) (by kernel_rfl)

/-- kotatsu/alu.Name -/
def aName_43  : ByteArray :=
  ⟨#[68, 69, 88]⟩
theorem aName_43_ok  : FnSpec Try.prog 22 1000 [.int .u8 43] [] (.string aName_43) [] := by
  unfold aName_43
  exact fn_of_x hG hM Try.func22 (by kernel_rfl) (by kernel_rfl) 400 [.no, .cut 129 132] (J (Eq.refl false) (J (Eq.refl (129 : Int)) (J (Eq.refl (132 : Int)) trivial))) (by kernel_rfl)

/-- kotatsu/alu.Name -/
def aName_44  : ByteArray :=
  ⟨#[68, 69, 89]⟩
theorem aName_44_ok  : FnSpec Try.prog 22 1000 [.int .u8 44] [] (.string aName_44) [] := by
  unfold aName_44
  exact fn_of_x hG hM Try.func22 (by kernel_rfl) (by kernel_rfl) 400 [.no, .cut 132 135] (J (Eq.refl false) (J (Eq.refl (132 : Int)) (J (Eq.refl (135 : Int)) trivial))) (by kernel_rfl)

/-- kotatsu/alu.Name -/
def aName_45  : ByteArray :=
  ⟨#[67, 76, 67]⟩
theorem aName_45_ok  : FnSpec Try.prog 22 1000 [.int .u8 45] [] (.string aName_45) [] := by
  unfold aName_45
  exact fn_of_x hG hM Try.func22 (by kernel_rfl) (by kernel_rfl) 400 [.no, .cut 135 138] (J (Eq.refl false) (J (Eq.refl (135 : Int)) (J (Eq.refl (138 : Int)) trivial))) (by kernel_rfl)

/-- kotatsu/alu.Name -/
def aName_46  : ByteArray :=
  ⟨#[83, 69, 67]⟩
theorem aName_46_ok  : FnSpec Try.prog 22 1000 [.int .u8 46] [] (.string aName_46) [] := by
  unfold aName_46
  exact fn_of_x hG hM Try.func22 (by kernel_rfl) (by kernel_rfl) 400 [.no, .cut 138 141] (J (Eq.refl false) (J (Eq.refl (138 : Int)) (J (Eq.refl (141 : Int)) trivial))) (by kernel_rfl)

/-- kotatsu/alu.Name -/
def aName_47  : ByteArray :=
  ⟨#[67, 76, 73]⟩
theorem aName_47_ok  : FnSpec Try.prog 22 1000 [.int .u8 47] [] (.string aName_47) [] := by
  unfold aName_47
  exact fn_of_x hG hM Try.func22 (by kernel_rfl) (by kernel_rfl) 400 [.no, .cut 141 144] (J (Eq.refl false) (J (Eq.refl (141 : Int)) (J (Eq.refl (144 : Int)) trivial))) (by kernel_rfl)

/-- kotatsu/alu.Name -/
def aName_48  : ByteArray :=
  ⟨#[83, 69, 73]⟩
theorem aName_48_ok  : FnSpec Try.prog 22 1000 [.int .u8 48] [] (.string aName_48) [] := by
  unfold aName_48
  exact fn_of_x hG hM Try.func22 (by kernel_rfl) (by kernel_rfl) 400 [.no, .cut 144 147] (J (Eq.refl false) (J (Eq.refl (144 : Int)) (J (Eq.refl (147 : Int)) trivial))) (by kernel_rfl)

/-- kotatsu/alu.Name -/
def aName_49  : ByteArray :=
  ⟨#[67, 76, 86]⟩
theorem aName_49_ok  : FnSpec Try.prog 22 1000 [.int .u8 49] [] (.string aName_49) [] := by
  unfold aName_49
  exact fn_of_x hG hM Try.func22 (by kernel_rfl) (by kernel_rfl) 400 [.no, .cut 147 150] (J (Eq.refl false) (J (Eq.refl (147 : Int)) (J (Eq.refl (150 : Int)) trivial))) (by kernel_rfl)

/-- kotatsu/alu.Name -/
def aName_50  : ByteArray :=
  ⟨#[67, 76, 68]⟩
theorem aName_50_ok  : FnSpec Try.prog 22 1000 [.int .u8 50] [] (.string aName_50) [] := by
  unfold aName_50
  exact fn_of_x hG hM Try.func22 (by kernel_rfl) (by kernel_rfl) 400 [.no, .cut 150 153] (J (Eq.refl false) (J (Eq.refl (150 : Int)) (J (Eq.refl (153 : Int)) trivial))) (by kernel_rfl)

/-- kotatsu/alu.Name -/
def aName_51  : ByteArray :=
  ⟨#[83, 69, 68]⟩
theorem aName_51_ok  : FnSpec Try.prog 22 1000 [.int .u8 51] [] (.string aName_51) [] := by
  unfold aName_51
  exact fn_of_x hG hM Try.func22 (by kernel_rfl) (by kernel_rfl) 400 [.no, .cut 153 156] (J (Eq.refl false) (J (Eq.refl (153 : Int)) (J (Eq.refl (156 : Int)) trivial))) (by kernel_rfl)

/-- kotatsu/alu.Name -/
def aName_52  : ByteArray :=
  ⟨#[66, 80, 76]⟩
theorem aName_52_ok  : FnSpec Try.prog 22 1000 [.int .u8 52] [] (.string aName_52) [] := by
  unfold aName_52
  exact fn_of_x hG hM Try.func22 (by kernel_rfl) (by kernel_rfl) 400 [.no, .cut 156 159] (J (Eq.refl false) (J (Eq.refl (156 : Int)) (J (Eq.refl (159 : Int)) trivial))) (by kernel_rfl)

/-- kotatsu/alu.Name -/
def aName_53  : ByteArray :=
  ⟨#[66, 77, 73]⟩
theorem aName_53_ok  : FnSpec Try.prog 22 1000 [.int .u8 53] [] (.string aName_53) [] := by
  unfold aName_53
  exact fn_of_x hG hM Try.func22 (by kernel_rfl) (by kernel_rfl) 400 [.no, .cut 159 162] (J (Eq.refl false) (J (Eq.refl (159 : Int)) (J (Eq.refl (162 : Int)) trivial))) (by kernel_rfl)

/-- kotatsu/alu.Name -/
def aName_54  : ByteArray :=
  ⟨#[66, 86, 67]⟩
theorem aName_54_ok  : FnSpec Try.prog 22 1000 [.int .u8 54] [] (.string aName_54) [] := by
  unfold aName_54
  exact fn_of_x hG hM Try.func22 (by kernel_rfl) (by kernel_rfl) 400 [.no, .cut 162 165] (J (Eq.refl false) (J (Eq.refl (162 : Int)) (J (Eq.refl (165 : Int)) trivial))) (by kernel_rfl)

/-- kotatsu/alu.Name -/
def aName_55  : ByteArray :=
  ⟨#[66, 86, 83]⟩
theorem aName_55_ok  : FnSpec Try.prog 22 1000 [.int .u8 55] [] (.string aName_55) [] := by
  unfold aName_55
  exact fn_of_x hG hM Try.func22 (by kernel_rfl) (by kernel_rfl) 400 [.no, .cut 165 168] (J (Eq.refl false) (J (Eq.refl (165 : Int)) (J (Eq.refl (168 : Int)) trivial))) (by kernel_rfl)

/-- kotatsu/alu.Name -/
def aName_56  : ByteArray :=
  ⟨#[66, 67, 67]⟩
theorem aName_56_ok  : FnSpec Try.prog 22 1000 [.int .u8 56] [] (.string aName_56) [] := by
  unfold aName_56
  exact fn_of_x hG hM Try.func22 (by kernel_rfl) (by kernel_rfl) 400 [.no, .cut 168 171] (J (Eq.refl false) (J (Eq.refl (168 : Int)) (J (Eq.refl (171 : Int)) trivial))) (by kernel_rfl)

/-- kotatsu/alu.Name -/
def aName_57  : ByteArray :=
  ⟨#[66, 67, 83]⟩
theorem aName_57_ok  : FnSpec Try.prog 22 1000 [.int .u8 57] [] (.string aName_57) [] := by
  unfold aName_57
  exact fn_of_x hG hM Try.func22 (by kernel_rfl) (by kernel_rfl) 400 [.no, .cut 171 174] (J (Eq.refl false) (J (Eq.refl (171 : Int)) (J (Eq.refl (174 : Int)) trivial))) (by kernel_rfl)

/-- kotatsu/alu.Name -/
def aName_58  : ByteArray :=
  ⟨#[66, 78, 69]⟩
theorem aName_58_ok  : FnSpec Try.prog 22 1000 [.int .u8 58] [] (.string aName_58) [] := by
  unfold aName_58
  exact fn_of_x hG hM Try.func22 (by kernel_rfl) (by kernel_rfl) 400 [.no, .cut 174 177] (J (Eq.refl false) (J (Eq.refl (174 : Int)) (J (Eq.refl (177 : Int)) trivial))) (by kernel_rfl)

/-- kotatsu/alu.Name -/
def aName_59  : ByteArray :=
  ⟨#[66, 69, 81]⟩
theorem aName_59_ok  : FnSpec Try.prog 22 1000 [.int .u8 59] [] (.string aName_59) [] := by
  unfold aName_59
  exact fn_of_x hG hM Try.func22 (by kernel_rfl) (by kernel_rfl) 400 [.no, .cut 177 180] (J (Eq.refl false) (J (Eq.refl (177 : Int)) (J (Eq.refl (180 : Int)) trivial))) (by kernel_rfl)

/-- kotatsu/alu.Name -/
def aName_60  : ByteArray :=
  ⟨#[74, 77, 80]⟩
theorem aName_60_ok  : FnSpec Try.prog 22 1000 [.int .u8 60] [] (.string aName_60) [] := by
  unfold aName_60
  exact fn_of_x hG hM Try.func22 (by kernel_rfl) (by kernel_rfl) 400 [.no, .cut 180 183] (J (Eq.refl false) (J (Eq.refl (180 : Int)) (J (Eq.refl (183 : Int)) trivial))) (by kernel_rfl)

/-- kotatsu/alu.Name -/
def aName_61  : ByteArray :=
  ⟨#[74, 83, 82]⟩
theorem aName_61_ok  : FnSpec Try.prog 22 1000 [.int .u8 61] [] (.string aName_61) [] := by
  unfold aName_61
  exact fn_of_x hG hM Try.func22 (by kernel_rfl) (by kernel_rfl) 400 [.no, .cut 183 186] (J (Eq.refl false) (J (Eq.refl (183 : Int)) (J (Eq.refl (186 : Int)) trivial))) (by kernel_rfl)

/-- kotatsu/alu.Name -/
def aName_62  : ByteArray :=
  ⟨#[82, 84, 83]⟩
theorem aName_62_ok  : FnSpec Try.prog 22 1000 [.int .u8 62] [] (.string aName_62) [] := by
  unfold aName_62
  exact fn_of_x hG hM Try.func22 (by kernel_rfl) (by kernel_rfl) 400 [.no, .cut 186 189] (J (Eq.refl false) (J (Eq.refl (186 : Int)) (J (Eq.refl (189 : Int)) trivial))) (by kernel_rfl)

/-- kotatsu/alu.Name -/
def aName_63  : ByteArray :=
  ⟨#[82, 84, 73]⟩
theorem aName_63_ok  : FnSpec Try.prog 22 1000 [.int .u8 63] [] (.string aName_63) [] := by
  unfold aName_63
  exact fn_of_x hG hM Try.func22 (by kernel_rfl) (by kernel_rfl) 400 [.no, .cut 189 192] (J (Eq.refl false) (J (Eq.refl (189 : Int)) (J (Eq.refl (192 : Int)) trivial))) (by kernel_rfl)

/-- kotatsu/alu.Name -/
def aName_64  : ByteArray :=
  ⟨#[66, 82, 75]⟩
theorem aName_64_ok  : FnSpec Try.prog 22 1000 [.int .u8 64] [] (.string aName_64) [] := by
  unfold aName_64
  exact fn_of_x hG hM Try.func22 (by kernel_rfl) (by kernel_rfl) 400 [.no, .cut 192 195] (J (Eq.refl false) (J (Eq.refl (192 : Int)) (J (Eq.refl (195 : Int)) trivial))) (by kernel_rfl)

/-- kotatsu/alu.Name -/
def aName_65  : ByteArray :=
  ⟨#[80, 72, 65]⟩
theorem aName_65_ok  : FnSpec Try.prog 22 1000 [.int .u8 65] [] (.string aName_65) [] := by
  unfold aName_65
  exact fn_of_x hG hM Try.func22 (by kernel_rfl) (by kernel_rfl) 400 [.no, .cut 195 198] (J (Eq.refl false) (J (Eq.refl (195 : Int)) (J (Eq.refl (198 : Int)) trivial))) (by kernel_rfl)

/-- kotatsu/alu.Name -/
def aName_66  : ByteArray :=
  ⟨#[80, 72, 80]⟩
theorem aName_66_ok  : FnSpec Try.prog 22 1000 [.int .u8 66] [] (.string aName_66) [] := by
  unfold aName_66
  exact fn_of_x hG hM Try.func22 (by kernel_rfl) (by kernel_rfl) 400 [.no, .cut 198 201] (J (Eq.refl false) (J (Eq.refl (198 : Int)) (J (Eq.refl (201 : Int)) trivial))) (by kernel_rfl)

/-- kotatsu/alu.Name -/
def aName_67  : ByteArray :=
  ⟨#[80, 76, 65]⟩
theorem aName_67_ok  : FnSpec Try.prog 22 1000 [.int .u8 67] [] (.string aName_67) [] := by
  unfold aName_67
  exact fn_of_x hG hM Try.func22 (by kernel_rfl) (by kernel_rfl) 400 [.no, .cut 201 204] (J (Eq.refl false) (J (Eq.refl (201 : Int)) (J (Eq.refl (204 : Int)) trivial))) (by kernel_rfl)

/-- kotatsu/alu.Name -/
def aName_68  : ByteArray :=
  ⟨#[80, 76, 80]⟩
theorem aName_68_ok  : FnSpec Try.prog 22 1000 [.int .u8 68] [] (.string aName_68) [] := by
  unfold aName_68
  exact fn_of_x hG hM Try.func22 (by kernel_rfl) (by kernel_rfl) 400 [.no, .cut 204 207] (J (Eq.refl false) (J (Eq.refl (204 : Int)) (J (Eq.refl (207 : Int)) trivial))) (by kernel_rfl)

/-- kotatsu/alu.Name -/
def aName_69  : ByteArray :=
  ⟨#[74, 65, 77]⟩
theorem aName_69_ok  : FnSpec Try.prog 22 1000 [.int .u8 69] [] (.string aName_69) [] := by
  unfold aName_69
  exact fn_of_x hG hM Try.func22 (by kernel_rfl) (by kernel_rfl) 400 [.no, .cut 207 210] (J (Eq.refl false) (J (Eq.refl (207 : Int)) (J (Eq.refl (210 : Int)) trivial))) (by kernel_rfl)

/-- kotatsu/alu.Name -/
def aName_no (op : Int) : ByteArray :=
  ⟨#[]⟩
theorem aName_no_ok (op : Int) (ho : (decide ((op : Int) > 69)) = true) : FnSpec Try.prog 22 1000 [.int .u8 op] [] (.string (aName_no op)) [] := by
  unfold aName_no
  exact fn_of_x hG hM Try.func22 (by kernel_rfl) (by kernel_rfl) 400 [.yes] (J ho trivial) (by kernel_rfl)

theorem rNames_p1  : FnSpec Try.prog 24 1000 [] [] (.func (.yield 1) ⟨namesV⟩ ⟨[.bool true]⟩) [] := by
  exact fn_of_f hG hM Try.func24 (by kernel_rfl) (by kernel_rfl) 400 [] [1000] trivial (by kernel_rfl)

/-- kotatsu/kotatsuref08.Name -/
def rName_0  : ByteArray :=
  ⟨#[78, 79, 80]⟩
theorem rName_0_ok  : FnSpec Try.prog 18 1000 [.int .i64 0] [] (.string rName_0) [] := by
  unfold rName_0
  exact fn_of_x hG hM Try.func18 (by kernel_rfl) (by kernel_rfl) 400 [.call [] [] 1000 (.func (.yield 1) ⟨namesV⟩ ⟨[.bool true]⟩) [], .no, .no, .no, .no, .no, .no, .lit 0] (J (rNames_p1) (J (Eq.refl false) (J (Eq.refl false) (J (Eq.refl false) (J (Eq.refl true) (J (Eq.refl false) (J (Eq.refl false) (J (Eq.refl false) (J (Eq.refl true) (J (Eq.refl (0 : Int)) trivial)))))))))) (by kernel_rfl)

/-- kotatsu/kotatsuref08.Name -/
def rName_1  : ByteArray :=
  ⟨#[79, 82, 65]⟩
theorem rName_1_ok  : FnSpec Try.prog 18 1000 [.int .i64 1] [] (.string rName_1) [] := by
  unfold rName_1
  exact fn_of_x hG hM Try.func18 (by kernel_rfl) (by kernel_rfl) 400 [.call [] [] 1000 (.func (.yield 1) ⟨namesV⟩ ⟨[.bool true]⟩) [], .no, .no, .no, .no, .no, .no, .lit 1] (J (rNames_p1) (J (Eq.refl false) (J (Eq.refl false) (J (Eq.refl false) (J (Eq.refl true) (J (Eq.refl false) (J (Eq.refl false) (J (Eq.refl false) (J (Eq.refl true) (J (Eq.refl (1 : Int)) trivial)))))))))) (by kernel_rfl)

/-- kotatsu/kotatsuref08.Name -/
def rName_2  : ByteArray :=
  ⟨#[65, 78, 68]⟩
theorem rName_2_ok  : FnSpec Try.prog 18 1000 [.int .i64 2] [] (.string rName_2) [] := by
  unfold rName_2
  exact fn_of_x hG hM Try.func18 (by kernel_rfl) (by kernel_rfl) 400 [.call [] [] 1000 (.func (.yield 1) ⟨namesV⟩ ⟨[.bool true]⟩) [], .no, .no, .no, .no, .no, .no, .lit 2] (J (rNames_p1) (J (Eq.refl false) (J (Eq.refl false) (J (Eq.refl false) (J (Eq.refl true) (J (Eq.refl false) (J (Eq.refl false) (J (Eq.refl false) (J (Eq.refl true) (J (Eq.refl (2 : Int)) trivial)))))))))) (by kernel_rfl)

/-- kotatsu/kotatsuref08.Name -/
def rName_3  : ByteArray :=
  ⟨#[69, 79, 82]⟩
theorem rName_3_ok  : FnSpec Try.prog 18 1000 [.int .i64 3] [] (.string rName_3) [] := by
  unfold rName_3
  exact fn_of_x hG hM Try.func18 (by kernel_rfl) (by kernel_rfl) 400 [.call [] [] 1000 (.func (.yield 1) ⟨namesV⟩ ⟨[.bool true]⟩) [], .no, .no, .no, .no, .no, .no, .lit 3] (J (rNames_p1) (J (Eq.refl false) (J (Eq.refl false) (J (Eq.refl false) (J (Eq.refl true) (J (Eq.refl false) (J (Eq.refl false) (J (Eq.refl false) (J (Eq.refl true) (J (Eq.refl (3 : Int)) trivial)))))))))) (by kernel_rfl)

/-- kotatsu/kotatsuref08.Name -/
def rName_4  : ByteArray :=
  ⟨#[65, 68, 67]⟩
theorem rName_4_ok  : FnSpec Try.prog 18 1000 [.int .i64 4] [] (.string rName_4) [] := by
  unfold rName_4
  exact fn_of_x hG hM Try.func18 (by kernel_rfl) (by kernel_rfl) 400 [.call [] [] 1000 (.func (.yield 1) ⟨namesV⟩ ⟨[.bool true]⟩) [], .no, .no, .no, .no, .no, .no, .lit 4] (J (rNames_p1) (J (Eq.refl false) (J (Eq.refl false) (J (Eq.refl false) (J (Eq.refl true) (J (Eq.refl false) (J (Eq.refl false) (J (Eq.refl false) (J (Eq.refl true) (J (Eq.refl (4 : Int)) trivial)))))))))) (by kernel_rfl)

/-- kotatsu/kotatsuref08.Name -/
def rName_5  : ByteArray :=
  ⟨#[83, 66, 67]⟩
theorem rName_5_ok  : FnSpec Try.prog 18 1000 [.int .i64 5] [] (.string rName_5) [] := by
  unfold rName_5
  exact fn_of_x hG hM Try.func18 (by kernel_rfl) (by kernel_rfl) 400 [.call [] [] 1000 (.func (.yield 1) ⟨namesV⟩ ⟨[.bool true]⟩) [], .no, .no, .no, .no, .no, .no, .lit 5] (J (rNames_p1) (J (Eq.refl false) (J (Eq.refl false) (J (Eq.refl false) (J (Eq.refl true) (J (Eq.refl false) (J (Eq.refl false) (J (Eq.refl false) (J (Eq.refl true) (J (Eq.refl (5 : Int)) trivial)))))))))) (by kernel_rfl)

/-- kotatsu/kotatsuref08.Name -/
def rName_6  : ByteArray :=
  ⟨#[67, 77, 80]⟩
theorem rName_6_ok  : FnSpec Try.prog 18 1000 [.int .i64 6] [] (.string rName_6) [] := by
  unfold rName_6
  exact fn_of_x hG hM Try.func18 (by kernel_rfl) (by kernel_rfl) 400 [.call [] [] 1000 (.func (.yield 1) ⟨namesV⟩ ⟨[.bool true]⟩) [], .no, .no, .no, .no, .no, .no, .lit 6] (J (rNames_p1) (J (Eq.refl false) (J (Eq.refl false) (J (Eq.refl false) (J (Eq.refl true) (J (Eq.refl false) (J (Eq.refl false) (J (Eq.refl false) (J (Eq.refl true) (J (Eq.refl (6 : Int)) trivial)))))))))) (by kernel_rfl)

/-- kotatsu/kotatsuref08.Name -/
def rName_7  : ByteArray :=
  ⟨#[67, 80, 88]⟩
theorem rName_7_ok  : FnSpec Try.prog 18 1000 [.int .i64 7] [] (.string rName_7) [] := by
  unfold rName_7
  exact fn_of_x hG hM Try.func18 (by kernel_rfl) (by kernel_rfl) 400 [.call [] [] 1000 (.func (.yield 1) ⟨namesV⟩ ⟨[.bool true]⟩) [], .no, .no, .no, .no, .no, .no, .lit 7] (J (rNames_p1) (J (Eq.refl false) (J (Eq.refl false) (J (Eq.refl false) (J (Eq.refl true) (J (Eq.refl false) (J (Eq.refl false) (J (Eq.refl false) (J (Eq.refl true) (J (Eq.refl (7 : Int)) trivial)))))))))) (by kernel_rfl)

/-- kotatsu/kotatsuref08.Name -/
def rName_8  : ByteArray :=
  ⟨#[67, 80, 89]⟩
theorem rName_8_ok  : FnSpec Try.prog 18 1000 [.int .i64 8] [] (.string rName_8) [] := by
  unfold rName_8
  exact fn_of_x hG hM Try.func18 (by kernel_rfl) (by kernel_rfl) 400 [.call [] [] 1000 (.func (.yield 1) ⟨namesV⟩ ⟨[.bool true]⟩) [], .no, .no, .no, .no, .no, .no, .lit 8] (J (rNames_p1) (J (Eq.refl false) (J (Eq.refl false) (J (Eq.refl false) (J (Eq.refl true) (J (Eq.refl false) (J (Eq.refl false) (J (Eq.refl false) (J (Eq.refl true) (J (Eq.refl (8 : Int)) trivial)))))))))) (by kernel_rfl)

/-- kotatsu/kotatsuref08.Name -/
def rName_9  : ByteArray :=
  ⟨#[76, 68, 65]⟩
theorem rName_9_ok  : FnSpec Try.prog 18 1000 [.int .i64 9] [] (.string rName_9) [] := by
  unfold rName_9
  exact fn_of_x hG hM Try.func18 (by kernel_rfl) (by kernel_rfl) 400 [.call [] [] 1000 (.func (.yield 1) ⟨namesV⟩ ⟨[.bool true]⟩) [], .no, .no, .no, .no, .no, .no, .lit 9] (J (rNames_p1) (J (Eq.refl false) (J (Eq.refl false) (J (Eq.refl false) (J (Eq.refl true) (J (Eq.refl false) (J (Eq.refl false) (J (Eq.refl false) (J (Eq.refl true) (J (Eq.refl (9 : Int)) trivial)))))))))) (by kernel_rfl)

/-- kotatsu/kotatsuref08.Name -/
def rName_10  : ByteArray :=
  ⟨#[76, 68, 88]⟩
theorem rName_10_ok  : FnSpec Try.prog 18 1000 [.int .i64 10] [] (.string rName_10) [] := by
  unfold rName_10
  exact fn_of_x hG hM Try.func18 (by kernel_rfl) (by kernel_rfl) 400 [.call [] [] 1000 (.func (.yield 1) ⟨namesV⟩ ⟨[.bool true]⟩) [], .no, .no, .no, .no, .no, .no, .lit 10] (J (rNames_p1) (J (Eq.refl false) (J (Eq.refl false) (J (Eq.refl false) (J (Eq.refl true) (J (Eq.refl false) (J (Eq.refl false) (J (Eq.refl false) (J (Eq.refl true) (J (Eq.refl (10 : Int)) trivial)))))))))) (by kernel_rfl)

/-- kotatsu/kotatsuref08.Name -/
def rName_11  : ByteArray :=
  ⟨#[76, 68, 89]⟩
theorem rName_11_ok  : FnSpec Try.prog 18 1000 [.int .i64 11] [] (.string rName_11) [] := by
  unfold rName_11
  exact fn_of_x hG hM Try.func18 (by kernel_rfl) (by kernel_rfl) 400 [.call [] [] 1000 (.func (.yield 1) ⟨namesV⟩ ⟨[.bool true]⟩) [], .no, .no, .no, .no, .no, .no, .lit 11] (J (rNames_p1) (J (Eq.refl false) (J (Eq.refl false) (J (Eq.refl false) (J (Eq.refl true) (J (Eq.refl false) (J (Eq.refl false) (J (Eq.refl false) (J (Eq.refl true) (J (Eq.refl (11 : Int)) trivial)))))))))) (by kernel_rfl)

/-- kotatsu/kotatsuref08.Name -/
def rName_12  : ByteArray :=
  ⟨#[66, 73, 84]⟩
theorem rName_12_ok  : FnSpec Try.prog 18 1000 [.int .i64 12] [] (.string rName_12) [] := by
  unfold rName_12
  exact fn_of_x hG hM Try.func18 (by kernel_rfl) (by kernel_rfl) 400 [.call [] [] 1000 (.func (.yield 1) ⟨namesV⟩ ⟨[.bool true]⟩) [], .no, .no, .no, .no, .no, .no, .lit 12] (J (rNames_p1) (J (Eq.refl false) (J (Eq.refl false) (J (Eq.refl false) (J (Eq.refl true) (J (Eq.refl false) (J (Eq.refl false) (J (Eq.refl false) (J (Eq.refl true) (J (Eq.refl (12 : Int)) trivial)))))))))) (by kernel_rfl)

/-- kotatsu/kotatsuref08.Name -/
def rName_13  : ByteArray :=
  ⟨#[76, 65, 88]⟩
theorem rName_13_ok  : FnSpec Try.prog 18 1000 [.int .i64 13] [] (.string rName_13) [] := by
  unfold rName_13
  exact fn_of_x hG hM Try.func18 (by kernel_rfl) (by kernel_rfl) 400 [.call [] [] 1000 (.func (.yield 1) ⟨namesV⟩ ⟨[.bool true]⟩) [], .no, .no, .no, .no, .no, .no, .lit 13] (J (rNames_p1) (J (Eq.refl false) (J (Eq.refl false) (J (Eq.refl false) (J (Eq.refl true) (J (Eq.refl false) (J (Eq.refl false) (J (Eq.refl false) (J (Eq.refl true) (J (Eq.refl (13 : Int)) trivial)))))))))) (by kernel_rfl)

/-- kotatsu/kotatsuref08.Name -/
def rName_14  : ByteArray :=
  ⟨#[65, 78, 67]⟩
theorem rName_14_ok  : FnSpec Try.prog 18 1000 [.int .i64 14] [] (.string rName_14) [] := by
  unfold rName_14
  exact fn_of_x hG hM Try.func18 (by kernel_rfl) (by kernel_rfl) 400 [.call [] [] 1000 (.func (.yield 1) ⟨namesV⟩ ⟨[.bool true]⟩) [], .no, .no, .no, .no, .no, .no, .lit 14] (J (rNames_p1) (J (Eq.refl false) (J (Eq.refl false) (J (Eq.refl false) (J (Eq.refl true) (J (Eq.refl false) (J (Eq.refl false) (J (Eq.refl false) (J (Eq.refl true) (J (Eq.refl (14 : Int)) trivial)))))))))) (by kernel_rfl)

/-- kotatsu/kotatsuref08.Name -/
def rName_15  : ByteArray :=
  ⟨#[65, 76, 82]⟩
theorem rName_15_ok  : FnSpec Try.prog 18 1000 [.int .i64 15] [] (.string rName_15) [] := by
  unfold rName_15
  exact fn_of_x hG hM Try.func18 (by kernel_rfl) (by kernel_rfl) 400 [.call [] [] 1000 (.func (.yield 1) ⟨namesV⟩ ⟨[.bool true]⟩) [], .no, .no, .no, .no, .no, .no, .lit 15] (J (rNames_p1) (J (Eq.refl false) (J (Eq.refl false) (J (Eq.refl false) (J (Eq.refl true) (J (Eq.refl false) (J (Eq.refl false) (J (Eq.refl false) (J (Eq.refl true) (J (Eq.refl (15 : Int)) trivial)))))))))) (by kernel_rfl)

/-- kotatsu/kotatsuref08.Name -/
def rName_16  : ByteArray :=
  ⟨#[65, 82, 82]⟩
theorem rName_16_ok  : FnSpec Try.prog 18 1000 [.int .i64 16] [] (.string rName_16) [] := by
  unfold rName_16
  exact fn_of_x hG hM Try.func18 (by kernel_rfl) (by kernel_rfl) 400 [.call [] [] 1000 (.func (.yield 1) ⟨namesV⟩ ⟨[.bool true]⟩) [], .no, .no, .no, .no, .no, .no, .lit 16] (J (rNames_p1) (J (Eq.refl false) (J (Eq.refl false) (J (Eq.refl false) (J (Eq.refl true) (J (Eq.refl false) (J (Eq.refl false) (J (Eq.refl false) (J (Eq.refl true) (J (Eq.refl (16 : Int)) trivial)))))))))) (by kernel_rfl)

/-- kotatsu/kotatsuref08.Name -/
def rName_17  : ByteArray :=
  ⟨#[65, 88, 83]⟩
theorem rName_17_ok  : FnSpec Try.prog 18 1000 [.int .i64 17] [] (.string rName_17) [] := by
  unfold rName_17
  exact fn_of_x hG hM Try.func18 (by kernel_rfl) (by kernel_rfl) 400 [.call [] [] 1000 (.func (.yield 1) ⟨namesV⟩ ⟨[.bool true]⟩) [], .no, .no, .no, .no, .no, .no, .lit 17] (J (rNames_p1) (J (Eq.refl false) (J (Eq.refl false) (J (Eq.refl false) (J (Eq.refl true) (J (Eq.refl false) (J (Eq.refl false) (J (Eq.refl false) (J (Eq.refl true) (J (Eq.refl (17 : Int)) trivial)))))))))) (by kernel_rfl)

/-- kotatsu/kotatsuref08.Name -/
def rName_18  : ByteArray :=
  ⟨#[76, 65, 83]⟩
theorem rName_18_ok  : FnSpec Try.prog 18 1000 [.int .i64 18] [] (.string rName_18) [] := by
  unfold rName_18
  exact fn_of_x hG hM Try.func18 (by kernel_rfl) (by kernel_rfl) 400 [.call [] [] 1000 (.func (.yield 1) ⟨namesV⟩ ⟨[.bool true]⟩) [], .no, .no, .no, .no, .no, .no, .lit 18] (J (rNames_p1) (J (Eq.refl false) (J (Eq.refl false) (J (Eq.refl false) (J (Eq.refl true) (J (Eq.refl false) (J (Eq.refl false) (J (Eq.refl false) (J (Eq.refl true) (J (Eq.refl (18 : Int)) trivial)))))))))) (by kernel_rfl)

/-- kotatsu/kotatsuref08.Name -/
def rName_19  : ByteArray :=
  ⟨#[65, 83, 76]⟩
theorem rName_19_ok  : FnSpec Try.prog 18 1000 [.int .i64 19] [] (.string rName_19) [] := by
  unfold rName_19
  exact fn_of_x hG hM Try.func18 (by kernel_rfl) (by kernel_rfl) 400 [.call [] [] 1000 (.func (.yield 1) ⟨namesV⟩ ⟨[.bool true]⟩) [], .no, .no, .no, .no, .no, .no, .lit 19] (J (rNames_p1) (J (Eq.refl false) (J (Eq.refl false) (J (Eq.refl false) (J (Eq.refl true) (J (Eq.refl false) (J (Eq.refl false) (J (Eq.refl false) (J (Eq.refl true) (J (Eq.refl (19 : Int)) trivial)))))))))) (by kernel_rfl)

/-- kotatsu/kotatsuref08.Name -/
def rName_20  : ByteArray :=
  ⟨#[76, 83, 82]⟩
theorem rName_20_ok  : FnSpec Try.prog 18 1000 [.int .i64 20] [] (.string rName_20) [] := by
  unfold rName_20
  exact fn_of_x hG hM Try.func18 (by kernel_rfl) (by kernel_rfl) 400 [.call [] [] 1000 (.func (.yield 1) ⟨namesV⟩ ⟨[.bool true]⟩) [], .no, .no, .no, .no, .no, .no, .lit 20] (J (rNames_p1) (J (Eq.refl false) (J (Eq.refl false) (J (Eq.refl false) (J (Eq.refl true) (J (Eq.refl false) (J (Eq.refl false) (J (Eq.refl false) (J (Eq.refl true) (J (Eq.refl (20 : Int)) trivial)))))))))) (by kernel_rfl)

/-- kotatsu/kotatsuref08.Name -/
def rName_21  : ByteArray :=
  ⟨#[82, 79, 76]⟩
theorem rName_21_ok  : FnSpec Try.prog 18 1000 [.int .i64 21] [] (.string rName_21) [] := by
  unfold rName_21
  exact fn_of_x hG hM Try.func18 (by kernel_rfl) (by kernel_rfl) 400 [.call [] [] 1000 (.func (.yield 1) ⟨namesV⟩ ⟨[.bool true]⟩) [], .no, .no, .no, .no, .no, .no, .lit 21] (J (rNames_p1) (J (Eq.refl false) (J (Eq.refl false) (J (Eq.refl false) (J (Eq.refl true) (J (Eq.refl false) (J (Eq.refl false) (J (Eq.refl false) (J (Eq.refl true) (J (Eq.refl (21 : Int)) trivial)))))))))) (by kernel_rfl)

/-- kotatsu/kotatsuref08.Name -/
def rName_22  : ByteArray :=
  ⟨#[82, 79, 82]⟩
theorem rName_22_ok  : FnSpec Try.prog 18 1000 [.int .i64 22] [] (.string rName_22) [] := by
  unfold rName_22
  exact fn_of_x hG hM Try.func18 (by kernel_rfl) (by kernel_rfl) 400 [.call [] [] 1000 (.func (.yield 1) ⟨namesV⟩ ⟨[.bool true]⟩) [], .no, .no, .no, .no, .no, .no, .lit 22] (J (rNames_p1) (J (Eq.refl false) (J (Eq.refl false) (J (Eq.refl false) (J (Eq.refl true) (J (Eq.refl false) (J (Eq.refl false) (J (Eq.refl false) (J (Eq.refl true) (J (Eq.refl (22 : Int)) trivial)))))))))) (by kernel_rfl)

/-- kotatsu/kotatsuref08.Name -/
def rName_23  : ByteArray :=
  ⟨#[73, 78, 67]⟩
theorem rName_23_ok  : FnSpec Try.prog 18 1000 [.int .i64 23] [] (.string rName_23) [] := by
  unfold rName_23
  exact fn_of_x hG hM Try.func18 (by kernel_rfl) (by kernel_rfl) 400 [.call [] [] 1000 (.func (.yield 1) ⟨namesV⟩ ⟨[.bool true]⟩) [], .no, .no, .no, .no, .no, .no, .lit 23] (J (rNames_p1) (J (Eq.refl false) (J (Eq.refl false) (J (Eq.refl false) (J (Eq.refl true) (J (Eq.refl false) (J (Eq.refl false) (J (Eq.refl false) (J (Eq.refl true) (J (Eq.refl (23 : Int)) trivial)))))))))) (by kernel_rfl)

/-- kotatsu/kotatsuref08.Name -/
def rName_24  : ByteArray :=
  ⟨#[68, 69, 67]⟩
theorem rName_24_ok  : FnSpec Try.prog 18 1000 [.int .i64 24] [] (.string rName_24) [] := by
  unfold rName_24
  exact fn_of_x hG hM Try.func18 (by kernel_rfl) (by kernel_rfl) 400 [.call [] [] 1000 (.func (.yield 1) ⟨namesV⟩ ⟨[.bool true]⟩) [], .no, .no, .no, .no, .no, .no, .lit 24] (J (rNames_p1) (J (Eq.refl false) (J (Eq.refl false) (J (Eq.refl false) (J (Eq.refl true) (J (Eq.refl false) (J (Eq.refl false) (J (Eq.refl false) (J (Eq.refl true) (J (Eq.refl (24 : Int)) trivial)))))))))) (by kernel_rfl)

/-- kotatsu/kotatsuref08.Name -/
def rName_25  : ByteArray :=
  ⟨#[83, 76, 79]⟩
theorem rName_25_ok  : FnSpec Try.prog 18 1000 [.int .i64 25] [] (.string rName_25) [] := by
  unfold rName_25
  exact fn_of_x hG hM Try.func18 (by kernel_rfl) (by kernel_rfl) 400 [.call [] [] 1000 (.func (.yield 1) ⟨namesV⟩ ⟨[.bool true]⟩) [], .no, .no, .no, .no, .no, .no, .lit 25] (J (rNames_p1) (J (Eq.refl false) (J (Eq.refl false) (J (Eq.refl false) (J (Eq.refl true) (J (Eq.refl false) (J (Eq.refl false) (J (Eq.refl false) (J (Eq.refl true) (J (Eq.refl (25 : Int)) trivial)))))))))) (by kernel_rfl)

/-- kotatsu/kotatsuref08.Name -/
def rName_26  : ByteArray :=
  ⟨#[82, 76, 65]⟩
theorem rName_26_ok  : FnSpec Try.prog 18 1000 [.int .i64 26] [] (.string rName_26) [] := by
  unfold rName_26
  exact fn_of_x hG hM Try.func18 (by kernel_rfl) (by kernel_rfl) 400 [.call [] [] 1000 (.func (.yield 1) ⟨namesV⟩ ⟨[.bool true]⟩) [], .no, .no, .no, .no, .no, .no, .lit 26] (J (rNames_p1) (J (Eq.refl false) (J (Eq.refl false) (J (Eq.refl false) (J (Eq.refl true) (J (Eq.refl false) (J (Eq.refl false) (J (Eq.refl false) (J (Eq.refl true) (J (Eq.refl (26 : Int)) trivial)))))))))) (by kernel_rfl)

/-- kotatsu/kotatsuref08.Name -/
def rName_27  : ByteArray :=
  ⟨#[83, 82, 69]⟩
theorem rName_27_ok  : FnSpec Try.prog 18 1000 [.int .i64 27] [] (.string rName_27) [] := by
  unfold rName_27
  exact fn_of_x hG hM Try.func18 (by kernel_rfl) (by kernel_rfl) 400 [.call [] [] 1000 (.func (.yield 1) ⟨namesV⟩ ⟨[.bool true]⟩) [], .no, .no, .no, .no, .no, .no, .lit 27] (J (rNames_p1) (J (Eq.refl false) (J (Eq.refl false) (J (Eq.refl false) (J (Eq.refl true) (J (Eq.refl false) (J (Eq.refl false) (J (Eq.refl false) (J (Eq.refl true) (J (Eq.refl (27 : Int)) trivial)))))))))) (by kernel_rfl)

/-- kotatsu/kotatsuref08.Name -/
def rName_28  : ByteArray :=
  ⟨#[82, 82, 65]⟩
theorem rName_28_ok  : FnSpec Try.prog 18 1000 [.int .i64 28] [] (.string rName_28) [] := by
  unfold rName_28
  exact fn_of_x hG hM Try.func18 (by kernel_rfl) (by kernel_rfl) 400 [.call [] [] 1000 (.func (.yield 1) ⟨namesV⟩ ⟨[.bool true]⟩) [], .no, .no, .no, .no, .no, .no, .lit 28] (J (rNames_p1) (J (Eq.refl false) (J (Eq.refl false) (J (Eq.refl false) (J (Eq.refl true) (J (Eq.refl false) (J (Eq.refl false) (J (Eq.refl false) (J (Eq.refl true) (J (Eq.refl (28 : Int)) trivial)))))))))) (by kernel_rfl)

/-- kotatsu/kotatsuref08.Name -/
def rName_29  : ByteArray :=
  ⟨#[68, 67, 80]⟩
theorem rName_29_ok  : FnSpec Try.prog 18 1000 [.int .i64 29] [] (.string rName_29) [] := by
  unfold rName_29
  exact fn_of_x hG hM Try.func18 (by kernel_rfl) (by kernel_rfl) 400 [.call [] [] 1000 (.func (.yield 1) ⟨namesV⟩ ⟨[.bool true]⟩) [], .no, .no, .no, .no, .no, .no, .lit 29] (J (rNames_p1) (J (Eq.refl false) (J (Eq.refl false) (J (Eq.refl false) (J (Eq.refl true) (J (Eq.refl false) (J (Eq.refl false) (J (Eq.refl false) (J (Eq.refl true) (J (Eq.refl (29 : Int)) trivial)))))))))) (by kernel_rfl)

/-- kotatsu/kotatsuref08.Name -/
def rName_30  : ByteArray :=
  ⟨#[73, 83, 67]⟩
theorem rName_30_ok  : FnSpec Try.prog 18 1000 [.int .i64 30] [] (.string rName_30) [] := by
  unfold rName_30
  exact fn_of_x hG hM Try.func18 (by kernel_rfl) (by kernel_rfl) 400 [.call [] [] 1000 (.func (.yield 1) ⟨namesV⟩ ⟨[.bool true]⟩) [], .no, .no, .no, .no, .no, .no, .lit 30] (J (rNames_p1) (J (Eq.refl false) (J (Eq.refl false) (J (Eq.refl false) (J (Eq.refl true) (J (Eq.refl false) (J (Eq.refl false) (J (Eq.refl false) (J (Eq.refl true) (J (Eq.refl (30 : Int)) trivial)))))))))) (by kernel_rfl)

/-- kotatsu/kotatsuref08.Name -/
def rName_31  : ByteArray :=
  ⟨#[83, 84, 65]⟩
theorem rName_31_ok  : FnSpec Try.prog 18 1000 [.int .i64 31] [] (.string rName_31) [] := by
  unfold rName_31
  exact fn_of_x hG hM Try.func18 (by kernel_rfl) (by kernel_rfl) 400 [.call [] [] 1000 (.func (.yield 1) ⟨namesV⟩ ⟨[.bool true]⟩) [], .no, .no, .no, .no, .no, .no, .lit 31] (J (rNames_p1) (J (Eq.refl false) (J (Eq.refl false) (J (Eq.refl false) (J (Eq.refl true) (J (Eq.refl false) (J (Eq.refl false) (J (Eq.refl false) (J (Eq.refl true) (J (Eq.refl (31 : Int)) trivial)))))))))) (by kernel_rfl)

/-- kotatsu/kotatsuref08.Name -/
def rName_32  : ByteArray :=
  ⟨#[83, 84, 88]⟩
theorem rName_32_ok  : FnSpec Try.prog 18 1000 [.int .i64 32] [] (.string rName_32) [] := by
  unfold rName_32
  exact fn_of_x hG hM Try.func18 (by kernel_rfl) (by kernel_rfl) 400 [.call [] [] 1000 (.func (.yield 1) ⟨namesV⟩ ⟨[.bool true]⟩) [], .no, .no, .no, .no, .no, .no, .lit 32] (J (rNames_p1) (J (Eq.refl false) (J (Eq.refl false) (J (Eq.refl false) (J (Eq.refl true) (J (Eq.refl false) (J (Eq.refl false) (J (Eq.refl false) (J (Eq.refl true) (J (Eq.refl (32 : Int)) trivial)))))))))) (by kernel_rfl)

/-- kotatsu/kotatsuref08.Name -/
def rName_33  : ByteArray :=
  ⟨#[83, 84, 89]⟩
theorem rName_33_ok  : FnSpec Try.prog 18 1000 [.int .i64 33] [] (.string rName_33) [] := by
  unfold rName_33
  exact fn_of_x hG hM Try.func18 (by kernel_rfl) (by kernel_rfl) 400 [.call [] [] 1000 (.func (.yield 1) ⟨namesV⟩ ⟨[.bool true]⟩) [], .no, .no, .no, .no, .no, .no, .lit 33] (J (rNames_p1) (J (Eq.refl false) (J (Eq.refl false) (J (Eq.refl false) (J (Eq.refl true) (J (Eq.refl false) (J (Eq.refl false) (J (Eq.refl false) (J (Eq.refl true) (J (Eq.refl (33 : Int)) trivial)))))))))) (by kernel_rfl)

/-- kotatsu/kotatsuref08.Name -/
def rName_34  : ByteArray :=
  ⟨#[83, 65, 88]⟩
theorem rName_34_ok  : FnSpec Try.prog 18 1000 [.int .i64 34] [] (.string rName_34) [] := by
  unfold rName_34
  exact fn_of_x hG hM Try.func18 (by kernel_rfl) (by kernel_rfl) 400 [.call [] [] 1000 (.func (.yield 1) ⟨namesV⟩ ⟨[.bool true]⟩) [], .no, .no, .no, .no, .no, .no, .lit 34] (J (rNames_p1) (J (Eq.refl false) (J (Eq.refl false) (J (Eq.refl false) (J (Eq.refl true) (J (Eq.refl false) (J (Eq.refl false) (J (Eq.refl false) (J (Eq.refl true) (J (Eq.refl (34 : Int)) trivial)))))))))) (by kernel_rfl)

/-- kotatsu/kotatsuref08.Name -/
def rName_35  : ByteArray :=
  ⟨#[84, 65, 88]⟩
theorem rName_35_ok  : FnSpec Try.prog 18 1000 [.int .i64 35] [] (.string rName_35) [] := by
  unfold rName_35
  exact fn_of_x hG hM Try.func18 (by kernel_rfl) (by kernel_rfl) 400 [.call [] [] 1000 (.func (.yield 1) ⟨namesV⟩ ⟨[.bool true]⟩) [], .no, .no, .no, .no, .no, .no, .lit 35] (J (rNames_p1) (J (Eq.refl false) (J (Eq.refl false) (J (Eq.refl false) (J (Eq.refl true) (J (Eq.refl false) (J (Eq.refl false) (J (Eq.refl false) (J (Eq.refl true) (J (Eq.refl (35 : Int)) trivial)))))))))) (by kernel_rfl)

/-- kotatsu/kotatsuref08.Name -/
def rName_36  : ByteArray :=
  ⟨#[84, 65, 89]⟩
theorem rName_36_ok  : FnSpec Try.prog 18 1000 [.int .i64 36] [] (.string rName_36) [] := by
  unfold rName_36
  exact fn_of_x hG hM Try.func18 (by kernel_rfl) (by kernel_rfl) 400 [.call [] [] 1000 (.func (.yield 1) ⟨namesV⟩ ⟨[.bool true]⟩) [], .no, .no, .no, .no, .no, .no, .lit 36] (J (rNames_p1) (J (Eq.refl false) (J (Eq.refl false) (J (Eq.refl false) (J (Eq.refl true) (J (Eq.refl false) (J (Eq.refl false) (J (Eq.refl false) (J (Eq.refl true) (J (Eq.refl (36 : Int)) trivial)))))))))) (by kernel_rfl)

/-- kotatsu/kotatsuref08.Name -/
def rName_37  : ByteArray :=
  ⟨#[84, 88, 65]⟩
theorem rName_37_ok  : FnSpec Try.prog 18 1000 [.int .i64 37] [] (.string rName_37) [] := by
  unfold rName_37
  exact fn_of_x hG hM Try.func18 (by kernel_rfl) (by kernel_rfl) 400 [.call [] [] 1000 (.func (.yield 1) ⟨namesV⟩ ⟨[.bool true]⟩) [], .no, .no, .no, .no, .no, .no, .lit 37] (J (rNames_p1) (J (Eq.refl false) (J (Eq.refl false) (J (Eq.refl false) (J (Eq.refl true) (J (Eq.refl false) (J (Eq.refl false) (J (Eq.refl false) (J (Eq.refl true) (J (Eq.refl (37 : Int)) trivial)))))))))) (by kernel_rfl)

/-- kotatsu/kotatsuref08.Name -/
def rName_38  : ByteArray :=
  ⟨#[84, 89, 65]⟩
theorem rName_38_ok  : FnSpec Try.prog 18 1000 [.int .i64 38] [] (.string rName_38) [] := by
  unfold rName_38
  exact fn_of_x hG hM Try.func18 (by kernel_rfl) (by kernel_rfl) 400 [.call [] [] 1000 (.func (.yield 1) ⟨namesV⟩ ⟨[.bool true]⟩) [], .no, .no, .no, .no, .no, .no, .lit 38] (J (rNames_p1) (J (Eq.refl false) (J (Eq.refl false) (J (Eq.refl false) (J (Eq.refl true) (J (Eq.refl false) (J (Eq.refl false) (J (Eq.refl false) (J (Eq.refl true) (J (Eq.refl (38 : Int)) trivial)))))))))) (by kernel_rfl)

/-- kotatsu/kotatsuref08.Name -/
def rName_39  : ByteArray :=
  ⟨#[84, 83, 88]⟩
theorem rName_39_ok  : FnSpec Try.prog 18 1000 [.int .i64 39] [] (.string rName_39) [] := by
  unfold rName_39
  exact fn_of_x hG hM Try.func18 (by kernel_rfl) (by kernel_rfl) 400 [.call [] [] 1000 (.func (.yield 1) ⟨namesV⟩ ⟨[.bool true]⟩) [], .no, .no, .no, .no, .no, .no, .lit 39] (J (rNames_p1) (J (Eq.refl false) (J (Eq.refl false) (J (Eq.refl false) (J (Eq.refl true) (J (Eq.refl false) (J (Eq.refl false) (J (Eq.refl false) (J (Eq.refl true) (J (Eq.refl (39 : Int)) trivial)))))))))) (by kernel_rfl)

/-- kotatsu/kotatsuref08.Name -/
def rName_40  : ByteArray :=
  ⟨#[84, 88, 83]⟩
theorem rName_40_ok  : FnSpec Try.prog 18 1000 [.int .i64 40] [] (.string rName_40) [] := by
  unfold rName_40
  exact fn_of_x hG hM Try.func18 (by kernel_rfl) (by kernel_rfl) 400 [.call [] [] 1000 (.func (.yield 1) ⟨namesV⟩ ⟨[.bool true]⟩) [], .no, .no, .no, .no, .no, .no, .lit 40] (J (rNames_p1) (J (Eq.refl false) (J (Eq.refl false) (J (Eq.refl false) (J (Eq.refl true) (J (Eq.refl false) (J (Eq.refl false) (J (Eq.refl false) (J (Eq.refl true) (J (Eq.refl (40 : Int)) trivial)))))))))) (by kernel_rfl)

/-- kotatsu/kotatsuref08.Name -/
def rName_41  : ByteArray :=
  ⟨#[73, 78, 88]⟩
theorem rName_41_ok  : FnSpec Try.prog 18 1000 [.int .i64 41] [] (.string rName_41) [] := by
  unfold rName_41
  exact fn_of_x hG hM Try.func18 (by kernel_rfl) (by kernel_rfl) 400 [.call [] [] 1000 (.func (.yield 1) ⟨namesV⟩ ⟨[.bool true]⟩) [], .no, .no, .no, .no, .no, .no, .lit 41] (J (rNames_p1) (J (Eq.refl false) (J (Eq.refl false) (J (Eq.refl false) (J (Eq.refl true) (J (Eq.refl false) (J (Eq.refl false) (J (Eq.refl false) (J (Eq.refl true) (J (Eq.refl (41 : Int)) trivial)))))))))) (by kernel_rfl)

/-- kotatsu/kotatsuref08.Name -/
def rName_42  : ByteArray :=
  ⟨#[73, 78, 89]⟩
theorem rName_42_ok  : FnSpec Try.prog 18 1000 [.int .i64 42] [] (.string rName_42) [] := by
  unfold rName_42
  exact fn_of_x hG hM Try.func18 (by kernel_rfl) (by kernel_rfl) 400 [.call [] [] 1000 (.func (.yield 1) ⟨namesV⟩ ⟨[.bool true]⟩) [], .no, .no, .no, .no, .no, .no, .lit 42] (J (rNames_p1) (J (Eq.refl false) (J (Eq.refl false) (J (Eq.refl false) (J (Eq.refl true) (J (Eq.refl false) (J (Eq.refl false) (J (Eq.refl false) (J (Eq.refl true) (J (Eq.refl (42 : Int)) trivial)))))))))) (by kernel_rfl)

/-- kotatsu/kotatsuref08.Name -/
def rName_43  : ByteArray :=
  ⟨#[68, 69, 88]⟩
theorem rName_43_ok  : FnSpec Try.prog 18 1000 [.int .i64 43] [] (.string rName_43) [] := by
  unfold rName_43
  exact fn_of_x hG hM Try.func18 (by kernel_rfl) (by kernel_rfl) 400 [.call [] [] 1000 (.func (.yield 1) ⟨namesV⟩ ⟨[.bool true]⟩) [], .no, .no, .no, .no, .no, .no, .lit 43] (J (rNames_p1) (J (Eq.refl false) (J (Eq.refl false) (J (Eq.refl false) (J (Eq.refl true) (J (Eq.refl false) (J (Eq.refl false) (J (Eq.refl false) (J (Eq.refl true) (J (Eq.refl (43 : Int)) trivial)))))))))) (by kernel_rfl)

/-- kotatsu/kotatsuref08.Name -/
def rName_44  : ByteArray :=
  ⟨#[68, 69, 89]⟩
theorem rName_44_ok  : FnSpec Try.prog 18 1000 [.int .i64 44] [] (.string rName_44) [] := by
  unfold rName_44
  exact fn_of_x hG hM Try.func18 (by kernel_rfl) (by kernel_rfl) 400 [.call [] [] 1000 (.func (.yield 1) ⟨namesV⟩ ⟨[.bool true]⟩) [], .no, .no, .no, .no, .no, .no, .lit 44] (J (rNames_p1) (J (Eq.refl false) (J (Eq.refl false) (J (Eq.refl false) (J (Eq.refl true) (J (Eq.refl false) (J (Eq.refl false) (J (Eq.refl false) (J (Eq.refl true) (J (Eq.refl (44 : Int)) trivial)))))))))) (by kernel_rfl)

/-- kotatsu/kotatsuref08.Name -/
def rName_45  : ByteArray :=
  ⟨#[67, 76, 67]⟩
theorem rName_45_ok  : FnSpec Try.prog 18 1000 [.int .i64 45] [] (.string rName_45) [] := by
  unfold rName_45
  exact fn_of_x hG hM Try.func18 (by kernel_rfl) (by kernel_rfl) 400 [.call [] [] 1000 (.func (.yield 1) ⟨namesV⟩ ⟨[.bool true]⟩) [], .no, .no, .no, .no, .no, .no, .lit 45] (J (rNames_p1) (J (Eq.refl false) (J (Eq.refl false) (J (Eq.refl false) (J (Eq.refl true) (J (Eq.refl false) (J (Eq.refl false) (J (Eq.refl false) (J (Eq.refl true) (J (Eq.refl (45 : Int)) trivial)))))))))) (by kernel_rfl)

/-- kotatsu/kotatsuref08.Name -/
def rName_46  : ByteArray :=
  ⟨#[83, 69, 67]⟩
theorem rName_46_ok  : FnSpec Try.prog 18 1000 [.int .i64 46] [] (.string rName_46) [] := by
  unfold rName_46
  exact fn_of_x hG hM Try.func18 (by kernel_rfl) (by kernel_rfl) 400 [.call [] [] 1000 (.func (.yield 1) ⟨namesV⟩ ⟨[.bool true]⟩) [], .no, .no, .no, .no, .no, .no, .lit 46] (J (rNames_p1) (J (Eq.refl false) (J (Eq.refl false) (J (Eq.refl false) (J (Eq.refl true) (J (Eq.refl false) (J (Eq.refl false) (J (Eq.refl false) (J (Eq.refl true) (J (Eq.refl (46 : Int)) trivial)))))))))) (by kernel_rfl)

/-- kotatsu/kotatsuref08.Name -/
def rName_47  : ByteArray :=
  ⟨#[67, 76, 73]⟩
theorem rName_47_ok  : FnSpec Try.prog 18 1000 [.int .i64 47] [] (.string rName_47) [] := by
  unfold rName_47
  exact fn_of_x hG hM Try.func18 (by kernel_rfl) (by kernel_rfl) 400 [.call [] [] 1000 (.func (.yield 1) ⟨namesV⟩ ⟨[.bool true]⟩) [], .no, .no, .no, .no, .no, .no, .lit 47] (J (rNames_p1) (J (Eq.refl false) (J (Eq.refl false) (J (Eq.refl false) (J (Eq.refl true) (J (Eq.refl false) (J (Eq.refl false) (J (Eq.refl false) (J (Eq.refl true) (J (Eq.refl (47 : Int)) trivial)))))))))) (by kernel_rfl)

/-- kotatsu/kotatsuref08.Name -/
def rName_48  : ByteArray :=
  ⟨#[83, 69, 73]⟩
theorem rName_48_ok  : FnSpec Try.prog 18 1000 [.int .i64 48] [] (.string rName_48) [] := by
  unfold rName_48
  exact fn_of_x hG hM Try.func18 (by kernel_rfl) (by kernel_rfl) 400 [.call [] [] 1000 (.func (.yield 1) ⟨namesV⟩ ⟨[.bool true]⟩) [], .no, .no, .no, .no, .no, .no, .lit 48] (J (rNames_p1) (J (Eq.refl false) (J (Eq.refl false) (J (Eq.refl false) (J (Eq.refl true) (J (Eq.refl false) (J (Eq.refl false) (J (Eq.refl false) (J (Eq.refl true) (J (Eq.refl (48 : Int)) trivial)))))))))) (by kernel_rfl)

/-- kotatsu/kotatsuref08.Name -/
def rName_49  : ByteArray :=
  ⟨#[67, 76, 86]⟩
theorem rName_49_ok  : FnSpec Try.prog 18 1000 [.int .i64 49] [] (.string rName_49) [] := by
  unfold rName_49
  exact fn_of_x hG hM Try.func18 (by kernel_rfl) (by kernel_rfl) 400 [.call [] [] 1000 (.func (.yield 1) ⟨namesV⟩ ⟨[.bool true]⟩) [], .no, .no, .no, .no, .no, .no, .lit 49] (J (rNames_p1) (J (Eq.refl false) (J (Eq.refl false) (J (Eq.refl false) (J (Eq.refl true) (J (Eq.refl false) (J (Eq.refl false) (J (Eq.refl false) (J (Eq.refl true) (J (Eq.refl (49 : Int)) trivial)))))))))) (by kernel_rfl)

/-- kotatsu/kotatsuref08.Name -/
def rName_50  : ByteArray :=
  ⟨#[67, 76, 68]⟩
theorem rName_50_ok  : FnSpec Try.prog 18 1000 [.int .i64 50] [] (.string rName_50) [] := by
  unfold rName_50
  exact fn_of_x hG hM Try.func18 (by kernel_rfl) (by kernel_rfl) 400 [.call [] [] 1000 (.func (.yield 1) ⟨namesV⟩ ⟨[.bool true]⟩) [], .no, .no, .no, .no, .no, .no, .lit 50] (J (rNames_p1) (J (Eq.refl false) (J (Eq.refl false) (J (Eq.refl false) (J (Eq.refl true) (J (Eq.refl false) (J (Eq.refl false) (J (Eq.refl false) (J (Eq.refl true) (J (Eq.refl (50 : Int)) trivial)))))))))) (by kernel_rfl)

/-- kotatsu/kotatsuref08.Name -/
def rName_51  : ByteArray :=
  ⟨#[83, 69, 68]⟩
theorem rName_51_ok  : FnSpec Try.prog 18 1000 [.int .i64 51] [] (.string rName_51) [] := by
  unfold rName_51
  exact fn_of_x hG hM Try.func18 (by kernel_rfl) (by kernel_rfl) 400 [.call [] [] 1000 (.func (.yield 1) ⟨namesV⟩ ⟨[.bool true]⟩) [], .no, .no, .no, .no, .no, .no, .lit 51] (J (rNames_p1) (J (Eq.refl false) (J (Eq.refl false) (J (Eq.refl false) (J (Eq.refl true) (J (Eq.refl false) (J (Eq.refl false) (J (Eq.refl false) (J (Eq.refl true) (J (Eq.refl (51 : Int)) trivial)))))))))) (by kernel_rfl)

/-- kotatsu/kotatsuref08.Name -/
def rName_52  : ByteArray :=
  ⟨#[66, 80, 76]⟩
theorem rName_52_ok  : FnSpec Try.prog 18 1000 [.int .i64 52] [] (.string rName_52) [] := by
  unfold rName_52
  exact fn_of_x hG hM Try.func18 (by kernel_rfl) (by kernel_rfl) 400 [.call [] [] 1000 (.func (.yield 1) ⟨namesV⟩ ⟨[.bool true]⟩) [], .no, .no, .no, .no, .no, .no, .lit 52] (J (rNames_p1) (J (Eq.refl false) (J (Eq.refl false) (J (Eq.refl false) (J (Eq.refl true) (J (Eq.refl false) (J (Eq.refl false) (J (Eq.refl false) (J (Eq.refl true) (J (Eq.refl (52 : Int)) trivial)))))))))) (by kernel_rfl)

/-- kotatsu/kotatsuref08.Name -/
def rName_53  : ByteArray :=
  ⟨#[66, 77, 73]⟩
theorem rName_53_ok  : FnSpec Try.prog 18 1000 [.int .i64 53] [] (.string rName_53) [] := by
  unfold rName_53
  exact fn_of_x hG hM Try.func18 (by kernel_rfl) (by kernel_rfl) 400 [.call [] [] 1000 (.func (.yield 1) ⟨namesV⟩ ⟨[.bool true]⟩) [], .no, .no, .no, .no, .no, .no, .lit 53] (J (rNames_p1) (J (Eq.refl false) (J (Eq.refl false) (J (Eq.refl false) (J (Eq.refl true) (J (Eq.refl false) (J (Eq.refl false) (J (Eq.refl false) (J (Eq.refl true) (J (Eq.refl (53 : Int)) trivial)))))))))) (by kernel_rfl)

/-- kotatsu/kotatsuref08.Name -/
def rName_54  : ByteArray :=
  ⟨#[66, 86, 67]⟩
theorem rName_54_ok  : FnSpec Try.prog 18 1000 [.int .i64 54] [] (.string rName_54) [] := by
  unfold rName_54
  exact fn_of_x hG hM Try.func18 (by kernel_rfl) (by kernel_rfl) 400 [.call [] [] 1000 (.func (.yield 1) ⟨namesV⟩ ⟨[.bool true]⟩) [], .no, .no, .no, .no, .no, .no, .lit 54] (J (rNames_p1) (J (Eq.refl false) (J (Eq.refl false) (J (Eq.refl false) (J (Eq.refl true) (J (Eq.refl false) (J (Eq.refl false) (J (Eq.refl false) (J (Eq.refl true) (J (Eq.refl (54 : Int)) trivial)))))))))) (by kernel_rfl)

/-- kotatsu/kotatsuref08.Name -/
def rName_55  : ByteArray :=
  ⟨#[66, 86, 83]⟩
theorem rName_55_ok  : FnSpec Try.prog 18 1000 [.int .i64 55] [] (.string rName_55) [] := by
  unfold rName_55
  exact fn_of_x hG hM Try.func18 (by kernel_rfl) (by kernel_rfl) 400 [.call [] [] 1000 (.func (.yield 1) ⟨namesV⟩ ⟨[.bool true]⟩) [], .no, .no, .no, .no, .no, .no, .lit 55] (J (rNames_p1) (J (Eq.refl false) (J (Eq.refl false) (J (Eq.refl false) (J (Eq.refl true) (J (Eq.refl false) (J (Eq.refl false) (J (Eq.refl false) (J (Eq.refl true) (J (Eq.refl (55 : Int)) trivial)))))))))) (by kernel_rfl)

/-- kotatsu/kotatsuref08.Name -/
def rName_56  : ByteArray :=
  ⟨#[66, 67, 67]⟩
theorem rName_56_ok  : FnSpec Try.prog 18 1000 [.int .i64 56] [] (.string rName_56) [] := by
  unfold rName_56
  exact fn_of_x hG hM Try.func18 (by kernel_rfl) (by kernel_rfl) 400 [.call [] [] 1000 (.func (.yield 1) ⟨namesV⟩ ⟨[.bool true]⟩) [], .no, .no, .no, .no, .no, .no, .lit 56] (J (rNames_p1) (J (Eq.refl false) (J (Eq.refl false) (J (Eq.refl false) (J (Eq.refl true) (J (Eq.refl false) (J (Eq.refl false) (J (Eq.refl false) (J (Eq.refl true) (J (Eq.refl (56 : Int)) trivial)))))))))) (by kernel_rfl)

/-- kotatsu/kotatsuref08.Name -/
def rName_57  : ByteArray :=
  ⟨#[66, 67, 83]⟩
theorem rName_57_ok  : FnSpec Try.prog 18 1000 [.int .i64 57] [] (.string rName_57) [] := by
  unfold rName_57
  exact fn_of_x hG hM Try.func18 (by kernel_rfl) (by kernel_rfl) 400 [.call [] [] 1000 (.func (.yield 1) ⟨namesV⟩ ⟨[.bool true]⟩) [], .no, .no, .no, .no, .no, .no, .lit 57] (J (rNames_p1) (J (Eq.refl false) (J (Eq.refl false) (J (Eq.refl false) (J (Eq.refl true) (J (Eq.refl false) (J (Eq.refl false) (J (Eq.refl false) (J (Eq.refl true) (J (Eq.refl (57 : Int)) trivial)))))))))) (by kernel_rfl)

/-- kotatsu/kotatsuref08.Name -/
def rName_58  : ByteArray :=
  ⟨#[66, 78, 69]⟩
theorem rName_58_ok  : FnSpec Try.prog 18 1000 [.int .i64 58] [] (.string rName_58) [] := by
  unfold rName_58
  exact fn_of_x hG hM Try.func18 (by kernel_rfl) (by kernel_rfl) 400 [.call [] [] 1000 (.func (.yield 1) ⟨namesV⟩ ⟨[.bool true]⟩) [], .no, .no, .no, .no, .no, .no, .lit 58] (J (rNames_p1) (J (Eq.refl false) (J (Eq.refl false) (J (Eq.refl false) (J (Eq.refl true) (J (Eq.refl false) (J (Eq.refl false) (J (Eq.refl false) (J (Eq.refl true) (J (Eq.refl (58 : Int)) trivial)))))))))) (by kernel_rfl)

/-- kotatsu/kotatsuref08.Name -/
def rName_59  : ByteArray :=
  ⟨#[66, 69, 81]⟩
theorem rName_59_ok  : FnSpec Try.prog 18 1000 [.int .i64 59] [] (.string rName_59) [] := by
  unfold rName_59
  exact fn_of_x hG hM Try.func18 (by kernel_rfl) (by kernel_rfl) 400 [.call [] [] 1000 (.func (.yield 1) ⟨namesV⟩ ⟨[.bool true]⟩) [], .no, .no, .no, .no, .no, .no, .lit 59] (J (rNames_p1) (J (Eq.refl false) (J (Eq.refl false) (J (Eq.refl false) (J (Eq.refl true) (J (Eq.refl false) (J (Eq.refl false) (J (Eq.refl false) (J (Eq.refl true) (J (Eq.refl (59 : Int)) trivial)))))))))) (by kernel_rfl)

/-- kotatsu/kotatsuref08.Name -/
def rName_60  : ByteArray :=
  ⟨#[74, 77, 80]⟩
theorem rName_60_ok  : FnSpec Try.prog 18 1000 [.int .i64 60] [] (.string rName_60) [] := by
  unfold rName_60
  exact fn_of_x hG hM Try.func18 (by kernel_rfl) (by kernel_rfl) 400 [.call [] [] 1000 (.func (.yield 1) ⟨namesV⟩ ⟨[.bool true]⟩) [], .no, .no, .no, .no, .no, .no, .lit 60] (J (rNames_p1) (J (Eq.refl false) (J (Eq.refl false) (J (Eq.refl false) (J (Eq.refl true) (J (Eq.refl false) (J (Eq.refl false) (J (Eq.refl false) (J (Eq.refl true) (J (Eq.refl (60 : Int)) trivial)))))))))) (by kernel_rfl)

/-- kotatsu/kotatsuref08.Name -/
def rName_61  : ByteArray :=
  ⟨#[74, 83, 82]⟩
theorem rName_61_ok  : FnSpec Try.prog 18 1000 [.int .i64 61] [] (.string rName_61) [] := by
  unfold rName_61
  exact fn_of_x hG hM Try.func18 (by kernel_rfl) (by kernel_rfl) 400 [.call [] [] 1000 (.func (.yield 1) ⟨namesV⟩ ⟨[.bool true]⟩) [], .no, .no, .no, .no, .no, .no, .lit 61] (J (rNames_p1) (J (Eq.refl false) (J (Eq.refl false) (J (Eq.refl false) (J (Eq.refl true) (J (Eq.refl false) (J (Eq.refl false) (J (Eq.refl false) (J (Eq.refl true) (J (Eq.refl (61 : Int)) trivial)))))))))) (by kernel_rfl)

/-- kotatsu/kotatsuref08.Name -/
def rName_62  : ByteArray :=
  ⟨#[82, 84, 83]⟩
theorem rName_62_ok  : FnSpec Try.prog 18 1000 [.int .i64 62] [] (.string rName_62) [] := by
  unfold rName_62
  exact fn_of_x hG hM Try.func18 (by kernel_rfl) (by kernel_rfl) 400 [.call [] [] 1000 (.func (.yield 1) ⟨namesV⟩ ⟨[.bool true]⟩) [], .no, .no, .no, .no, .no, .no, .lit 62] (J (rNames_p1) (J (Eq.refl false) (J (Eq.refl false) (J (Eq.refl false) (J (Eq.refl true) (J (Eq.refl false) (J (Eq.refl false) (J (Eq.refl false) (J (Eq.refl true) (J (Eq.refl (62 : Int)) trivial)))))))))) (by kernel_rfl)

/-- kotatsu/kotatsuref08.Name -/
def rName_63  : ByteArray :=
  ⟨#[82, 84, 73]⟩
theorem rName_63_ok  : FnSpec Try.prog 18 1000 [.int .i64 63] [] (.string rName_63) [] := by
  unfold rName_63
  exact fn_of_x hG hM Try.func18 (by kernel_rfl) (by kernel_rfl) 400 [.call [] [] 1000 (.func (.yield 1) ⟨namesV⟩ ⟨[.bool true]⟩) [], .no, .no, .no, .no, .no, .no, .lit 63] (J (rNames_p1) (J (Eq.refl false) (J (Eq.refl false) (J (Eq.refl false) (J (Eq.refl true) (J (Eq.refl false) (J (Eq.refl false) (J (Eq.refl false) (J (Eq.refl true) (J (Eq.refl (63 : Int)) trivial)))))))))) (by kernel_rfl)

/-- kotatsu/kotatsuref08.Name -/
def rName_64  : ByteArray :=
  ⟨#[66, 82, 75]⟩
theorem rName_64_ok  : FnSpec Try.prog 18 1000 [.int .i64 64] [] (.string rName_64) [] := by
  unfold rName_64
  exact fn_of_x hG hM Try.func18 (by kernel_rfl) (by kernel_rfl) 400 [.call [] [] 1000 (.func (.yield 1) ⟨namesV⟩ ⟨[.bool true]⟩) [], .no, .no, .no, .no, .no, .no, .lit 64] (J (rNames_p1) (J (Eq.refl false) (J (Eq.refl false) (J (Eq.refl false) (J (Eq.refl true) (J (Eq.refl false) (J (Eq.refl false) (J (Eq.refl false) (J (Eq.refl true) (J (Eq.refl (64 : Int)) trivial)))))))))) (by kernel_rfl)

/-- kotatsu/kotatsuref08.Name -/
def rName_65  : ByteArray :=
  ⟨#[80, 72, 65]⟩
theorem rName_65_ok  : FnSpec Try.prog 18 1000 [.int .i64 65] [] (.string rName_65) [] := by
  unfold rName_65
  exact fn_of_x hG hM Try.func18 (by kernel_rfl) (by kernel_rfl) 400 [.call [] [] 1000 (.func (.yield 1) ⟨namesV⟩ ⟨[.bool true]⟩) [], .no, .no, .no, .no, .no, .no, .lit 65] (J (rNames_p1) (J (Eq.refl false) (J (Eq.refl false) (J (Eq.refl false) (J (Eq.refl true) (J (Eq.refl false) (J (Eq.refl false) (J (Eq.refl false) (J (Eq.refl true) (J (Eq.refl (65 : Int)) trivial)))))))))) (by kernel_rfl)

/-- kotatsu/kotatsuref08.Name -/
def rName_66  : ByteArray :=
  ⟨#[80, 72, 80]⟩
theorem rName_66_ok  : FnSpec Try.prog 18 1000 [.int .i64 66] [] (.string rName_66) [] := by
  unfold rName_66
  exact fn_of_x hG hM Try.func18 (by kernel_rfl) (by kernel_rfl) 400 [.call [] [] 1000 (.func (.yield 1) ⟨namesV⟩ ⟨[.bool true]⟩) [], .no, .no, .no, .no, .no, .no, .lit 66] (J (rNames_p1) (J (Eq.refl false) (J (Eq.refl false) (J (Eq.refl false) (J (Eq.refl true) (J (Eq.refl false) (J (Eq.refl false) (J (Eq.refl false) (J (Eq.refl true) (J (Eq.refl (66 : Int)) trivial)))))))))) (by kernel_rfl)

/-- kotatsu/kotatsuref08.Name -/
def rName_67  : ByteArray :=
  ⟨#[80, 76, 65]⟩
theorem rName_67_ok  : FnSpec Try.prog 18 1000 [.int .i64 67] [] (.string rName_67) [] := by
  unfold rName_67
  exact fn_of_x hG hM Try.func18 (by kernel_rfl) (by kernel_rfl) 400 [.call [] [] 1000 (.func (.yield 1) ⟨namesV⟩ ⟨[.bool true]⟩) [], .no, .no, .no, .no, .no, .no, .lit 67] (J (rNames_p1) (J (Eq.refl false) (J (Eq.refl false) (J (Eq.refl false) (J (Eq.refl true) (J (Eq.refl false) (J (Eq.refl false) (J (Eq.refl false) (J (Eq.refl true) (J (Eq.refl (67 : Int)) trivial)))))))))) (by kernel_rfl)

/-- kotatsu/kotatsuref08.Name -/
def rName_68  : ByteArray :=
  ⟨#[80, 76, 80]⟩
theorem rName_68_ok  : FnSpec Try.prog 18 1000 [.int .i64 68] [] (.string rName_68) [] := by
  unfold rName_68
  exact fn_of_x hG hM Try.func18 (by kernel_rfl) (by kernel_rfl) 400 [.call [] [] 1000 (.func (.yield 1) ⟨namesV⟩ ⟨[.bool true]⟩) [], .no, .no, .no, .no, .no, .no, .lit 68] (J (rNames_p1) (J (Eq.refl false) (J (Eq.refl false) (J (Eq.refl false) (J (Eq.refl true) (J (Eq.refl false) (J (Eq.refl false) (J (Eq.refl false) (J (Eq.refl true) (J (Eq.refl (68 : Int)) trivial)))))))))) (by kernel_rfl)

/-- kotatsu/kotatsuref08.Name -/
def rName_69  : ByteArray :=
  ⟨#[74, 65, 77]⟩
theorem rName_69_ok  : FnSpec Try.prog 18 1000 [.int .i64 69] [] (.string rName_69) [] := by
  unfold rName_69
  exact fn_of_x hG hM Try.func18 (by kernel_rfl) (by kernel_rfl) 400 [.call [] [] 1000 (.func (.yield 1) ⟨namesV⟩ ⟨[.bool true]⟩) [], .no, .no, .no, .no, .no, .no, .lit 69] (J (rNames_p1) (J (Eq.refl false) (J (Eq.refl false) (J (Eq.refl false) (J (Eq.refl true) (J (Eq.refl false) (J (Eq.refl false) (J (Eq.refl false) (J (Eq.refl true) (J (Eq.refl (69 : Int)) trivial)))))))))) (by kernel_rfl)

/-- kotatsu/kotatsuref08.Name -/
def rName_no (op : Int) : ByteArray :=
  ⟨#[]⟩
theorem rName_no_ok (op : Int) (h0 : (decide ((op : Int) < 0)) = false) (ho : (decide ((op : Int) ≥ 70)) = true) : FnSpec Try.prog 18 1000 [.int .i64 op] [] (.string (rName_no op)) [] := by
  unfold rName_no
  exact fn_of_x hG hM Try.func18 (by kernel_rfl) (by kernel_rfl) 400 [.call [] [] 1000 (.func (.yield 1) ⟨namesV⟩ ⟨[.bool true]⟩) [], .no, .no, .no, .no, .no, .yes] (J (rNames_p1) (J h0 (J h0 (J h0 (J (Eq.refl true) (J h0 (J h0 (J ho trivial)))))))) (by kernel_rfl)

/-- kotatsu/alu.Kind -/
def aKind (op : Int) : Int :=
  if (decide ((op : Int) ≤ 18)) = true then
    1
  else
    if (decide ((op : Int) ≤ 30)) = true then
      2
    else
      if (decide ((op : Int) ≤ 34)) = true then
        3
      else
        if (decide ((op : Int) ≤ 51)) = true then
          4
        else
          if (decide ((op : Int) ≤ 59)) = true then
            5
          else
            if (decide ((op : Int) ≤ 69)) = true then
              6
            else
              0
theorem aKind_ok (op : Int) : FnSpec Try.prog 23 1000 [.int .u8 op] [] (.int .u8 (aKind op)) [] := by
  unfold aKind
  rcases bt (decide ((op : Int) ≤ 18)) with c1 | c1
  · rw [if_pos c1]
    exact fn_of_x hG hM Try.func23 (by kernel_rfl) (by kernel_rfl) 400 [.yes] (J c1 trivial) (by kernel_rfl)
  · rw [if_neg (nt c1)]
    rcases bt (decide ((op : Int) ≤ 30)) with c2 | c2
    · rw [if_pos c2]
      exact fn_of_x hG hM Try.func23 (by kernel_rfl) (by kernel_rfl) 400 [.no, .yes] (J c1 (J c2 trivial)) (by kernel_rfl)
    · rw [if_neg (nt c2)]
      rcases bt (decide ((op : Int) ≤ 34)) with c3 | c3
      · rw [if_pos c3]
        exact fn_of_x hG hM Try.func23 (by kernel_rfl) (by kernel_rfl) 400 [.no, .no, .yes] (J c1 (J c2 (J c3 trivial))) (by kernel_rfl)
      · rw [if_neg (nt c3)]
        rcases bt (decide ((op : Int) ≤ 51)) with c4 | c4
        · rw [if_pos c4]
          exact fn_of_x hG hM Try.func23 (by kernel_rfl) (by kernel_rfl) 400 [.no, .no, .no, .yes] (J c1 (J c2 (J c3 (J c4 trivial)))) (by kernel_rfl)
        · rw [if_neg (nt c4)]
          rcases bt (decide ((op : Int) ≤ 59)) with c5 | c5
          · rw [if_pos c5]
            exact fn_of_x hG hM Try.func23 (by kernel_rfl) (by kernel_rfl) 400 [.no, .no, .no, .no, .yes] (J c1 (J c2 (J c3 (J c4 (J c5 trivial))))) (by kernel_rfl)
          · rw [if_neg (nt c5)]
            rcases bt (decide ((op : Int) ≤ 69)) with c6 | c6
            · rw [if_pos c6]
              exact fn_of_x hG hM Try.func23 (by kernel_rfl) (by kernel_rfl) 400 [.no, .no, .no, .no, .no, .yes] (J c1 (J c2 (J c3 (J c4 (J c5 (J c6 trivial)))))) (by kernel_rfl)
            · rw [if_neg (nt c6)]
              exact fn_of_x hG hM Try.func23 (by kernel_rfl) (by kernel_rfl) 400 [.no, .no, .no, .no, .no, .no] (J c1 (J c2 (J c3 (J c4 (J c5 (J c6 trivial)))))) (by kernel_rfl)

theorem aKind_w (op : Int) (w_op : rng 256 op) : rng 256 (aKind op) := by
  unfold aKind
  rcases bt (decide ((op : Int) ≤ 18)) with c1 | c1
  · rw [if_pos c1]
    exact (by decide : rng 256 1)
  · rw [if_neg (nt c1)]
    rcases bt (decide ((op : Int) ≤ 30)) with c2 | c2
    · rw [if_pos c2]
      exact (by decide : rng 256 2)
    · rw [if_neg (nt c2)]
      rcases bt (decide ((op : Int) ≤ 34)) with c3 | c3
      · rw [if_pos c3]
        exact (by decide : rng 256 3)
      · rw [if_neg (nt c3)]
        rcases bt (decide ((op : Int) ≤ 51)) with c4 | c4
        · rw [if_pos c4]
          exact (by decide : rng 256 4)
        · rw [if_neg (nt c4)]
          rcases bt (decide ((op : Int) ≤ 59)) with c5 | c5
          · rw [if_pos c5]
            exact (by decide : rng 256 5)
          · rw [if_neg (nt c5)]
            rcases bt (decide ((op : Int) ≤ 69)) with c6 | c6
            · rw [if_pos c6]
              exact (by decide : rng 256 6)
            · rw [if_neg (nt c6)]
              exact (by decide : rng 256 0)

theorem rKinds_p1  : FnSpec Try.prog 33 1000 [] [] (.func (.yield 1) ⟨[.int .i64 19, .int .i64 12, .int .i64 4, .int .i64 17, .int .i64 8, .int .i64 10]⟩ ⟨[.bool true]⟩) [] := by
  exact fn_of_f hG hM Try.func33 (by kernel_rfl) (by kernel_rfl) 400 [] [1000] trivial (by kernel_rfl)

/-- kotatsu/kotatsuref08.Kind -/
def rKind (op : Int) : Int :=
  if (decide ((op : Int) < 19)) = true then
    1
  else
    if (decide (((IntKind.i64.wrap (op - 19)) : Int) < 12)) = true then
      2
    else
      if (decide (((IntKind.i64.wrap ((IntKind.i64.wrap (op - 19)) - 12)) : Int) < 4)) = true then
        3
      else
        if (decide (((IntKind.i64.wrap ((IntKind.i64.wrap ((IntKind.i64.wrap (op - 19)) - 12)) - 4)) : Int) < 17)) = true then
          4
        else
          if (decide (((IntKind.i64.wrap ((IntKind.i64.wrap ((IntKind.i64.wrap ((IntKind.i64.wrap (op - 19)) - 12)) - 4)) - 17)) : Int) < 8)) = true then
            5
          else
            if (decide (((IntKind.i64.wrap ((IntKind.i64.wrap ((IntKind.i64.wrap ((IntKind.i64.wrap ((IntKind.i64.wrap (op - 19)) - 12)) - 4)) - 17)) - 8)) : Int) < 10)) = true then
              6
            else
              0
theorem rKind_ok (op : Int) : FnSpec Try.prog 16 1000 [.int .i64 op] [] (.int .i64 (rKind op)) [] := by
  unfold rKind
  rcases bt (decide ((op : Int) < 19)) with c1 | c1
  · rw [if_pos c1]
    exact fn_of_x hG hM Try.func16 (by kernel_rfl) (by kernel_rfl) 400 [.call [] [] 1000 (.func (.yield 1) ⟨[.int .i64 19, .int .i64 12, .int .i64 4, .int .i64 17, .int .i64 8, .int .i64 10]⟩ ⟨[.bool true]⟩) [], .unroll, .yes, .lit 0, .yes] (J (rKinds_p1) (J (Eq.refl true) (J (Eq.refl true) (J (Eq.refl true) (J (Eq.refl (0 : Int)) (J c1 trivial)))))) (by kernel_rfl)
  · rw [if_neg (nt c1)]
    rcases bt (decide (((IntKind.i64.wrap (op - 19)) : Int) < 12)) with c2 | c2
    · rw [if_pos c2]
      exact fn_of_x hG hM Try.func16 (by kernel_rfl) (by kernel_rfl) 400 [.call [] [] 1000 (.func (.yield 1) ⟨[.int .i64 19, .int .i64 12, .int .i64 4, .int .i64 17, .int .i64 8, .int .i64 10]⟩ ⟨[.bool true]⟩) [], .unroll, .yes, .lit 0, .no, .unroll, .yes, .lit 1, .yes] (J (rKinds_p1) (J (Eq.refl true) (J (Eq.refl true) (J (Eq.refl true) (J (Eq.refl (0 : Int)) (J c1 (J (Eq.refl true) (J (Eq.refl true) (J (Eq.refl (1 : Int)) (J c2 trivial)))))))))) (by kernel_rfl)
    · rw [if_neg (nt c2)]
      rcases bt (decide (((IntKind.i64.wrap ((IntKind.i64.wrap (op - 19)) - 12)) : Int) < 4)) with c3 | c3
      · rw [if_pos c3]
        exact fn_of_x hG hM Try.func16 (by kernel_rfl) (by kernel_rfl) 400 [.call [] [] 1000 (.func (.yield 1) ⟨[.int .i64 19, .int .i64 12, .int .i64 4, .int .i64 17, .int .i64 8, .int .i64 10]⟩ ⟨[.bool true]⟩) [], .unroll, .yes, .lit 0, .no, .unroll, .yes, .lit 1, .no, .unroll, .yes, .lit 2, .yes] (J (rKinds_p1) (J (Eq.refl true) (J (Eq.refl true) (J (Eq.refl true) (J (Eq.refl (0 : Int)) (J c1 (J (Eq.refl true) (J (Eq.refl true) (J (Eq.refl (1 : Int)) (J c2 (J (Eq.refl true) (J (Eq.refl true) (J (Eq.refl (2 : Int)) (J c3 trivial)))))))))))))) (by kernel_rfl)
      · rw [if_neg (nt c3)]
        rcases bt (decide (((IntKind.i64.wrap ((IntKind.i64.wrap ((IntKind.i64.wrap (op - 19)) - 12)) - 4)) : Int) < 17)) with c4 | c4
        · rw [if_pos c4]
          exact fn_of_x hG hM Try.func16 (by kernel_rfl) (by kernel_rfl) 400 [.call [] [] 1000 (.func (.yield 1) ⟨[.int .i64 19, .int .i64 12, .int .i64 4, .int .i64 17, .int .i64 8, .int .i64 10]⟩ ⟨[.bool true]⟩) [], .unroll, .yes, .lit 0, .no, .unroll, .yes, .lit 1, .no, .unroll, .yes, .lit 2, .no, .unroll, .yes, .lit 3, .yes] (J (rKinds_p1) (J (Eq.refl true) (J (Eq.refl true) (J (Eq.refl true) (J (Eq.refl (0 : Int)) (J c1 (J (Eq.refl true) (J (Eq.refl true) (J (Eq.refl (1 : Int)) (J c2 (J (Eq.refl true) (J (Eq.refl true) (J (Eq.refl (2 : Int)) (J c3 (J (Eq.refl true) (J (Eq.refl true) (J (Eq.refl (3 : Int)) (J c4 trivial)))))))))))))))))) (by kernel_rfl)
        · rw [if_neg (nt c4)]
          rcases bt (decide (((IntKind.i64.wrap ((IntKind.i64.wrap ((IntKind.i64.wrap ((IntKind.i64.wrap (op - 19)) - 12)) - 4)) - 17)) : Int) < 8)) with c5 | c5
          · rw [if_pos c5]
            exact fn_of_x hG hM Try.func16 (by kernel_rfl) (by kernel_rfl) 400 [.call [] [] 1000 (.func (.yield 1) ⟨[.int .i64 19, .int .i64 12, .int .i64 4, .int .i64 17, .int .i64 8, .int .i64 10]⟩ ⟨[.bool true]⟩) [], .unroll, .yes, .lit 0, .no, .unroll, .yes, .lit 1, .no, .unroll, .yes, .lit 2, .no, .unroll, .yes, .lit 3, .no, .unroll, .yes, .lit 4, .yes] (J (rKinds_p1) (J (Eq.refl true) (J (Eq.refl true) (J (Eq.refl true) (J (Eq.refl (0 : Int)) (J c1 (J (Eq.refl true) (J (Eq.refl true) (J (Eq.refl (1 : Int)) (J c2 (J (Eq.refl true) (J (Eq.refl true) (J (Eq.refl (2 : Int)) (J c3 (J (Eq.refl true) (J (Eq.refl true) (J (Eq.refl (3 : Int)) (J c4 (J (Eq.refl true) (J (Eq.refl true) (J (Eq.refl (4 : Int)) (J c5 trivial)))))))))))))))))))))) (by kernel_rfl)
          · rw [if_neg (nt c5)]
            rcases bt (decide (((IntKind.i64.wrap ((IntKind.i64.wrap ((IntKind.i64.wrap ((IntKind.i64.wrap ((IntKind.i64.wrap (op - 19)) - 12)) - 4)) - 17)) - 8)) : Int) < 10)) with c6 | c6
            · rw [if_pos c6]
              exact fn_of_x hG hM Try.func16 (by kernel_rfl) (by kernel_rfl) 400 [.call [] [] 1000 (.func (.yield 1) ⟨[.int .i64 19, .int .i64 12, .int .i64 4, .int .i64 17, .int .i64 8, .int .i64 10]⟩ ⟨[.bool true]⟩) [], .unroll, .yes, .lit 0, .no, .unroll, .yes, .lit 1, .no, .unroll, .yes, .lit 2, .no, .unroll, .yes, .lit 3, .no, .unroll, .yes, .lit 4, .no, .unroll, .yes, .lit 5, .yes] (J (rKinds_p1) (J (Eq.refl true) (J (Eq.refl true) (J (Eq.refl true) (J (Eq.refl (0 : Int)) (J c1 (J (Eq.refl true) (J (Eq.refl true) (J (Eq.refl (1 : Int)) (J c2 (J (Eq.refl true) (J (Eq.refl true) (J (Eq.refl (2 : Int)) (J c3 (J (Eq.refl true) (J (Eq.refl true) (J (Eq.refl (3 : Int)) (J c4 (J (Eq.refl true) (J (Eq.refl true) (J (Eq.refl (4 : Int)) (J c5 (J (Eq.refl true) (J (Eq.refl true) (J (Eq.refl (5 : Int)) (J c6 trivial)))))))))))))))))))))))))) (by kernel_rfl)
            · rw [if_neg (nt c6)]
              exact fn_of_x hG hM Try.func16 (by kernel_rfl) (by kernel_rfl) 400 [.call [] [] 1000 (.func (.yield 1) ⟨[.int .i64 19, .int .i64 12, .int .i64 4, .int .i64 17, .int .i64 8, .int .i64 10]⟩ ⟨[.bool true]⟩) [], .unroll, .yes, .lit 0, .no, .unroll, .yes, .lit 1, .no, .unroll, .yes, .lit 2, .no, .unroll, .yes, .lit 3, .no, .unroll, .yes, .lit 4, .no, .unroll, .yes, .lit 5, .no, .unroll, .no] (J (rKinds_p1) (J (Eq.refl true) (J (Eq.refl true) (J (Eq.refl true) (J (Eq.refl (0 : Int)) (J c1 (J (Eq.refl true) (J (Eq.refl true) (J (Eq.refl (1 : Int)) (J c2 (J (Eq.refl true) (J (Eq.refl true) (J (Eq.refl (2 : Int)) (J c3 (J (Eq.refl true) (J (Eq.refl true) (J (Eq.refl (3 : Int)) (J c4 (J (Eq.refl true) (J (Eq.refl true) (J (Eq.refl (4 : Int)) (J c5 (J (Eq.refl true) (J (Eq.refl true) (J (Eq.refl (5 : Int)) (J c6 (J (Eq.refl false) trivial))))))))))))))))))))))))))) (by kernel_rfl)

structure Unit where
  A : Int
  X : Int
  Y : Int
  S : Int
  P : Int
def Unit.enc (s : Unit) : Value := .agg ⟨[.int .u8 s.A, .int .u8 s.X, .int .u8 s.Y, .int .u8 s.S, .int .u8 s.P]⟩
def Unit.blk (s : Unit) : Blk := ⟨[.one (.int .u8 s.A), .one (.int .u8 s.X), .one (.int .u8 s.Y), .one (.int .u8 s.S), .one (.int .u8 s.P)], 23, false⟩
def Unit.cells (s : Unit) : List Value := [.int .u8 s.A, .int .u8 s.X, .int .u8 s.Y, .int .u8 s.S, .int .u8 s.P]
structure Unit.ok (s : Unit) : Prop where
  A : rng 256 s.A
  X : rng 256 s.X
  Y : rng 256 s.Y
  S : rng 256 s.S
  P : rng 256 s.P

/-- (kotatsu/alu.Unit).Flag -/
def fl_a  : Unit :=
  ({ A := 80, X := 0, Y := 0, S := 0, P := 0 } : Unit)
theorem fl_a_ok  : FnSpec Try.prog 20 1000 [.agg ⟨[.int .u8 80, .int .u8 0, .int .u8 0, .int .u8 0, .int .u8 0]⟩, .int .u8 1, .bool false] [] (Unit.enc fl_a) [] := by
  unfold fl_a
  exact fn_of_x hG hM Try.func20 (by kernel_rfl) (by kernel_rfl) 400 [.no] (J (Eq.refl false) trivial) (by kernel_rfl)

theorem fl_a_w  : Unit.ok fl_a := by
  unfold fl_a
  exact (⟨(by decide : rng 256 80), (by decide : rng 256 0), (by decide : rng 256 0), (by decide : rng 256 0), (by decide : rng 256 0)⟩ : Unit.ok ({ A := 80, X := 0, Y := 0, S := 0, P := 0 } : Unit))

/-- (kotatsu/alu.Unit).Flag -/
def fl_b  : Unit :=
  ({ A := 80, X := 0, Y := 0, S := 0, P := 64 } : Unit)
theorem fl_b_ok  : FnSpec Try.prog 20 1000 [.agg ⟨[.int .u8 80, .int .u8 0, .int .u8 0, .int .u8 0, .int .u8 0]⟩, .int .u8 64, .bool true] [] (Unit.enc fl_b) [] := by
  unfold fl_b
  exact fn_of_x hG hM Try.func20 (by kernel_rfl) (by kernel_rfl) 400 [.yes] (J (Eq.refl true) trivial) (by kernel_rfl)

theorem fl_b_w  : Unit.ok fl_b := by
  unfold fl_b
  exact (⟨(by decide : rng 256 80), (by decide : rng 256 0), (by decide : rng 256 0), (by decide : rng 256 0), (by decide : rng 256 64)⟩ : Unit.ok ({ A := 80, X := 0, Y := 0, S := 0, P := 64 } : Unit))

/-- (kotatsu/alu.Unit).Flag -/
def fl_c  : Unit :=
  ({ A := 160, X := 0, Y := 0, S := 0, P := 192 } : Unit)
theorem fl_c_ok  : FnSpec Try.prog 20 1000 [.agg ⟨[.int .u8 160, .int .u8 0, .int .u8 0, .int .u8 0, .int .u8 64]⟩, .int .u8 128, .bool true] [] (Unit.enc fl_c) [] := by
  unfold fl_c
  exact fn_of_x hG hM Try.func20 (by kernel_rfl) (by kernel_rfl) 400 [.yes] (J (Eq.refl true) trivial) (by kernel_rfl)

theorem fl_c_w  : Unit.ok fl_c := by
  unfold fl_c
  exact (⟨(by decide : rng 256 160), (by decide : rng 256 0), (by decide : rng 256 0), (by decide : rng 256 0), (by decide : rng 256 192)⟩ : Unit.ok ({ A := 160, X := 0, Y := 0, S := 0, P := 192 } : Unit))

/-- (kotatsu/alu.Unit).Flag -/
def fl_d  : Unit :=
  ({ A := 160, X := 0, Y := 0, S := 0, P := 192 } : Unit)
theorem fl_d_ok  : FnSpec Try.prog 20 1000 [.agg ⟨[.int .u8 160, .int .u8 0, .int .u8 0, .int .u8 0, .int .u8 192]⟩, .int .u8 2, .bool false] [] (Unit.enc fl_d) [] := by
  unfold fl_d
  exact fn_of_x hG hM Try.func20 (by kernel_rfl) (by kernel_rfl) 400 [.no] (J (Eq.refl false) trivial) (by kernel_rfl)

theorem fl_d_w  : Unit.ok fl_d := by
  unfold fl_d
  exact (⟨(by decide : rng 256 160), (by decide : rng 256 0), (by decide : rng 256 0), (by decide : rng 256 0), (by decide : rng 256 192)⟩ : Unit.ok ({ A := 160, X := 0, Y := 0, S := 0, P := 192 } : Unit))

/-- (kotatsu/alu.Unit).sign -/
def sg  : Unit :=
  ({ A := 160, X := 0, Y := 0, S := 0, P := 192 } : Unit)
theorem sg_ok  : FnSpec Try.prog 77 1000 [.agg ⟨[.int .u8 160, .int .u8 0, .int .u8 0, .int .u8 0, .int .u8 64]⟩, .int .u8 160] [] (Unit.enc sg) [] := by
  unfold sg
  exact fn_of_x hG hM Try.func77 (by kernel_rfl) (by kernel_rfl) 400 [.call [] [] 1000 (.agg ⟨[.int .u8 160, .int .u8 0, .int .u8 0, .int .u8 0, .int .u8 192]⟩) [], .call [] [] 1000 (.agg ⟨[.int .u8 160, .int .u8 0, .int .u8 0, .int .u8 0, .int .u8 192]⟩) []] (J (fl_c_ok) (J (fl_d_ok) trivial)) (by kernel_rfl)

theorem sg_w  : Unit.ok sg := by
  unfold sg
  exact (⟨(by decide : rng 256 160), (by decide : rng 256 0), (by decide : rng 256 0), (by decide : rng 256 0), (by decide : rng 256 192)⟩ : Unit.ok ({ A := 160, X := 0, Y := 0, S := 0, P := 192 } : Unit))

/-- (kotatsu/alu.Unit).load -/
def ld  : Unit :=
  ({ A := 160, X := 0, Y := 0, S := 0, P := 192 } : Unit)
theorem ld_ok  : FnSpec Try.prog 56 1000 [.agg ⟨[.int .u8 80, .int .u8 0, .int .u8 0, .int .u8 0, .int .u8 64]⟩, .int .u8 160] [] (Unit.enc ld) [] := by
  unfold ld
  exact fn_of_x hG hM Try.func56 (by kernel_rfl) (by kernel_rfl) 400 [.call [] [] 1000 (.agg ⟨[.int .u8 160, .int .u8 0, .int .u8 0, .int .u8 0, .int .u8 192]⟩) []] (J (sg_ok) trivial) (by kernel_rfl)

theorem ld_w  : Unit.ok ld := by
  unfold ld
  exact (⟨(by decide : rng 256 160), (by decide : rng 256 0), (by decide : rng 256 0), (by decide : rng 256 0), (by decide : rng 256 192)⟩ : Unit.ok ({ A := 160, X := 0, Y := 0, S := 0, P := 192 } : Unit))

/-- (kotatsu/alu.Unit).adc -/
def ad  : Unit :=
  ({ A := 160, X := 0, Y := 0, S := 0, P := 192 } : Unit)
theorem ad_ok  : FnSpec Try.prog 64 1000 [.agg ⟨[.int .u8 80, .int .u8 0, .int .u8 0, .int .u8 0, .int .u8 0]⟩, .int .u8 80] [] (Unit.enc ad) [] := by
  unfold ad
  exact fn_of_x hG hM Try.func64 (by kernel_rfl) (by kernel_rfl) 400 [.call [] [] 1000 (.agg ⟨[.int .u8 80, .int .u8 0, .int .u8 0, .int .u8 0, .int .u8 0]⟩) [], .call [] [] 1000 (.agg ⟨[.int .u8 80, .int .u8 0, .int .u8 0, .int .u8 0, .int .u8 64]⟩) [], .call [] [] 1000 (.agg ⟨[.int .u8 160, .int .u8 0, .int .u8 0, .int .u8 0, .int .u8 192]⟩) []] (J (fl_a_ok) (J (fl_b_ok) (J (ld_ok) trivial))) (by kernel_rfl)

theorem ad_w  : Unit.ok ad := by
  unfold ad
  exact (⟨(by decide : rng 256 160), (by decide : rng 256 0), (by decide : rng 256 0), (by decide : rng 256 0), (by decide : rng 256 192)⟩ : Unit.ok ({ A := 160, X := 0, Y := 0, S := 0, P := 192 } : Unit))

theorem rds_p1  : FnSpec Try.prog 40 1000 [] [] (.func (.yield 1) ⟨[.func (.func 60) ⟨[]⟩ ⟨[]⟩, .func (.func 61) ⟨[]⟩ ⟨[]⟩, .func (.func 62) ⟨[]⟩ ⟨[]⟩, .func (.func 63) ⟨[]⟩ ⟨[]⟩, .func (.func 64) ⟨[]⟩ ⟨[]⟩, .func (.func 65) ⟨[]⟩ ⟨[]⟩, .func (.func 66) ⟨[]⟩ ⟨[]⟩, .func (.func 67) ⟨[]⟩ ⟨[]⟩, .func (.func 68) ⟨[]⟩ ⟨[]⟩, .func (.func 56) ⟨[]⟩ ⟨[]⟩, .func (.func 54) ⟨[]⟩ ⟨[]⟩, .func (.func 55) ⟨[]⟩ ⟨[]⟩, .func (.func 69) ⟨[]⟩ ⟨[]⟩, .func (.func 70) ⟨[]⟩ ⟨[]⟩, .func (.func 71) ⟨[]⟩ ⟨[]⟩, .func (.func 72) ⟨[]⟩ ⟨[]⟩, .func (.func 73) ⟨[]⟩ ⟨[]⟩, .func (.func 74) ⟨[]⟩ ⟨[]⟩, .func (.func 75) ⟨[]⟩ ⟨[]⟩]⟩ ⟨[.bool true]⟩) [] := by
  exact fn_of_f hG hM Try.func40 (by kernel_rfl) (by kernel_rfl) 400 [] [1000] trivial (by kernel_rfl)

/-- kotatsu/alu.Kind -/
def aKind4  : Int :=
  1
theorem aKind4_ok  : FnSpec Try.prog 23 1000 [.int .u8 4] [] (.int .u8 aKind4) [] := by
  unfold aKind4
  exact fn_of_x hG hM Try.func23 (by kernel_rfl) (by kernel_rfl) 400 [.yes] (J (Eq.refl true) trivial) (by kernel_rfl)

theorem aKind4_w  : rng 256 aKind4 := by
  unfold aKind4
  exact (by decide : rng 256 1)

/-- (kotatsu/alu.Unit).Read -/
def rd  : Unit :=
  ({ A := 160, X := 0, Y := 0, S := 0, P := 192 } : Unit)
theorem rd_ok  : FnSpec Try.prog 19 1000 [.agg ⟨[.int .u8 80, .int .u8 0, .int .u8 0, .int .u8 0, .int .u8 0]⟩, .int .u8 4, .int .u8 80] [] (Unit.enc rd) [] := by
  unfold rd
  exact fn_of_x hG hM Try.func19 (by kernel_rfl) (by kernel_rfl) 400 [.call [] [] 1000 (.int .u8 1) [], .no, .call [] [] 1000 (.func (.yield 1) ⟨[.func (.func 60) ⟨[]⟩ ⟨[]⟩, .func (.func 61) ⟨[]⟩ ⟨[]⟩, .func (.func 62) ⟨[]⟩ ⟨[]⟩, .func (.func 63) ⟨[]⟩ ⟨[]⟩, .func (.func 64) ⟨[]⟩ ⟨[]⟩, .func (.func 65) ⟨[]⟩ ⟨[]⟩, .func (.func 66) ⟨[]⟩ ⟨[]⟩, .func (.func 67) ⟨[]⟩ ⟨[]⟩, .func (.func 68) ⟨[]⟩ ⟨[]⟩, .func (.func 56) ⟨[]⟩ ⟨[]⟩, .func (.func 54) ⟨[]⟩ ⟨[]⟩, .func (.func 55) ⟨[]⟩ ⟨[]⟩, .func (.func 69) ⟨[]⟩ ⟨[]⟩, .func (.func 70) ⟨[]⟩ ⟨[]⟩, .func (.func 71) ⟨[]⟩ ⟨[]⟩, .func (.func 72) ⟨[]⟩ ⟨[]⟩, .func (.func 73) ⟨[]⟩ ⟨[]⟩, .func (.func 74) ⟨[]⟩ ⟨[]⟩, .func (.func 75) ⟨[]⟩ ⟨[]⟩]⟩ ⟨[.bool true]⟩) [], .lit 4, .call [] [] 1000 (.agg ⟨[.int .u8 160, .int .u8 0, .int .u8 0, .int .u8 0, .int .u8 192]⟩) []] (J (aKind4_ok) (J (Eq.refl false) (J (rds_p1) (J (Eq.refl true) (J (Eq.refl (4 : Int)) (J (ad_ok) trivial)))))) (by kernel_rfl)

theorem rd_w  : Unit.ok rd := by
  unfold rd
  exact (⟨(by decide : rng 256 160), (by decide : rng 256 0), (by decide : rng 256 0), (by decide : rng 256 0), (by decide : rng 256 192)⟩ : Unit.ok ({ A := 160, X := 0, Y := 0, S := 0, P := 192 } : Unit))

/-- kotatsu/kotatsulaw08.awake -/
def awakeF  : Bool :=
  (true && (true && (true && (true && (true && true)))))
theorem awakeF_ok  : FnSpec Try.prog 14 1000 [] [] (.bool awakeF) [] := by
  unfold awakeF
  exact fn_of_x hG hM Try.func14 (by kernel_rfl) (by kernel_rfl) 400 [.call [] [] 1000 (.agg ⟨[.int .u8 160, .int .u8 0, .int .u8 0, .int .u8 0, .int .u8 192]⟩) []] (J (rd_ok) trivial) (by kernel_rfl)

end Go.Proofs.Ytfjeifmenlnkkaa
