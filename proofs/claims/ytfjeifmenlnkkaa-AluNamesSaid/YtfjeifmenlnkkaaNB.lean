/-
  An operation by its letters. Written by gen_names.py. No condition.
-/
import Derived.Test.YtfjeifmenlnkkaaNA
namespace Go.Proofs.Ytfjeifmenlnkkaa
open Go VX
set_option linter.unusedVariables false
set_option linter.unusedSimpArgs false
set_option maxRecDepth 100000

def namesB : List ByteArray := [⟨#[78, 79, 80]⟩, ⟨#[79, 82, 65]⟩, ⟨#[65, 78, 68]⟩, ⟨#[69, 79, 82]⟩, ⟨#[65, 68, 67]⟩, ⟨#[83, 66, 67]⟩, ⟨#[67, 77, 80]⟩, ⟨#[67, 80, 88]⟩, ⟨#[67, 80, 89]⟩, ⟨#[76, 68, 65]⟩, ⟨#[76, 68, 88]⟩, ⟨#[76, 68, 89]⟩, ⟨#[66, 73, 84]⟩, ⟨#[76, 65, 88]⟩, ⟨#[65, 78, 67]⟩, ⟨#[65, 76, 82]⟩, ⟨#[65, 82, 82]⟩, ⟨#[65, 88, 83]⟩, ⟨#[76, 65, 83]⟩, ⟨#[65, 83, 76]⟩, ⟨#[76, 83, 82]⟩, ⟨#[82, 79, 76]⟩, ⟨#[82, 79, 82]⟩, ⟨#[73, 78, 67]⟩, ⟨#[68, 69, 67]⟩, ⟨#[83, 76, 79]⟩, ⟨#[82, 76, 65]⟩, ⟨#[83, 82, 69]⟩, ⟨#[82, 82, 65]⟩, ⟨#[68, 67, 80]⟩, ⟨#[73, 83, 67]⟩, ⟨#[83, 84, 65]⟩, ⟨#[83, 84, 88]⟩, ⟨#[83, 84, 89]⟩, ⟨#[83, 65, 88]⟩, ⟨#[84, 65, 88]⟩, ⟨#[84, 65, 89]⟩, ⟨#[84, 88, 65]⟩, ⟨#[84, 89, 65]⟩, ⟨#[84, 83, 88]⟩, ⟨#[84, 88, 83]⟩, ⟨#[73, 78, 88]⟩, ⟨#[73, 78, 89]⟩, ⟨#[68, 69, 88]⟩, ⟨#[68, 69, 89]⟩, ⟨#[67, 76, 67]⟩, ⟨#[83, 69, 67]⟩, ⟨#[67, 76, 73]⟩, ⟨#[83, 69, 73]⟩, ⟨#[67, 76, 86]⟩, ⟨#[67, 76, 68]⟩, ⟨#[83, 69, 68]⟩, ⟨#[66, 80, 76]⟩, ⟨#[66, 77, 73]⟩, ⟨#[66, 86, 67]⟩, ⟨#[66, 86, 83]⟩, ⟨#[66, 67, 67]⟩, ⟨#[66, 67, 83]⟩, ⟨#[66, 78, 69]⟩, ⟨#[66, 69, 81]⟩, ⟨#[74, 77, 80]⟩, ⟨#[74, 83, 82]⟩, ⟨#[82, 84, 83]⟩, ⟨#[82, 84, 73]⟩, ⟨#[66, 82, 75]⟩, ⟨#[80, 72, 65]⟩, ⟨#[80, 72, 80]⟩, ⟨#[80, 76, 65]⟩, ⟨#[80, 76, 80]⟩, ⟨#[74, 65, 77]⟩]
def nameB (op : Int) : ByteArray := if 0 ≤ op ∧ op ≤ 69 then namesB.getD op.toNat ⟨#[]⟩ else ⟨#[]⟩
theorem aNameB_ok (op : Int) (hop : 0 ≤ op ∧ op < 256) : FnSpec Try.prog 22 1000 [.int .u8 op] [] (.string (nameB op)) [] := by
  rcases (show op = 0 ∨ op = 1 ∨ op = 2 ∨ op = 3 ∨ op = 4 ∨ op = 5 ∨ op = 6 ∨ op = 7 ∨ op = 8 ∨ op = 9 ∨ op = 10 ∨ op = 11 ∨ op = 12 ∨ op = 13 ∨ op = 14 ∨ op = 15 ∨ op = 16 ∨ op = 17 ∨ op = 18 ∨ op = 19 ∨ op = 20 ∨ op = 21 ∨ op = 22 ∨ op = 23 ∨ op = 24 ∨ op = 25 ∨ op = 26 ∨ op = 27 ∨ op = 28 ∨ op = 29 ∨ op = 30 ∨ op = 31 ∨ op = 32 ∨ op = 33 ∨ op = 34 ∨ op = 35 ∨ op = 36 ∨ op = 37 ∨ op = 38 ∨ op = 39 ∨ op = 40 ∨ op = 41 ∨ op = 42 ∨ op = 43 ∨ op = 44 ∨ op = 45 ∨ op = 46 ∨ op = 47 ∨ op = 48 ∨ op = 49 ∨ op = 50 ∨ op = 51 ∨ op = 52 ∨ op = 53 ∨ op = 54 ∨ op = 55 ∨ op = 56 ∨ op = 57 ∨ op = 58 ∨ op = 59 ∨ op = 60 ∨ op = 61 ∨ op = 62 ∨ op = 63 ∨ op = 64 ∨ op = 65 ∨ op = 66 ∨ op = 67 ∨ op = 68 ∨ op = 69 ∨ 69 < op by omega) with h | h | h | h | h | h | h | h | h | h | h | h | h | h | h | h | h | h | h | h | h | h | h | h | h | h | h | h | h | h | h | h | h | h | h | h | h | h | h | h | h | h | h | h | h | h | h | h | h | h | h | h | h | h | h | h | h | h | h | h | h | h | h | h | h | h | h | h | h | h | h
  · subst h; exact aName_0_ok
  · subst h; exact aName_1_ok
  · subst h; exact aName_2_ok
  · subst h; exact aName_3_ok
  · subst h; exact aName_4_ok
  · subst h; exact aName_5_ok
  · subst h; exact aName_6_ok
  · subst h; exact aName_7_ok
  · subst h; exact aName_8_ok
  · subst h; exact aName_9_ok
  · subst h; exact aName_10_ok
  · subst h; exact aName_11_ok
  · subst h; exact aName_12_ok
  · subst h; exact aName_13_ok
  · subst h; exact aName_14_ok
  · subst h; exact aName_15_ok
  · subst h; exact aName_16_ok
  · subst h; exact aName_17_ok
  · subst h; exact aName_18_ok
  · subst h; exact aName_19_ok
  · subst h; exact aName_20_ok
  · subst h; exact aName_21_ok
  · subst h; exact aName_22_ok
  · subst h; exact aName_23_ok
  · subst h; exact aName_24_ok
  · subst h; exact aName_25_ok
  · subst h; exact aName_26_ok
  · subst h; exact aName_27_ok
  · subst h; exact aName_28_ok
  · subst h; exact aName_29_ok
  · subst h; exact aName_30_ok
  · subst h; exact aName_31_ok
  · subst h; exact aName_32_ok
  · subst h; exact aName_33_ok
  · subst h; exact aName_34_ok
  · subst h; exact aName_35_ok
  · subst h; exact aName_36_ok
  · subst h; exact aName_37_ok
  · subst h; exact aName_38_ok
  · subst h; exact aName_39_ok
  · subst h; exact aName_40_ok
  · subst h; exact aName_41_ok
  · subst h; exact aName_42_ok
  · subst h; exact aName_43_ok
  · subst h; exact aName_44_ok
  · subst h; exact aName_45_ok
  · subst h; exact aName_46_ok
  · subst h; exact aName_47_ok
  · subst h; exact aName_48_ok
  · subst h; exact aName_49_ok
  · subst h; exact aName_50_ok
  · subst h; exact aName_51_ok
  · subst h; exact aName_52_ok
  · subst h; exact aName_53_ok
  · subst h; exact aName_54_ok
  · subst h; exact aName_55_ok
  · subst h; exact aName_56_ok
  · subst h; exact aName_57_ok
  · subst h; exact aName_58_ok
  · subst h; exact aName_59_ok
  · subst h; exact aName_60_ok
  · subst h; exact aName_61_ok
  · subst h; exact aName_62_ok
  · subst h; exact aName_63_ok
  · subst h; exact aName_64_ok
  · subst h; exact aName_65_ok
  · subst h; exact aName_66_ok
  · subst h; exact aName_67_ok
  · subst h; exact aName_68_ok
  · subst h; exact aName_69_ok
  · have e : nameB op = ⟨#[]⟩ := by unfold nameB; rw [if_neg (by omega)]
    rw [e]; exact aName_no_ok op (by simpa using h)
theorem rNameB_ok (op : Int) (hop : 0 ≤ op ∧ op < 256) : FnSpec Try.prog 18 1000 [.int .i64 op] [] (.string (nameB op)) [] := by
  rcases (show op = 0 ∨ op = 1 ∨ op = 2 ∨ op = 3 ∨ op = 4 ∨ op = 5 ∨ op = 6 ∨ op = 7 ∨ op = 8 ∨ op = 9 ∨ op = 10 ∨ op = 11 ∨ op = 12 ∨ op = 13 ∨ op = 14 ∨ op = 15 ∨ op = 16 ∨ op = 17 ∨ op = 18 ∨ op = 19 ∨ op = 20 ∨ op = 21 ∨ op = 22 ∨ op = 23 ∨ op = 24 ∨ op = 25 ∨ op = 26 ∨ op = 27 ∨ op = 28 ∨ op = 29 ∨ op = 30 ∨ op = 31 ∨ op = 32 ∨ op = 33 ∨ op = 34 ∨ op = 35 ∨ op = 36 ∨ op = 37 ∨ op = 38 ∨ op = 39 ∨ op = 40 ∨ op = 41 ∨ op = 42 ∨ op = 43 ∨ op = 44 ∨ op = 45 ∨ op = 46 ∨ op = 47 ∨ op = 48 ∨ op = 49 ∨ op = 50 ∨ op = 51 ∨ op = 52 ∨ op = 53 ∨ op = 54 ∨ op = 55 ∨ op = 56 ∨ op = 57 ∨ op = 58 ∨ op = 59 ∨ op = 60 ∨ op = 61 ∨ op = 62 ∨ op = 63 ∨ op = 64 ∨ op = 65 ∨ op = 66 ∨ op = 67 ∨ op = 68 ∨ op = 69 ∨ 69 < op by omega) with h | h | h | h | h | h | h | h | h | h | h | h | h | h | h | h | h | h | h | h | h | h | h | h | h | h | h | h | h | h | h | h | h | h | h | h | h | h | h | h | h | h | h | h | h | h | h | h | h | h | h | h | h | h | h | h | h | h | h | h | h | h | h | h | h | h | h | h | h | h | h
  · subst h; exact rName_0_ok
  · subst h; exact rName_1_ok
  · subst h; exact rName_2_ok
  · subst h; exact rName_3_ok
  · subst h; exact rName_4_ok
  · subst h; exact rName_5_ok
  · subst h; exact rName_6_ok
  · subst h; exact rName_7_ok
  · subst h; exact rName_8_ok
  · subst h; exact rName_9_ok
  · subst h; exact rName_10_ok
  · subst h; exact rName_11_ok
  · subst h; exact rName_12_ok
  · subst h; exact rName_13_ok
  · subst h; exact rName_14_ok
  · subst h; exact rName_15_ok
  · subst h; exact rName_16_ok
  · subst h; exact rName_17_ok
  · subst h; exact rName_18_ok
  · subst h; exact rName_19_ok
  · subst h; exact rName_20_ok
  · subst h; exact rName_21_ok
  · subst h; exact rName_22_ok
  · subst h; exact rName_23_ok
  · subst h; exact rName_24_ok
  · subst h; exact rName_25_ok
  · subst h; exact rName_26_ok
  · subst h; exact rName_27_ok
  · subst h; exact rName_28_ok
  · subst h; exact rName_29_ok
  · subst h; exact rName_30_ok
  · subst h; exact rName_31_ok
  · subst h; exact rName_32_ok
  · subst h; exact rName_33_ok
  · subst h; exact rName_34_ok
  · subst h; exact rName_35_ok
  · subst h; exact rName_36_ok
  · subst h; exact rName_37_ok
  · subst h; exact rName_38_ok
  · subst h; exact rName_39_ok
  · subst h; exact rName_40_ok
  · subst h; exact rName_41_ok
  · subst h; exact rName_42_ok
  · subst h; exact rName_43_ok
  · subst h; exact rName_44_ok
  · subst h; exact rName_45_ok
  · subst h; exact rName_46_ok
  · subst h; exact rName_47_ok
  · subst h; exact rName_48_ok
  · subst h; exact rName_49_ok
  · subst h; exact rName_50_ok
  · subst h; exact rName_51_ok
  · subst h; exact rName_52_ok
  · subst h; exact rName_53_ok
  · subst h; exact rName_54_ok
  · subst h; exact rName_55_ok
  · subst h; exact rName_56_ok
  · subst h; exact rName_57_ok
  · subst h; exact rName_58_ok
  · subst h; exact rName_59_ok
  · subst h; exact rName_60_ok
  · subst h; exact rName_61_ok
  · subst h; exact rName_62_ok
  · subst h; exact rName_63_ok
  · subst h; exact rName_64_ok
  · subst h; exact rName_65_ok
  · subst h; exact rName_66_ok
  · subst h; exact rName_67_ok
  · subst h; exact rName_68_ok
  · subst h; exact rName_69_ok
  · have e : nameB op = ⟨#[]⟩ := by unfold nameB; rw [if_neg (by omega)]
    rw [e]; exact rName_no_ok op (by simp; omega) (by simp; omega)
abbrev aNameB := nameB
abbrev rNameB := nameB

/-- a loop of kotatsu/alu.Find: one round -/
inductive aFind_L1 (name : ByteArray) (xd : Int × Int × Bool) : (Int × Int × Bool) ⊕ ((Int × Int × Bool) ⊕ (Int × Bool)) → Prop
  | p1 (d1 : (decide ((xd.1 : Int) < 70)) = true) (w1d : 0 ≤ (IntKind.u8.wrap xd.1) ∧ (IntKind.u8.wrap xd.1) < 256) (d2 : (ByteArray.toList (aNameB (IntKind.u8.wrap xd.1)) == ByteArray.toList name) = true) : aFind_L1 name xd (.inr (.inr ((IntKind.u8.wrap xd.1), true)))
  | p2 (d1 : (decide ((xd.1 : Int) < 70)) = true) (w1d : 0 ≤ (IntKind.u8.wrap xd.1) ∧ (IntKind.u8.wrap xd.1) < 256) (d2 : (ByteArray.toList (aNameB (IntKind.u8.wrap xd.1)) == ByteArray.toList name) = false) : aFind_L1 name xd (.inl ((IntKind.i64.wrap (xd.1 + 1)), xd.2.1, xd.2.2))
  | p3 (d1 : (decide ((xd.1 : Int) < 70)) = false) : aFind_L1 name xd (.inr (.inl (xd.1, xd.2.1, xd.2.2)))
def aFind_L1_T (name : ByteArray) (xd : Int × Int × Bool) : Tm := [(0, .string name), (2, .int .u8 xd.2.1), (3, .bool xd.2.2), (5, .int .i64 xd.1)]
def aFind_L1_H (name : ByteArray) (xd : Int × Int × Bool) : Heap := []
def aFind_L1_T1 (name : ByteArray) : ((Int × Int × Bool) ⊕ (Int × Bool)) → Tm
  | .inl q_ => aFind_L1_T name q_
  | .inr v => [(2, .int .u8 v.1), (3, .bool v.2)]
def aFind_L1_H1 (name : ByteArray) : ((Int × Int × Bool) ⊕ (Int × Bool)) → Heap
  | .inl q_ => aFind_L1_H name q_
  | .inr v => []
def aFind_L1_ex : ((Int × Int × Bool) ⊕ (Int × Bool)) → Ex
  | .inl _ => .exit 0
  | .inr _ => .ret
theorem aFind_L1_p1 (name : ByteArray) (xd : Int × Int × Bool) (d1 : (decide ((xd.1 : Int) < 70)) = true) (w1d : 0 ≤ (IntKind.u8.wrap xd.1) ∧ (IntKind.u8.wrap xd.1) < 256) (d2 : (ByteArray.toList (aNameB (IntKind.u8.wrap xd.1)) == ByteArray.toList name) = true) : Runs Try.prog 16 (bodyOf Try.f21 [1, 0, 1, 0, 0]) (aFind_L1_T name xd) (aFind_L1_H name xd) 1000 .ret (aFind_L1_T1 name (.inr ((IntKind.u8.wrap xd.1), true))) (aFind_L1_H1 name (.inr ((IntKind.u8.wrap xd.1), true))) 1000 := by
  exact runs_of_x hG hM 400 [.yes, .call [] [] 1000 (.string (aNameB (IntKind.u8.wrap xd.1))) [], .yes] (J d1 (J (aNameB_ok (IntKind.u8.wrap xd.1) w1d) (J d2 trivial))) (by kernel_rfl)
theorem aFind_L1_p2 (name : ByteArray) (xd : Int × Int × Bool) (d1 : (decide ((xd.1 : Int) < 70)) = true) (w1d : 0 ≤ (IntKind.u8.wrap xd.1) ∧ (IntKind.u8.wrap xd.1) < 256) (d2 : (ByteArray.toList (aNameB (IntKind.u8.wrap xd.1)) == ByteArray.toList name) = false) : Runs Try.prog 16 (bodyOf Try.f21 [1, 0, 1, 0, 0]) (aFind_L1_T name xd) (aFind_L1_H name xd) 1000 .normal (aFind_L1_T name ((IntKind.i64.wrap (xd.1 + 1)), xd.2.1, xd.2.2)) (aFind_L1_H name ((IntKind.i64.wrap (xd.1 + 1)), xd.2.1, xd.2.2)) 1000 := by
  exact runs_of_x hG hM 400 [.yes, .call [] [] 1000 (.string (aNameB (IntKind.u8.wrap xd.1))) [], .no] (J d1 (J (aNameB_ok (IntKind.u8.wrap xd.1) w1d) (J d2 trivial))) (by kernel_rfl)
theorem aFind_L1_p3 (name : ByteArray) (xd : Int × Int × Bool) (d1 : (decide ((xd.1 : Int) < 70)) = false) : Runs Try.prog 16 (bodyOf Try.f21 [1, 0, 1, 0, 0]) (aFind_L1_T name xd) (aFind_L1_H name xd) 1000 (.exit 0) (aFind_L1_T1 name (.inl (xd.1, xd.2.1, xd.2.2))) (aFind_L1_H1 name (.inl (xd.1, xd.2.1, xd.2.2))) 1000 := by
  exact runs_of_x hG hM 400 [.no] (J d1 trivial) (by kernel_rfl)
theorem aFind_L1_runs (name : ByteArray) (x_ : Int × Int × Bool) (y_ : (Int × Int × Bool) ⊕ (Int × Bool)) (h_ : LoopR (aFind_L1 name) x_ y_) : Runs Try.prog 16 (.block 0 (.loop (bodyOf Try.f21 [1, 0, 1, 0, 0]))) (aFind_L1_T name x_) (aFind_L1_H name x_) 1000 (outOf 0 (aFind_L1_ex y_)) (aFind_L1_T1 name y_) (aFind_L1_H1 name y_) 1000 := by
  refine block_loop (aFind_L1 name) (aFind_L1_T name) (aFind_L1_H name) aFind_L1_ex (aFind_L1_T1 name) (aFind_L1_H1 name) ?_ ?_ ?_ x_ y_ h_
  · intro r hr; cases r <;> cases hr
  · intro xd y_ hx
    cases hx with
    | p2 d1 w1d d2 => exact aFind_L1_p2 name xd d1 w1d d2
  · intro xd y_ hx
    cases hx with
    | p1 d1 w1d d2 => exact aFind_L1_p1 name xd d1 w1d d2
    | p3 d1 => exact aFind_L1_p3 name xd d1

theorem aFind_p1 (name : ByteArray) (r1 : Int × Int × Bool) (l1 : LoopR (aFind_L1 name) (0, 0, false) (.inl r1)) : FnSpec Try.prog 21 1000 [.string name] [] (.tuple ⟨[.int .u8 0, .bool false]⟩) [] := by
  exact fn_of_x hG hM Try.func21 (by kernel_rfl) (by kernel_rfl) 400 [.segk 1 0 [0, 2, 3, 5] [] .normal (aFind_L1_T1 name (.inl r1)) (aFind_L1_H1 name (.inl r1)) 1000] (J (aFind_L1_runs name (0, 0, false) (.inl r1) l1) trivial) (by kernel_rfl)
theorem aFind_p2 (name : ByteArray) (r1 : Int × Bool) (l1 : LoopR (aFind_L1 name) (0, 0, false) (.inr r1)) : FnSpec Try.prog 21 1000 [.string name] [] (.tuple ⟨[.int .u8 r1.1, .bool r1.2]⟩) [] := by
  exact fn_of_x hG hM Try.func21 (by kernel_rfl) (by kernel_rfl) 400 [.segk 1 0 [0, 2, 3, 5] [] .ret (aFind_L1_T1 name (.inr r1)) (aFind_L1_H1 name (.inr r1)) 1000] (J (aFind_L1_runs name (0, 0, false) (.inr r1) l1) trivial) (by kernel_rfl)

def eqB (a b : ByteArray) : Bool := a.toList == b.toList
def findFrom (name : ByteArray) : Nat → Int → Int × Bool
  | 0, _ => (0, false)
  | k + 1, i => if eqB (nameB i) name = true then (i, true) else findFrom name k (i + 1)
def findF (name : ByteArray) : Int × Bool := findFrom name 70 0
theorem i64_id {i : Int} (h : 0 ≤ i ∧ i < 300) : IntKind.i64.wrap i = i := by rw [IntKind.wrap_i64]; omega
theorem u8_id {i : Int} (h : 0 ≤ i ∧ i < 256) : IntKind.u8.wrap i = i := by rw [IntKind.wrap_u8]; omega
theorem find_loop (name : ByteArray) : ∀ (k : Nat) (i : Int) (x : Int × Bool), 0 ≤ i → i + (k : Int) = 70 →
    (∃ r, LoopR (aFind_L1 name) (i, x) (.inl r) ∧ findFrom name k i = (0, false)) ∨ (∃ j, LoopR (aFind_L1 name) (i, x) (.inr (j, true)) ∧ findFrom name k i = (j, true)) := by
  intro k
  induction k with
  | zero =>
    intro i x h0 hi
    exact .inl ⟨_, .last (.p3 (by simp; omega)), rfl⟩
  | succ k ih =>
    intro i x h0 hi
    have hw : IntKind.u8.wrap i = i := u8_id ⟨h0, by omega⟩
    have hw2 : IntKind.i64.wrap (i + 1) = i + 1 := i64_id ⟨by omega, by omega⟩
    have hr : 0 ≤ IntKind.u8.wrap i ∧ IntKind.u8.wrap i < 256 := by rw [hw]; omega
    have hlt : (decide (i < 70)) = true := by simp; omega
    unfold findFrom
    cases he : eqB (nameB i) name with
    | true =>
      rw [if_pos rfl]
      refine .inr ⟨i, .last ?_, rfl⟩
      have := aFind_L1.p1 (name := name) (xd := (i, x)) hlt hr (by simpa [hw, eqB, aNameB] using he)
      simpa [hw] using this
    | false =>
      rw [if_neg (by simp)]
      have st := aFind_L1.p2 (name := name) (xd := (i, x)) hlt hr (by simpa [hw, eqB, aNameB] using he)
      simp only [hw2] at st
      rcases ih (i + 1) x (by omega) (by omega) with ⟨r, h1, h2⟩ | ⟨j, h1, h2⟩
      · exact .inl ⟨r, .more st h1, h2⟩
      · exact .inr ⟨j, .more st h1, h2⟩

theorem findF_ok (name : ByteArray) : FnSpec Try.prog 21 1000 [.string name] [] (.tuple ⟨[.int .u8 ((findF name).1), .bool ((findF name).2)]⟩) [] := by
  unfold findF
  rcases find_loop name 70 0 (0, false) (by omega) (by omega) with ⟨r, h1, h2⟩ | ⟨j, h1, h2⟩
  · rw [h2]; exact aFind_p1 name r h1
  · rw [h2]; exact aFind_p2 name _ h1
/-- a loop of kotatsu/kotatsulaw08.AluNames: one round -/
inductive law7_L1nynnnyn (op : Int) (name : ByteArray) (xd : Int × Bool) : (Int × Bool) ⊕ ((Int × Bool) ⊕ Bool) → Prop
  | p1 (d1 : (decide ((xd.1 : Int) < 70)) = true) (w3d : 0 ≤ xd.1) (d2 : (ByteArray.toList (List.getD namesB (Int.toNat xd.1) ⟨#[]⟩) == ByteArray.toList (ByteArray.extract name 0 (Int.toNat 8))) = true) (d3 : (findF (ByteArray.extract name 0 (Int.toNat 8))).2 = true) : law7_L1nynnnyn op name xd (.inr (.inr (((IntKind.i64.wrap ((findF (ByteArray.extract name 0 (Int.toNat 8))).1)) : Int) == xd.1)))
  | p2 (d1 : (decide ((xd.1 : Int) < 70)) = true) (w3d : 0 ≤ xd.1) (d2 : (ByteArray.toList (List.getD namesB (Int.toNat xd.1) ⟨#[]⟩) == ByteArray.toList (ByteArray.extract name 0 (Int.toNat 8))) = true) (d3 : (findF (ByteArray.extract name 0 (Int.toNat 8))).2 = false) : law7_L1nynnnyn op name xd (.inr (.inr false))
  | p3 (d1 : (decide ((xd.1 : Int) < 70)) = true) (w3d : 0 ≤ xd.1) (d2 : (ByteArray.toList (List.getD namesB (Int.toNat xd.1) ⟨#[]⟩) == ByteArray.toList (ByteArray.extract name 0 (Int.toNat 8))) = false) : law7_L1nynnnyn op name xd (.inl ((IntKind.i64.wrap (xd.1 + 1)), xd.2))
  | p4 (d1 : (decide ((xd.1 : Int) < 70)) = false) : law7_L1nynnnyn op name xd (.inr (.inl (xd.1, xd.2)))
def law7_L1nynnnyn_T (op : Int) (name : ByteArray) (xd : Int × Bool) : Tm := [(1, .string (ByteArray.extract name 0 (Int.toNat 8))), (4, .bool xd.2), (8, .int .u8 ((findF (ByteArray.extract name 0 (Int.toNat 8))).1)), (9, .bool ((findF (ByteArray.extract name 0 (Int.toNat 8))).2)), (59, .func (.yield 1) ⟨namesV⟩ ⟨[.bool true]⟩), (60, .int .i64 70), (61, .int .i64 xd.1)]
def law7_L1nynnnyn_H (op : Int) (name : ByteArray) (xd : Int × Bool) : Heap := []
def law7_L1nynnnyn_T1 (op : Int) (name : ByteArray) : ((Int × Bool) ⊕ Bool) → Tm
  | .inl q_ => law7_L1nynnnyn_T op name q_
  | .inr v => [(4, .bool v)]
def law7_L1nynnnyn_H1 (op : Int) (name : ByteArray) : ((Int × Bool) ⊕ Bool) → Heap
  | .inl q_ => law7_L1nynnnyn_H op name q_
  | .inr v => []
def law7_L1nynnnyn_ex : ((Int × Bool) ⊕ Bool) → Ex
  | .inl _ => .exit 0
  | .inr _ => .ret
theorem law7_L1nynnnyn_p1 (op : Int) (name : ByteArray) (xd : Int × Bool) (d1 : (decide ((xd.1 : Int) < 70)) = true) (w3d : 0 ≤ xd.1) (d2 : (ByteArray.toList (List.getD namesB (Int.toNat xd.1) ⟨#[]⟩) == ByteArray.toList (ByteArray.extract name 0 (Int.toNat 8))) = true) (d3 : (findF (ByteArray.extract name 0 (Int.toNat 8))).2 = true) : Runs Try.prog 83 (bodyOf Try.f7 [1, 1, 1, 1, 1, 1, 1, 0, 1, 0, 0]) (law7_L1nynnnyn_T op name xd) (law7_L1nynnnyn_H op name xd) 1000 .ret (law7_L1nynnnyn_T1 op name (.inr (((IntKind.i64.wrap ((findF (ByteArray.extract name 0 (Int.toNat 8))).1)) : Int) == xd.1))) (law7_L1nynnnyn_H1 op name (.inr (((IntKind.i64.wrap ((findF (ByteArray.extract name 0 (Int.toNat 8))).1)) : Int) == xd.1))) 1000 := by
  have o1 : 0 ≤ xd.1 ∧ xd.1 < ((70 : Nat) : Int) := by first | decide | omega | (simp only [decide_eq_true_eq, decide_eq_false_iff_not, rng, IntKind.wrap_i64, IntKind.wrap_u8, IntKind.wrap_u16] at *; omega)
  exact runs_of_x hG hM 400 [.yes, .sym, .yes, .yes, .yes, .yes, .yes, .yes] (J d1 (J (Eq.refl true) (J o1 (J d2 (J d3 (J d3 (J d3 (J d3 (J d3 trivial))))))))) (by kernel_rfl)
theorem law7_L1nynnnyn_p2 (op : Int) (name : ByteArray) (xd : Int × Bool) (d1 : (decide ((xd.1 : Int) < 70)) = true) (w3d : 0 ≤ xd.1) (d2 : (ByteArray.toList (List.getD namesB (Int.toNat xd.1) ⟨#[]⟩) == ByteArray.toList (ByteArray.extract name 0 (Int.toNat 8))) = true) (d3 : (findF (ByteArray.extract name 0 (Int.toNat 8))).2 = false) : Runs Try.prog 83 (bodyOf Try.f7 [1, 1, 1, 1, 1, 1, 1, 0, 1, 0, 0]) (law7_L1nynnnyn_T op name xd) (law7_L1nynnnyn_H op name xd) 1000 .ret (law7_L1nynnnyn_T1 op name (.inr false)) (law7_L1nynnnyn_H1 op name (.inr false)) 1000 := by
  have o1 : 0 ≤ xd.1 ∧ xd.1 < ((70 : Nat) : Int) := by first | decide | omega | (simp only [decide_eq_true_eq, decide_eq_false_iff_not, rng, IntKind.wrap_i64, IntKind.wrap_u8, IntKind.wrap_u16] at *; omega)
  exact runs_of_x hG hM 400 [.yes, .sym, .yes, .no, .no, .no, .no, .no] (J d1 (J (Eq.refl true) (J o1 (J d2 (J d3 (J d3 (J d3 (J d3 (J d3 trivial))))))))) (by kernel_rfl)
theorem law7_L1nynnnyn_p3 (op : Int) (name : ByteArray) (xd : Int × Bool) (d1 : (decide ((xd.1 : Int) < 70)) = true) (w3d : 0 ≤ xd.1) (d2 : (ByteArray.toList (List.getD namesB (Int.toNat xd.1) ⟨#[]⟩) == ByteArray.toList (ByteArray.extract name 0 (Int.toNat 8))) = false) : Runs Try.prog 83 (bodyOf Try.f7 [1, 1, 1, 1, 1, 1, 1, 0, 1, 0, 0]) (law7_L1nynnnyn_T op name xd) (law7_L1nynnnyn_H op name xd) 1000 .normal (law7_L1nynnnyn_T op name ((IntKind.i64.wrap (xd.1 + 1)), xd.2)) (law7_L1nynnnyn_H op name ((IntKind.i64.wrap (xd.1 + 1)), xd.2)) 1000 := by
  have o1 : 0 ≤ xd.1 ∧ xd.1 < ((70 : Nat) : Int) := by first | decide | omega | (simp only [decide_eq_true_eq, decide_eq_false_iff_not, rng, IntKind.wrap_i64, IntKind.wrap_u8, IntKind.wrap_u16] at *; omega)
  exact runs_of_x hG hM 400 [.yes, .sym, .no] (J d1 (J (Eq.refl true) (J o1 (J d2 trivial)))) (by kernel_rfl)
theorem law7_L1nynnnyn_p4 (op : Int) (name : ByteArray) (xd : Int × Bool) (d1 : (decide ((xd.1 : Int) < 70)) = false) : Runs Try.prog 83 (bodyOf Try.f7 [1, 1, 1, 1, 1, 1, 1, 0, 1, 0, 0]) (law7_L1nynnnyn_T op name xd) (law7_L1nynnnyn_H op name xd) 1000 (.exit 0) (law7_L1nynnnyn_T1 op name (.inl (xd.1, xd.2))) (law7_L1nynnnyn_H1 op name (.inl (xd.1, xd.2))) 1000 := by
  exact runs_of_x hG hM 400 [.no] (J d1 trivial) (by kernel_rfl)
theorem law7_L1nynnnyn_runs (op : Int) (name : ByteArray) (x_ : Int × Bool) (y_ : (Int × Bool) ⊕ Bool) (h_ : LoopR (law7_L1nynnnyn op name) x_ y_) : Runs Try.prog 83 (.block 0 (.loop (bodyOf Try.f7 [1, 1, 1, 1, 1, 1, 1, 0, 1, 0, 0]))) (law7_L1nynnnyn_T op name x_) (law7_L1nynnnyn_H op name x_) 1000 (outOf 0 (law7_L1nynnnyn_ex y_)) (law7_L1nynnnyn_T1 op name y_) (law7_L1nynnnyn_H1 op name y_) 1000 := by
  refine block_loop (law7_L1nynnnyn op name) (law7_L1nynnnyn_T op name) (law7_L1nynnnyn_H op name) law7_L1nynnnyn_ex (law7_L1nynnnyn_T1 op name) (law7_L1nynnnyn_H1 op name) ?_ ?_ ?_ x_ y_ h_
  · intro r hr; cases r <;> cases hr
  · intro xd y_ hx
    cases hx with
    | p3 d1 w3d d2 => exact law7_L1nynnnyn_p3 op name xd d1 w3d d2
  · intro xd y_ hx
    cases hx with
    | p1 d1 w3d d2 d3 => exact law7_L1nynnnyn_p1 op name xd d1 w3d d2 d3
    | p2 d1 w3d d2 d3 => exact law7_L1nynnnyn_p2 op name xd d1 w3d d2 d3
    | p4 d1 => exact law7_L1nynnnyn_p4 op name xd d1

/-- a loop of kotatsu/kotatsulaw08.AluNames: one round -/
inductive law7_L1nnnnnyn (op : Int) (name : ByteArray) (xd : Int × Bool) : (Int × Bool) ⊕ ((Int × Bool) ⊕ Bool) → Prop
  | p1 (d1 : (decide ((xd.1 : Int) < 70)) = true) (w3d : 0 ≤ xd.1) (d2 : (ByteArray.toList (List.getD namesB (Int.toNat xd.1) ⟨#[]⟩) == ByteArray.toList name) = true) (d3 : (findF name).2 = true) : law7_L1nnnnnyn op name xd (.inr (.inr (((IntKind.i64.wrap ((findF name).1)) : Int) == xd.1)))
  | p2 (d1 : (decide ((xd.1 : Int) < 70)) = true) (w3d : 0 ≤ xd.1) (d2 : (ByteArray.toList (List.getD namesB (Int.toNat xd.1) ⟨#[]⟩) == ByteArray.toList name) = true) (d3 : (findF name).2 = false) : law7_L1nnnnnyn op name xd (.inr (.inr false))
  | p3 (d1 : (decide ((xd.1 : Int) < 70)) = true) (w3d : 0 ≤ xd.1) (d2 : (ByteArray.toList (List.getD namesB (Int.toNat xd.1) ⟨#[]⟩) == ByteArray.toList name) = false) : law7_L1nnnnnyn op name xd (.inl ((IntKind.i64.wrap (xd.1 + 1)), xd.2))
  | p4 (d1 : (decide ((xd.1 : Int) < 70)) = false) : law7_L1nnnnnyn op name xd (.inr (.inl (xd.1, xd.2)))
def law7_L1nnnnnyn_T (op : Int) (name : ByteArray) (xd : Int × Bool) : Tm := [(1, .string name), (4, .bool xd.2), (8, .int .u8 ((findF name).1)), (9, .bool ((findF name).2)), (59, .func (.yield 1) ⟨namesV⟩ ⟨[.bool true]⟩), (60, .int .i64 70), (61, .int .i64 xd.1)]
def law7_L1nnnnnyn_H (op : Int) (name : ByteArray) (xd : Int × Bool) : Heap := []
def law7_L1nnnnnyn_T1 (op : Int) (name : ByteArray) : ((Int × Bool) ⊕ Bool) → Tm
  | .inl q_ => law7_L1nnnnnyn_T op name q_
  | .inr v => [(4, .bool v)]
def law7_L1nnnnnyn_H1 (op : Int) (name : ByteArray) : ((Int × Bool) ⊕ Bool) → Heap
  | .inl q_ => law7_L1nnnnnyn_H op name q_
  | .inr v => []
def law7_L1nnnnnyn_ex : ((Int × Bool) ⊕ Bool) → Ex
  | .inl _ => .exit 0
  | .inr _ => .ret
theorem law7_L1nnnnnyn_p1 (op : Int) (name : ByteArray) (xd : Int × Bool) (d1 : (decide ((xd.1 : Int) < 70)) = true) (w3d : 0 ≤ xd.1) (d2 : (ByteArray.toList (List.getD namesB (Int.toNat xd.1) ⟨#[]⟩) == ByteArray.toList name) = true) (d3 : (findF name).2 = true) : Runs Try.prog 83 (bodyOf Try.f7 [1, 1, 1, 1, 1, 1, 1, 0, 1, 0, 0]) (law7_L1nnnnnyn_T op name xd) (law7_L1nnnnnyn_H op name xd) 1000 .ret (law7_L1nnnnnyn_T1 op name (.inr (((IntKind.i64.wrap ((findF name).1)) : Int) == xd.1))) (law7_L1nnnnnyn_H1 op name (.inr (((IntKind.i64.wrap ((findF name).1)) : Int) == xd.1))) 1000 := by
  have o1 : 0 ≤ xd.1 ∧ xd.1 < ((70 : Nat) : Int) := by first | decide | omega | (simp only [decide_eq_true_eq, decide_eq_false_iff_not, rng, IntKind.wrap_i64, IntKind.wrap_u8, IntKind.wrap_u16] at *; omega)
  exact runs_of_x hG hM 400 [.yes, .sym, .yes, .yes, .yes, .yes, .yes, .yes] (J d1 (J (Eq.refl true) (J o1 (J d2 (J d3 (J d3 (J d3 (J d3 (J d3 trivial))))))))) (by kernel_rfl)
theorem law7_L1nnnnnyn_p2 (op : Int) (name : ByteArray) (xd : Int × Bool) (d1 : (decide ((xd.1 : Int) < 70)) = true) (w3d : 0 ≤ xd.1) (d2 : (ByteArray.toList (List.getD namesB (Int.toNat xd.1) ⟨#[]⟩) == ByteArray.toList name) = true) (d3 : (findF name).2 = false) : Runs Try.prog 83 (bodyOf Try.f7 [1, 1, 1, 1, 1, 1, 1, 0, 1, 0, 0]) (law7_L1nnnnnyn_T op name xd) (law7_L1nnnnnyn_H op name xd) 1000 .ret (law7_L1nnnnnyn_T1 op name (.inr false)) (law7_L1nnnnnyn_H1 op name (.inr false)) 1000 := by
  have o1 : 0 ≤ xd.1 ∧ xd.1 < ((70 : Nat) : Int) := by first | decide | omega | (simp only [decide_eq_true_eq, decide_eq_false_iff_not, rng, IntKind.wrap_i64, IntKind.wrap_u8, IntKind.wrap_u16] at *; omega)
  exact runs_of_x hG hM 400 [.yes, .sym, .yes, .no, .no, .no, .no, .no] (J d1 (J (Eq.refl true) (J o1 (J d2 (J d3 (J d3 (J d3 (J d3 (J d3 trivial))))))))) (by kernel_rfl)
theorem law7_L1nnnnnyn_p3 (op : Int) (name : ByteArray) (xd : Int × Bool) (d1 : (decide ((xd.1 : Int) < 70)) = true) (w3d : 0 ≤ xd.1) (d2 : (ByteArray.toList (List.getD namesB (Int.toNat xd.1) ⟨#[]⟩) == ByteArray.toList name) = false) : Runs Try.prog 83 (bodyOf Try.f7 [1, 1, 1, 1, 1, 1, 1, 0, 1, 0, 0]) (law7_L1nnnnnyn_T op name xd) (law7_L1nnnnnyn_H op name xd) 1000 .normal (law7_L1nnnnnyn_T op name ((IntKind.i64.wrap (xd.1 + 1)), xd.2)) (law7_L1nnnnnyn_H op name ((IntKind.i64.wrap (xd.1 + 1)), xd.2)) 1000 := by
  have o1 : 0 ≤ xd.1 ∧ xd.1 < ((70 : Nat) : Int) := by first | decide | omega | (simp only [decide_eq_true_eq, decide_eq_false_iff_not, rng, IntKind.wrap_i64, IntKind.wrap_u8, IntKind.wrap_u16] at *; omega)
  exact runs_of_x hG hM 400 [.yes, .sym, .no] (J d1 (J (Eq.refl true) (J o1 (J d2 trivial)))) (by kernel_rfl)
theorem law7_L1nnnnnyn_p4 (op : Int) (name : ByteArray) (xd : Int × Bool) (d1 : (decide ((xd.1 : Int) < 70)) = false) : Runs Try.prog 83 (bodyOf Try.f7 [1, 1, 1, 1, 1, 1, 1, 0, 1, 0, 0]) (law7_L1nnnnnyn_T op name xd) (law7_L1nnnnnyn_H op name xd) 1000 (.exit 0) (law7_L1nnnnnyn_T1 op name (.inl (xd.1, xd.2))) (law7_L1nnnnnyn_H1 op name (.inl (xd.1, xd.2))) 1000 := by
  exact runs_of_x hG hM 400 [.no] (J d1 trivial) (by kernel_rfl)
theorem law7_L1nnnnnyn_runs (op : Int) (name : ByteArray) (x_ : Int × Bool) (y_ : (Int × Bool) ⊕ Bool) (h_ : LoopR (law7_L1nnnnnyn op name) x_ y_) : Runs Try.prog 83 (.block 0 (.loop (bodyOf Try.f7 [1, 1, 1, 1, 1, 1, 1, 0, 1, 0, 0]))) (law7_L1nnnnnyn_T op name x_) (law7_L1nnnnnyn_H op name x_) 1000 (outOf 0 (law7_L1nnnnnyn_ex y_)) (law7_L1nnnnnyn_T1 op name y_) (law7_L1nnnnnyn_H1 op name y_) 1000 := by
  refine block_loop (law7_L1nnnnnyn op name) (law7_L1nnnnnyn_T op name) (law7_L1nnnnnyn_H op name) law7_L1nnnnnyn_ex (law7_L1nnnnnyn_T1 op name) (law7_L1nnnnnyn_H1 op name) ?_ ?_ ?_ x_ y_ h_
  · intro r hr; cases r <;> cases hr
  · intro xd y_ hx
    cases hx with
    | p3 d1 w3d d2 => exact law7_L1nnnnnyn_p3 op name xd d1 w3d d2
  · intro xd y_ hx
    cases hx with
    | p1 d1 w3d d2 d3 => exact law7_L1nnnnnyn_p1 op name xd d1 w3d d2 d3
    | p2 d1 w3d d2 d3 => exact law7_L1nnnnnyn_p2 op name xd d1 w3d d2 d3
    | p4 d1 => exact law7_L1nnnnnyn_p4 op name xd d1

theorem law7_p1 (op : Int) (name : ByteArray) (w_op : rng 256 op) (c1 : (!awakeF) = false) (c2 : (decide ((((ByteArray.size name : Nat) : Int) : Int) > 8)) = true) (w1c : 0 ≤ (IntKind.i64.wrap op) ∧ (IntKind.i64.wrap op) < 256) (w2c : 0 ≤ op ∧ op < 256) (c3 : (!(ByteArray.toList (aNameB op) == ByteArray.toList (rNameB (IntKind.i64.wrap op)))) = false) (c4 : (((IntKind.i64.wrap (aKind op)) : Int) != (rKind (IntKind.i64.wrap op))) = false) (c5 : (!((findF (rNameB (IntKind.i64.wrap op))).2 == (!(ByteArray.toList (rNameB (IntKind.i64.wrap op)) == ByteArray.toList ⟨#[]⟩)))) = false) (c6 : (findF (rNameB (IntKind.i64.wrap op))).2 = true) (c7 : (((findF (rNameB (IntKind.i64.wrap op))).1 : Int) != op) = false) (r1 : Int × Bool) (l1 : LoopR (law7_L1nynnnyn op name) (0, false) (.inl r1)) (c9 : (!((findF (ByteArray.extract name 0 (Int.toNat 8))).2)) = true) : FnSpec Try.prog 7 1000 [.int .u8 op, .string name] [] (.bool (((findF (ByteArray.extract name 0 (Int.toNat 8))).1 : Int) == 0)) [] := by
  have o1 : (0 : Int) ≤ 8 ∧ (8 : Int) ≤ ((ByteArray.size name : Nat) : Int) := by first | decide | omega | (simp only [decide_eq_true_eq, decide_eq_false_iff_not, rng, IntKind.wrap_i64, IntKind.wrap_u8, IntKind.wrap_u16] at *; omega)
  exact fn_of_x hG hM Try.func7 (by kernel_rfl) (by kernel_rfl) 400 [.call [] [] 1000 (.bool awakeF) [], .no, .yes, .symcut, .call [] [] 1000 (.string (rNameB (IntKind.i64.wrap op))) [], .call [] [] 1000 (.tuple ⟨[.int .u8 ((findF (rNameB (IntKind.i64.wrap op))).1), .bool ((findF (rNameB (IntKind.i64.wrap op))).2)]⟩) [], .call [] [] 1000 (.string (aNameB op)) [], .no, .no, .call [] [] 1000 (.int .u8 (aKind op)) [], .no, .no, .no, .no, .call [] [] 1000 (.int .i64 (rKind (IntKind.i64.wrap op))) [], .no, .no, .no, .no, .no, .no, .no, .no, .no, .yes, .yes, .yes, .no, .yes, .no, .no, .call [] [] 1000 (.tuple ⟨[.int .u8 ((findF (ByteArray.extract name 0 (Int.toNat 8))).1), .bool ((findF (ByteArray.extract name 0 (Int.toNat 8))).2)]⟩) [], .call [] [] 1000 (.func (.yield 1) ⟨namesV⟩ ⟨[.bool true]⟩) [], .segk 1 0 [1, 4, 8, 9, 59, 60, 61] [] .normal (law7_L1nynnnyn_T1 op name (.inl r1)) (law7_L1nynnnyn_H1 op name (.inl r1)) 1000, .yes, .yes, .yes] (J (awakeF_ok) (J c1 (J c2 (J o1 (J (rNameB_ok (IntKind.i64.wrap op) w1c) (J (findF_ok (rNameB (IntKind.i64.wrap op))) (J (aNameB_ok op w2c) (J c3 (J c3 (J (aKind_ok op) (J c3 (J c3 (J c3 (J c3 (J (rKind_ok (IntKind.i64.wrap op)) (J c3 (J c3 (J c4 (J c4 (J c4 (J c4 (J c4 (J c5 (J c5 (J c6 (J c6 (J c6 (J c5 (J c6 (J c5 (J c7 (J (findF_ok (ByteArray.extract name 0 (Int.toNat 8))) (J (rNames_p1) (J (Eq.refl true) (J (law7_L1nynnnyn_runs op name (0, false) (.inl r1) l1) (J c9 (J c9 (J c9 trivial)))))))))))))))))))))))))))))))))))))) (by kernel_rfl)
theorem law7_p2 (op : Int) (name : ByteArray) (w_op : rng 256 op) (c1 : (!awakeF) = false) (c2 : (decide ((((ByteArray.size name : Nat) : Int) : Int) > 8)) = true) (w1c : 0 ≤ (IntKind.i64.wrap op) ∧ (IntKind.i64.wrap op) < 256) (w2c : 0 ≤ op ∧ op < 256) (c3 : (!(ByteArray.toList (aNameB op) == ByteArray.toList (rNameB (IntKind.i64.wrap op)))) = false) (c4 : (((IntKind.i64.wrap (aKind op)) : Int) != (rKind (IntKind.i64.wrap op))) = false) (c5 : (!((findF (rNameB (IntKind.i64.wrap op))).2 == (!(ByteArray.toList (rNameB (IntKind.i64.wrap op)) == ByteArray.toList ⟨#[]⟩)))) = false) (c6 : (findF (rNameB (IntKind.i64.wrap op))).2 = true) (c7 : (((findF (rNameB (IntKind.i64.wrap op))).1 : Int) != op) = false) (r1 : Bool) (l1 : LoopR (law7_L1nynnnyn op name) (0, false) (.inr r1)) : FnSpec Try.prog 7 1000 [.int .u8 op, .string name] [] (.bool r1) [] := by
  have o1 : (0 : Int) ≤ 8 ∧ (8 : Int) ≤ ((ByteArray.size name : Nat) : Int) := by first | decide | omega | (simp only [decide_eq_true_eq, decide_eq_false_iff_not, rng, IntKind.wrap_i64, IntKind.wrap_u8, IntKind.wrap_u16] at *; omega)
  exact fn_of_x hG hM Try.func7 (by kernel_rfl) (by kernel_rfl) 400 [.call [] [] 1000 (.bool awakeF) [], .no, .yes, .symcut, .call [] [] 1000 (.string (rNameB (IntKind.i64.wrap op))) [], .call [] [] 1000 (.tuple ⟨[.int .u8 ((findF (rNameB (IntKind.i64.wrap op))).1), .bool ((findF (rNameB (IntKind.i64.wrap op))).2)]⟩) [], .call [] [] 1000 (.string (aNameB op)) [], .no, .no, .call [] [] 1000 (.int .u8 (aKind op)) [], .no, .no, .no, .no, .call [] [] 1000 (.int .i64 (rKind (IntKind.i64.wrap op))) [], .no, .no, .no, .no, .no, .no, .no, .no, .no, .yes, .yes, .yes, .no, .yes, .no, .no, .call [] [] 1000 (.tuple ⟨[.int .u8 ((findF (ByteArray.extract name 0 (Int.toNat 8))).1), .bool ((findF (ByteArray.extract name 0 (Int.toNat 8))).2)]⟩) [], .call [] [] 1000 (.func (.yield 1) ⟨namesV⟩ ⟨[.bool true]⟩) [], .segk 1 0 [1, 4, 8, 9, 59, 60, 61] [] .ret (law7_L1nynnnyn_T1 op name (.inr r1)) (law7_L1nynnnyn_H1 op name (.inr r1)) 1000] (J (awakeF_ok) (J c1 (J c2 (J o1 (J (rNameB_ok (IntKind.i64.wrap op) w1c) (J (findF_ok (rNameB (IntKind.i64.wrap op))) (J (aNameB_ok op w2c) (J c3 (J c3 (J (aKind_ok op) (J c3 (J c3 (J c3 (J c3 (J (rKind_ok (IntKind.i64.wrap op)) (J c3 (J c3 (J c4 (J c4 (J c4 (J c4 (J c4 (J c5 (J c5 (J c6 (J c6 (J c6 (J c5 (J c6 (J c5 (J c7 (J (findF_ok (ByteArray.extract name 0 (Int.toNat 8))) (J (rNames_p1) (J (Eq.refl true) (J (law7_L1nynnnyn_runs op name (0, false) (.inr r1) l1) trivial))))))))))))))))))))))))))))))))))) (by kernel_rfl)
theorem law7_p3 (op : Int) (name : ByteArray) (w_op : rng 256 op) (c1 : (!awakeF) = false) (c2 : (decide ((((ByteArray.size name : Nat) : Int) : Int) > 8)) = true) (w1c : 0 ≤ (IntKind.i64.wrap op) ∧ (IntKind.i64.wrap op) < 256) (w2c : 0 ≤ op ∧ op < 256) (c3 : (!(ByteArray.toList (aNameB op) == ByteArray.toList (rNameB (IntKind.i64.wrap op)))) = false) (c4 : (((IntKind.i64.wrap (aKind op)) : Int) != (rKind (IntKind.i64.wrap op))) = false) (c5 : (!((findF (rNameB (IntKind.i64.wrap op))).2 == (!(ByteArray.toList (rNameB (IntKind.i64.wrap op)) == ByteArray.toList ⟨#[]⟩)))) = false) (c6 : (findF (rNameB (IntKind.i64.wrap op))).2 = false) (r1 : Int × Bool) (l1 : LoopR (law7_L1nynnnyn op name) (0, false) (.inl r1)) (c8 : (!((findF (ByteArray.extract name 0 (Int.toNat 8))).2)) = true) : FnSpec Try.prog 7 1000 [.int .u8 op, .string name] [] (.bool (((findF (ByteArray.extract name 0 (Int.toNat 8))).1 : Int) == 0)) [] := by
  have o1 : (0 : Int) ≤ 8 ∧ (8 : Int) ≤ ((ByteArray.size name : Nat) : Int) := by first | decide | omega | (simp only [decide_eq_true_eq, decide_eq_false_iff_not, rng, IntKind.wrap_i64, IntKind.wrap_u8, IntKind.wrap_u16] at *; omega)
  exact fn_of_x hG hM Try.func7 (by kernel_rfl) (by kernel_rfl) 400 [.call [] [] 1000 (.bool awakeF) [], .no, .yes, .symcut, .call [] [] 1000 (.string (rNameB (IntKind.i64.wrap op))) [], .call [] [] 1000 (.tuple ⟨[.int .u8 ((findF (rNameB (IntKind.i64.wrap op))).1), .bool ((findF (rNameB (IntKind.i64.wrap op))).2)]⟩) [], .call [] [] 1000 (.string (aNameB op)) [], .no, .no, .call [] [] 1000 (.int .u8 (aKind op)) [], .no, .no, .no, .no, .call [] [] 1000 (.int .i64 (rKind (IntKind.i64.wrap op))) [], .no, .no, .no, .no, .no, .no, .no, .no, .no, .no, .no, .no, .no, .no, .no, .no, .call [] [] 1000 (.tuple ⟨[.int .u8 ((findF (ByteArray.extract name 0 (Int.toNat 8))).1), .bool ((findF (ByteArray.extract name 0 (Int.toNat 8))).2)]⟩) [], .call [] [] 1000 (.func (.yield 1) ⟨namesV⟩ ⟨[.bool true]⟩) [], .segk 1 0 [1, 4, 8, 9, 59, 60, 61] [] .normal (law7_L1nynnnyn_T1 op name (.inl r1)) (law7_L1nynnnyn_H1 op name (.inl r1)) 1000, .yes, .yes, .yes] (J (awakeF_ok) (J c1 (J c2 (J o1 (J (rNameB_ok (IntKind.i64.wrap op) w1c) (J (findF_ok (rNameB (IntKind.i64.wrap op))) (J (aNameB_ok op w2c) (J c3 (J c3 (J (aKind_ok op) (J c3 (J c3 (J c3 (J c3 (J (rKind_ok (IntKind.i64.wrap op)) (J c3 (J c3 (J c4 (J c4 (J c4 (J c4 (J c4 (J c5 (J c5 (J c6 (J c6 (J c6 (J c5 (J c6 (J c5 (J (Eq.refl false) (J (findF_ok (ByteArray.extract name 0 (Int.toNat 8))) (J (rNames_p1) (J (Eq.refl true) (J (law7_L1nynnnyn_runs op name (0, false) (.inl r1) l1) (J c8 (J c8 (J c8 trivial)))))))))))))))))))))))))))))))))))))) (by kernel_rfl)
theorem law7_p4 (op : Int) (name : ByteArray) (w_op : rng 256 op) (c1 : (!awakeF) = false) (c2 : (decide ((((ByteArray.size name : Nat) : Int) : Int) > 8)) = true) (w1c : 0 ≤ (IntKind.i64.wrap op) ∧ (IntKind.i64.wrap op) < 256) (w2c : 0 ≤ op ∧ op < 256) (c3 : (!(ByteArray.toList (aNameB op) == ByteArray.toList (rNameB (IntKind.i64.wrap op)))) = false) (c4 : (((IntKind.i64.wrap (aKind op)) : Int) != (rKind (IntKind.i64.wrap op))) = false) (c5 : (!((findF (rNameB (IntKind.i64.wrap op))).2 == (!(ByteArray.toList (rNameB (IntKind.i64.wrap op)) == ByteArray.toList ⟨#[]⟩)))) = false) (c6 : (findF (rNameB (IntKind.i64.wrap op))).2 = false) (r1 : Bool) (l1 : LoopR (law7_L1nynnnyn op name) (0, false) (.inr r1)) : FnSpec Try.prog 7 1000 [.int .u8 op, .string name] [] (.bool r1) [] := by
  have o1 : (0 : Int) ≤ 8 ∧ (8 : Int) ≤ ((ByteArray.size name : Nat) : Int) := by first | decide | omega | (simp only [decide_eq_true_eq, decide_eq_false_iff_not, rng, IntKind.wrap_i64, IntKind.wrap_u8, IntKind.wrap_u16] at *; omega)
  exact fn_of_x hG hM Try.func7 (by kernel_rfl) (by kernel_rfl) 400 [.call [] [] 1000 (.bool awakeF) [], .no, .yes, .symcut, .call [] [] 1000 (.string (rNameB (IntKind.i64.wrap op))) [], .call [] [] 1000 (.tuple ⟨[.int .u8 ((findF (rNameB (IntKind.i64.wrap op))).1), .bool ((findF (rNameB (IntKind.i64.wrap op))).2)]⟩) [], .call [] [] 1000 (.string (aNameB op)) [], .no, .no, .call [] [] 1000 (.int .u8 (aKind op)) [], .no, .no, .no, .no, .call [] [] 1000 (.int .i64 (rKind (IntKind.i64.wrap op))) [], .no, .no, .no, .no, .no, .no, .no, .no, .no, .no, .no, .no, .no, .no, .no, .no, .call [] [] 1000 (.tuple ⟨[.int .u8 ((findF (ByteArray.extract name 0 (Int.toNat 8))).1), .bool ((findF (ByteArray.extract name 0 (Int.toNat 8))).2)]⟩) [], .call [] [] 1000 (.func (.yield 1) ⟨namesV⟩ ⟨[.bool true]⟩) [], .segk 1 0 [1, 4, 8, 9, 59, 60, 61] [] .ret (law7_L1nynnnyn_T1 op name (.inr r1)) (law7_L1nynnnyn_H1 op name (.inr r1)) 1000] (J (awakeF_ok) (J c1 (J c2 (J o1 (J (rNameB_ok (IntKind.i64.wrap op) w1c) (J (findF_ok (rNameB (IntKind.i64.wrap op))) (J (aNameB_ok op w2c) (J c3 (J c3 (J (aKind_ok op) (J c3 (J c3 (J c3 (J c3 (J (rKind_ok (IntKind.i64.wrap op)) (J c3 (J c3 (J c4 (J c4 (J c4 (J c4 (J c4 (J c5 (J c5 (J c6 (J c6 (J c6 (J c5 (J c6 (J c5 (J (Eq.refl false) (J (findF_ok (ByteArray.extract name 0 (Int.toNat 8))) (J (rNames_p1) (J (Eq.refl true) (J (law7_L1nynnnyn_runs op name (0, false) (.inr r1) l1) trivial))))))))))))))))))))))))))))))))))) (by kernel_rfl)
theorem law7_p5 (op : Int) (name : ByteArray) (w_op : rng 256 op) (c1 : (!awakeF) = false) (c2 : (decide ((((ByteArray.size name : Nat) : Int) : Int) > 8)) = false) (w1c : 0 ≤ (IntKind.i64.wrap op) ∧ (IntKind.i64.wrap op) < 256) (w2c : 0 ≤ op ∧ op < 256) (c3 : (!(ByteArray.toList (aNameB op) == ByteArray.toList (rNameB (IntKind.i64.wrap op)))) = false) (c4 : (((IntKind.i64.wrap (aKind op)) : Int) != (rKind (IntKind.i64.wrap op))) = false) (c5 : (!((findF (rNameB (IntKind.i64.wrap op))).2 == (!(ByteArray.toList (rNameB (IntKind.i64.wrap op)) == ByteArray.toList ⟨#[]⟩)))) = false) (c6 : (findF (rNameB (IntKind.i64.wrap op))).2 = true) (c7 : (((findF (rNameB (IntKind.i64.wrap op))).1 : Int) != op) = false) (r1 : Int × Bool) (l1 : LoopR (law7_L1nnnnnyn op name) (0, false) (.inl r1)) (c9 : (!((findF name).2)) = true) : FnSpec Try.prog 7 1000 [.int .u8 op, .string name] [] (.bool (((findF name).1 : Int) == 0)) [] := by
  exact fn_of_x hG hM Try.func7 (by kernel_rfl) (by kernel_rfl) 400 [.call [] [] 1000 (.bool awakeF) [], .no, .no, .call [] [] 1000 (.string (rNameB (IntKind.i64.wrap op))) [], .call [] [] 1000 (.tuple ⟨[.int .u8 ((findF (rNameB (IntKind.i64.wrap op))).1), .bool ((findF (rNameB (IntKind.i64.wrap op))).2)]⟩) [], .call [] [] 1000 (.string (aNameB op)) [], .no, .no, .call [] [] 1000 (.int .u8 (aKind op)) [], .no, .no, .no, .no, .call [] [] 1000 (.int .i64 (rKind (IntKind.i64.wrap op))) [], .no, .no, .no, .no, .no, .no, .no, .no, .no, .yes, .yes, .yes, .no, .yes, .no, .no, .call [] [] 1000 (.tuple ⟨[.int .u8 ((findF name).1), .bool ((findF name).2)]⟩) [], .call [] [] 1000 (.func (.yield 1) ⟨namesV⟩ ⟨[.bool true]⟩) [], .segk 1 0 [1, 4, 8, 9, 59, 60, 61] [] .normal (law7_L1nnnnnyn_T1 op name (.inl r1)) (law7_L1nnnnnyn_H1 op name (.inl r1)) 1000, .yes, .yes, .yes] (J (awakeF_ok) (J c1 (J c2 (J (rNameB_ok (IntKind.i64.wrap op) w1c) (J (findF_ok (rNameB (IntKind.i64.wrap op))) (J (aNameB_ok op w2c) (J c3 (J c3 (J (aKind_ok op) (J c3 (J c3 (J c3 (J c3 (J (rKind_ok (IntKind.i64.wrap op)) (J c3 (J c3 (J c4 (J c4 (J c4 (J c4 (J c4 (J c5 (J c5 (J c6 (J c6 (J c6 (J c5 (J c6 (J c5 (J c7 (J (findF_ok name) (J (rNames_p1) (J (Eq.refl true) (J (law7_L1nnnnnyn_runs op name (0, false) (.inl r1) l1) (J c9 (J c9 (J c9 trivial))))))))))))))))))))))))))))))))))))) (by kernel_rfl)
theorem law7_p6 (op : Int) (name : ByteArray) (w_op : rng 256 op) (c1 : (!awakeF) = false) (c2 : (decide ((((ByteArray.size name : Nat) : Int) : Int) > 8)) = false) (w1c : 0 ≤ (IntKind.i64.wrap op) ∧ (IntKind.i64.wrap op) < 256) (w2c : 0 ≤ op ∧ op < 256) (c3 : (!(ByteArray.toList (aNameB op) == ByteArray.toList (rNameB (IntKind.i64.wrap op)))) = false) (c4 : (((IntKind.i64.wrap (aKind op)) : Int) != (rKind (IntKind.i64.wrap op))) = false) (c5 : (!((findF (rNameB (IntKind.i64.wrap op))).2 == (!(ByteArray.toList (rNameB (IntKind.i64.wrap op)) == ByteArray.toList ⟨#[]⟩)))) = false) (c6 : (findF (rNameB (IntKind.i64.wrap op))).2 = true) (c7 : (((findF (rNameB (IntKind.i64.wrap op))).1 : Int) != op) = false) (r1 : Bool) (l1 : LoopR (law7_L1nnnnnyn op name) (0, false) (.inr r1)) : FnSpec Try.prog 7 1000 [.int .u8 op, .string name] [] (.bool r1) [] := by
  exact fn_of_x hG hM Try.func7 (by kernel_rfl) (by kernel_rfl) 400 [.call [] [] 1000 (.bool awakeF) [], .no, .no, .call [] [] 1000 (.string (rNameB (IntKind.i64.wrap op))) [], .call [] [] 1000 (.tuple ⟨[.int .u8 ((findF (rNameB (IntKind.i64.wrap op))).1), .bool ((findF (rNameB (IntKind.i64.wrap op))).2)]⟩) [], .call [] [] 1000 (.string (aNameB op)) [], .no, .no, .call [] [] 1000 (.int .u8 (aKind op)) [], .no, .no, .no, .no, .call [] [] 1000 (.int .i64 (rKind (IntKind.i64.wrap op))) [], .no, .no, .no, .no, .no, .no, .no, .no, .no, .yes, .yes, .yes, .no, .yes, .no, .no, .call [] [] 1000 (.tuple ⟨[.int .u8 ((findF name).1), .bool ((findF name).2)]⟩) [], .call [] [] 1000 (.func (.yield 1) ⟨namesV⟩ ⟨[.bool true]⟩) [], .segk 1 0 [1, 4, 8, 9, 59, 60, 61] [] .ret (law7_L1nnnnnyn_T1 op name (.inr r1)) (law7_L1nnnnnyn_H1 op name (.inr r1)) 1000] (J (awakeF_ok) (J c1 (J c2 (J (rNameB_ok (IntKind.i64.wrap op) w1c) (J (findF_ok (rNameB (IntKind.i64.wrap op))) (J (aNameB_ok op w2c) (J c3 (J c3 (J (aKind_ok op) (J c3 (J c3 (J c3 (J c3 (J (rKind_ok (IntKind.i64.wrap op)) (J c3 (J c3 (J c4 (J c4 (J c4 (J c4 (J c4 (J c5 (J c5 (J c6 (J c6 (J c6 (J c5 (J c6 (J c5 (J c7 (J (findF_ok name) (J (rNames_p1) (J (Eq.refl true) (J (law7_L1nnnnnyn_runs op name (0, false) (.inr r1) l1) trivial)))))))))))))))))))))))))))))))))) (by kernel_rfl)
theorem law7_p7 (op : Int) (name : ByteArray) (w_op : rng 256 op) (c1 : (!awakeF) = false) (c2 : (decide ((((ByteArray.size name : Nat) : Int) : Int) > 8)) = false) (w1c : 0 ≤ (IntKind.i64.wrap op) ∧ (IntKind.i64.wrap op) < 256) (w2c : 0 ≤ op ∧ op < 256) (c3 : (!(ByteArray.toList (aNameB op) == ByteArray.toList (rNameB (IntKind.i64.wrap op)))) = false) (c4 : (((IntKind.i64.wrap (aKind op)) : Int) != (rKind (IntKind.i64.wrap op))) = false) (c5 : (!((findF (rNameB (IntKind.i64.wrap op))).2 == (!(ByteArray.toList (rNameB (IntKind.i64.wrap op)) == ByteArray.toList ⟨#[]⟩)))) = false) (c6 : (findF (rNameB (IntKind.i64.wrap op))).2 = false) (r1 : Int × Bool) (l1 : LoopR (law7_L1nnnnnyn op name) (0, false) (.inl r1)) (c8 : (!((findF name).2)) = true) : FnSpec Try.prog 7 1000 [.int .u8 op, .string name] [] (.bool (((findF name).1 : Int) == 0)) [] := by
  exact fn_of_x hG hM Try.func7 (by kernel_rfl) (by kernel_rfl) 400 [.call [] [] 1000 (.bool awakeF) [], .no, .no, .call [] [] 1000 (.string (rNameB (IntKind.i64.wrap op))) [], .call [] [] 1000 (.tuple ⟨[.int .u8 ((findF (rNameB (IntKind.i64.wrap op))).1), .bool ((findF (rNameB (IntKind.i64.wrap op))).2)]⟩) [], .call [] [] 1000 (.string (aNameB op)) [], .no, .no, .call [] [] 1000 (.int .u8 (aKind op)) [], .no, .no, .no, .no, .call [] [] 1000 (.int .i64 (rKind (IntKind.i64.wrap op))) [], .no, .no, .no, .no, .no, .no, .no, .no, .no, .no, .no, .no, .no, .no, .no, .no, .call [] [] 1000 (.tuple ⟨[.int .u8 ((findF name).1), .bool ((findF name).2)]⟩) [], .call [] [] 1000 (.func (.yield 1) ⟨namesV⟩ ⟨[.bool true]⟩) [], .segk 1 0 [1, 4, 8, 9, 59, 60, 61] [] .normal (law7_L1nnnnnyn_T1 op name (.inl r1)) (law7_L1nnnnnyn_H1 op name (.inl r1)) 1000, .yes, .yes, .yes] (J (awakeF_ok) (J c1 (J c2 (J (rNameB_ok (IntKind.i64.wrap op) w1c) (J (findF_ok (rNameB (IntKind.i64.wrap op))) (J (aNameB_ok op w2c) (J c3 (J c3 (J (aKind_ok op) (J c3 (J c3 (J c3 (J c3 (J (rKind_ok (IntKind.i64.wrap op)) (J c3 (J c3 (J c4 (J c4 (J c4 (J c4 (J c4 (J c5 (J c5 (J c6 (J c6 (J c6 (J c5 (J c6 (J c5 (J (Eq.refl false) (J (findF_ok name) (J (rNames_p1) (J (Eq.refl true) (J (law7_L1nnnnnyn_runs op name (0, false) (.inl r1) l1) (J c8 (J c8 (J c8 trivial))))))))))))))))))))))))))))))))))))) (by kernel_rfl)
theorem law7_p8 (op : Int) (name : ByteArray) (w_op : rng 256 op) (c1 : (!awakeF) = false) (c2 : (decide ((((ByteArray.size name : Nat) : Int) : Int) > 8)) = false) (w1c : 0 ≤ (IntKind.i64.wrap op) ∧ (IntKind.i64.wrap op) < 256) (w2c : 0 ≤ op ∧ op < 256) (c3 : (!(ByteArray.toList (aNameB op) == ByteArray.toList (rNameB (IntKind.i64.wrap op)))) = false) (c4 : (((IntKind.i64.wrap (aKind op)) : Int) != (rKind (IntKind.i64.wrap op))) = false) (c5 : (!((findF (rNameB (IntKind.i64.wrap op))).2 == (!(ByteArray.toList (rNameB (IntKind.i64.wrap op)) == ByteArray.toList ⟨#[]⟩)))) = false) (c6 : (findF (rNameB (IntKind.i64.wrap op))).2 = false) (r1 : Bool) (l1 : LoopR (law7_L1nnnnnyn op name) (0, false) (.inr r1)) : FnSpec Try.prog 7 1000 [.int .u8 op, .string name] [] (.bool r1) [] := by
  exact fn_of_x hG hM Try.func7 (by kernel_rfl) (by kernel_rfl) 400 [.call [] [] 1000 (.bool awakeF) [], .no, .no, .call [] [] 1000 (.string (rNameB (IntKind.i64.wrap op))) [], .call [] [] 1000 (.tuple ⟨[.int .u8 ((findF (rNameB (IntKind.i64.wrap op))).1), .bool ((findF (rNameB (IntKind.i64.wrap op))).2)]⟩) [], .call [] [] 1000 (.string (aNameB op)) [], .no, .no, .call [] [] 1000 (.int .u8 (aKind op)) [], .no, .no, .no, .no, .call [] [] 1000 (.int .i64 (rKind (IntKind.i64.wrap op))) [], .no, .no, .no, .no, .no, .no, .no, .no, .no, .no, .no, .no, .no, .no, .no, .no, .call [] [] 1000 (.tuple ⟨[.int .u8 ((findF name).1), .bool ((findF name).2)]⟩) [], .call [] [] 1000 (.func (.yield 1) ⟨namesV⟩ ⟨[.bool true]⟩) [], .segk 1 0 [1, 4, 8, 9, 59, 60, 61] [] .ret (law7_L1nnnnnyn_T1 op name (.inr r1)) (law7_L1nnnnnyn_H1 op name (.inr r1)) 1000] (J (awakeF_ok) (J c1 (J c2 (J (rNameB_ok (IntKind.i64.wrap op) w1c) (J (findF_ok (rNameB (IntKind.i64.wrap op))) (J (aNameB_ok op w2c) (J c3 (J c3 (J (aKind_ok op) (J c3 (J c3 (J c3 (J c3 (J (rKind_ok (IntKind.i64.wrap op)) (J c3 (J c3 (J c4 (J c4 (J c4 (J c4 (J c4 (J c5 (J c5 (J c6 (J c6 (J c6 (J c5 (J c6 (J c5 (J (Eq.refl false) (J (findF_ok name) (J (rNames_p1) (J (Eq.refl true) (J (law7_L1nnnnnyn_runs op name (0, false) (.inr r1) l1) trivial)))))))))))))))))))))))))))))))))) (by kernel_rfl)

end Go.Proofs.Ytfjeifmenlnkkaa
