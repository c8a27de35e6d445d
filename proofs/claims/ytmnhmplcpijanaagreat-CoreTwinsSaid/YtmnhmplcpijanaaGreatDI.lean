/-
  The first bytes of a list. Written by gen_core.py. No condition.
-/
import Derived.Test.YtmnhmplcpijanaaGreatVLl
import Derived.Test.YtmnhmplcpijanaaGreatCI
namespace Go.Proofs.YtmnhmplcpijanaaGreat
open Go VX
set_option linter.unusedVariables false
set_option linter.unusedSimpArgs false
set_option maxRecDepth 100000

/-- a loop of kotatsu/kotatsuref01.Cut: one round -/
inductive cutW_L1 (N_p : Nat) (d_p : Nat) (p : Nat → Int) (most : Int) (xd : (List Int) × Int) : ((List Int) × Int) ⊕ ((List Int) × Int) → Prop
  | p1 (d1 : (decide ((xd.2 : Int) < ((N_p : Nat) : Int))) = true) (w1d : 0 ≤ xd.2) (d2 : (decide ((xd.2 : Int) < most)) = true) (w2d : (List.length xd.1) + 1 ≤ 1048576) : cutW_L1 N_p d_p p most xd (.inl ((xd.1 ++ [(p (Int.toNat xd.2))]), (IntKind.i64.wrap (xd.2 + 1))))
  | p2 (d1 : (decide ((xd.2 : Int) < ((N_p : Nat) : Int))) = true) (w1d : 0 ≤ xd.2) (d2 : (decide ((xd.2 : Int) < most)) = false) : cutW_L1 N_p d_p p most xd (.inl (xd.1, (IntKind.i64.wrap (xd.2 + 1))))
  | p3 (d1 : (decide ((xd.2 : Int) < ((N_p : Nat) : Int))) = false) : cutW_L1 N_p d_p p most xd (.inr (xd.1, xd.2))
def cutW_L1_T (N_p : Nat) (d_p : Nat) (p : Nat → Int) (most : Int) (xd : (List Int) × Int) : Tm := [(1, .int .i64 most), (4, .slice none 0 0), (5, .slice (some ⟨1001, 0, (some 0)⟩) (List.length xd.1) 1), (8, .slice (some ⟨1000, 0, (some d_p)⟩) N_p 0), (9, .int .i64 ((N_p : Nat) : Int)), (10, .int .i64 xd.2)]
def cutW_L1_H (N_p : Nat) (d_p : Nat) (p : Nat → Int) (most : Int) (xd : (List Int) × Int) : Heap := [(1000, ⟨[.gap d_p, .ints .u8 N_p p], 5, true⟩), (1001, ⟨[intsL .u8 xd.1], 5, false⟩)]
def cutW_L1_T1 (N_p : Nat) (d_p : Nat) (p : Nat → Int) (most : Int) (y_ : (List Int) × Int) : Tm := cutW_L1_T N_p d_p p most y_
def cutW_L1_H1 (N_p : Nat) (d_p : Nat) (p : Nat → Int) (most : Int) (y_ : (List Int) × Int) : Heap := cutW_L1_H N_p d_p p most y_
def cutW_L1_ex (_ : (List Int) × Int) : Ex := .exit 0
theorem cutW_L1_p1 (N_p : Nat) (d_p : Nat) (p : Nat → Int) (most : Int) (xd : (List Int) × Int) (d1 : (decide ((xd.2 : Int) < ((N_p : Nat) : Int))) = true) (w1d : 0 ≤ xd.2) (d2 : (decide ((xd.2 : Int) < most)) = true) (w2d : (List.length xd.1) + 1 ≤ 1048576) : RunsM Tryz.prog 24 (bodyOf Tryz.f12 [1, 1, 0, 1, 0, 0]) 1001 (cutW_L1_T N_p d_p p most xd) (cutW_L1_H N_p d_p p most xd) 1002 .normal (cutW_L1_T N_p d_p p most ((xd.1 ++ [(p (Int.toNat xd.2))]), (IntKind.i64.wrap (xd.2 + 1)))) (cutW_L1_H N_p d_p p most ((xd.1 ++ [(p (Int.toNat xd.2))]), (IntKind.i64.wrap (xd.2 + 1)))) 1002 := by
  have o1 : 0 ≤ xd.2 ∧ xd.2 < ((N_p : Nat) : Int) := by first | decide | omega | (simp only [decide_eq_true_eq, decide_eq_false_iff_not, rng, IntKind.wrap_i64, IntKind.wrap_u8, IntKind.wrap_u16] at *; omega)
  have o2 : (Int.toNat xd.2) < N_p := by first | decide | omega | (simp only [decide_eq_true_eq, decide_eq_false_iff_not, rng, IntKind.wrap_i64, IntKind.wrap_u8, IntKind.wrap_u16] at *; omega)
  exact runsM_of_x hG hM 400 1001 [.yes, .sym, .yes, .eq 21 (.slice (some ⟨1003, 0, (some 0)⟩) (List.length (xd.1 ++ [(p (Int.toNat xd.2))])) 1), .list [intsL .u8 (xd.1 ++ [(p (Int.toNat xd.2))])]] [(1000, 1000), (1003, 1001)] (J d1 (J o1 (J (Eq.refl d_p) (J o2 (J d2 (J (sl_snoc 1003 1 xd.1 (p (Int.toNat xd.2))) (J (intsL_snoc (k := .u8) xd.1 (p (Int.toNat xd.2))) (J w2d (J (ints_size .u8 5 false xd.1) trivial))))))))) (by kernel_rfl)
theorem cutW_L1_p2 (N_p : Nat) (d_p : Nat) (p : Nat → Int) (most : Int) (xd : (List Int) × Int) (d1 : (decide ((xd.2 : Int) < ((N_p : Nat) : Int))) = true) (w1d : 0 ≤ xd.2) (d2 : (decide ((xd.2 : Int) < most)) = false) : RunsM Tryz.prog 24 (bodyOf Tryz.f12 [1, 1, 0, 1, 0, 0]) 1001 (cutW_L1_T N_p d_p p most xd) (cutW_L1_H N_p d_p p most xd) 1002 .normal (cutW_L1_T N_p d_p p most (xd.1, (IntKind.i64.wrap (xd.2 + 1)))) (cutW_L1_H N_p d_p p most (xd.1, (IntKind.i64.wrap (xd.2 + 1)))) 1002 := by
  have o1 : 0 ≤ xd.2 ∧ xd.2 < ((N_p : Nat) : Int) := by first | decide | omega | (simp only [decide_eq_true_eq, decide_eq_false_iff_not, rng, IntKind.wrap_i64, IntKind.wrap_u8, IntKind.wrap_u16] at *; omega)
  have o2 : (Int.toNat xd.2) < N_p := by first | decide | omega | (simp only [decide_eq_true_eq, decide_eq_false_iff_not, rng, IntKind.wrap_i64, IntKind.wrap_u8, IntKind.wrap_u16] at *; omega)
  exact runsM_of_x hG hM 400 1001 [.yes, .sym, .no] [(1000, 1000), (1001, 1001)] (J d1 (J o1 (J (Eq.refl d_p) (J o2 (J d2 trivial))))) (by kernel_rfl)
theorem cutW_L1_p3 (N_p : Nat) (d_p : Nat) (p : Nat → Int) (most : Int) (xd : (List Int) × Int) (d1 : (decide ((xd.2 : Int) < ((N_p : Nat) : Int))) = false) : RunsM Tryz.prog 24 (bodyOf Tryz.f12 [1, 1, 0, 1, 0, 0]) 1001 (cutW_L1_T N_p d_p p most xd) (cutW_L1_H N_p d_p p most xd) 1002 (.exit 0) (cutW_L1_T1 N_p d_p p most (xd.1, xd.2)) (cutW_L1_H1 N_p d_p p most (xd.1, xd.2)) 1002 := by
  exact runsM_of_x hG hM 400 1001 [.no] [(1000, 1000), (1001, 1001)] (J d1 trivial) (by kernel_rfl)
theorem cutW_L1_runs (N_p : Nat) (d_p : Nat) (p : Nat → Int) (most : Int) (x_ : (List Int) × Int) (y_ : (List Int) × Int) (h_ : LoopR (cutW_L1 N_p d_p p most) x_ y_) : RunsM Tryz.prog 24 (.block 0 (.loop (bodyOf Tryz.f12 [1, 1, 0, 1, 0, 0]))) 1001 (cutW_L1_T N_p d_p p most x_) (cutW_L1_H N_p d_p p most x_) 1002 (outOf 0 (cutW_L1_ex y_)) (cutW_L1_T1 N_p d_p p most y_) (cutW_L1_H1 N_p d_p p most y_) 1002 := by
  refine block_loopM hG (cutW_L1 N_p d_p p most) (cutW_L1_T N_p d_p p most) (cutW_L1_H N_p d_p p most) cutW_L1_ex (cutW_L1_T1 N_p d_p p most) (cutW_L1_H1 N_p d_p p most) ?_ ?_ ?_ x_ y_ h_
  · intro s r _ hr; cases hr
  · intro xd y_ hx
    cases hx with
    | p1 d1 w1d d2 w2d => exact cutW_L1_p1 N_p d_p p most xd d1 w1d d2 w2d
    | p2 d1 w1d d2 => exact cutW_L1_p2 N_p d_p p most xd d1 w1d d2
  · intro xd y_ hx
    cases hx with
    | p3 d1 => exact cutW_L1_p3 N_p d_p p most xd d1

theorem cutW_p1 (N_p : Nat) (d_p : Nat) (p : Nat → Int) (most : Int) (r1 : (List Int) × Int) (l1 : LoopR (cutW_L1 N_p d_p p most) ([], 0) r1) : FnSpec Tryz.prog 12 1001 [.slice (some ⟨1000, 0, (some d_p)⟩) N_p 0, .int .i64 most] [(1000, ⟨[.gap d_p, .ints .u8 N_p p], 5, true⟩)] (.slice (some ⟨1001, 0, (some 0)⟩) (List.length r1.1) 1) [(1001, ⟨[intsL .u8 r1.1], 5, false⟩)] := by
  exact fn_ren (v := .slice (some ⟨1001, 0, (some 0)⟩) (List.length r1.1) 1) (H1 := [(1001, ⟨[intsL .u8 r1.1], 5, false⟩)]) (fn_of_x hG hM Tryz.func12 (by kernel_rfl) (by kernel_rfl) 400 [.segk 1 0 [1, 4, 5, 8, 9, 10] [1000] .normal (cutW_L1_T1 N_p d_p p most r1) (cutW_L1_H1 N_p d_p p most r1) 1002] (J (runs_of_pre hG (cutW_L1_runs N_p d_p p most ([], 0) r1 l1) [(1000, 1000)] (T := [(1, .int .i64 most), (4, .slice none 0 0), (5, .slice none 0 0), (8, .slice (some ⟨1000, 0, (some d_p)⟩) N_p 0), (9, .int .i64 ((N_p : Nat) : Int)), (10, .int .i64 0)]) (H := [(1000, ⟨[.gap d_p, .ints .u8 N_p p], 5, true⟩)]) (by kernel_rfl)) trivial) (by kernel_rfl)) [(1001, 1001)] 1002 (by kernel_rfl)

end Go.Proofs.YtmnhmplcpijanaaGreat
