/-
  The memory: what is read, what is written. Written by gen_core.py. No condition.
-/
import Derived.Test.YtmnhmplcpijanaaGreatCI
import Derived.Test.YtmnhmplcpijanaaGreatVLl
namespace Go.Proofs.YtmnhmplcpijanaaGreat
open Go VX
set_option linter.unusedVariables false
set_option linter.unusedSimpArgs false
set_option maxRecDepth 100000

structure RAcc where
  At : Int
  Put : Bool
  B : Int
def RAcc.enc (s : RAcc) : Value := .agg ⟨[.int .i64 s.At, .bool s.Put, .int .i64 s.B]⟩
def RAcc.blk (s : RAcc) : Blk := ⟨[.one (.int .i64 s.At), .one (.bool s.Put), .one (.int .i64 s.B)], 47, false⟩
def RAcc.cells (s : RAcc) : List Value := [.int .i64 s.At, .bool s.Put, .int .i64 s.B]

def RAcc.nil : RAcc := ⟨0, false, 0⟩
theorem RAcc_snoc (L : List RAcc) (x : RAcc) : addSegs [rowsL RAcc.cells RAcc.nil 3 L] (RAcc.cells x) = [rowsL RAcc.cells RAcc.nil 3 (L ++ [x])] := rowsL_snoc L x rfl
theorem RAcc_of (L : List RAcc) : SegsOk [rowsL RAcc.cells RAcc.nil 3 L] (L.flatMap RAcc.cells) := rowsL_of L (fun _ => rfl) (by decide)

theorem tmod_in {a : Int} {n : Nat} (ha : 0 ≤ a) (h : (((n : Int) : Int) == 0) = false) : 0 ≤ Int.tmod a (n : Int) ∧ Int.tmod a (n : Int) < (n : Int) := by
  have hn : (n : Int) ≠ 0 := by simpa using h
  exact ⟨Int.tmod_nonneg _ ha, Int.tmod_lt_of_pos _ (by omega)⟩

/-- a loop of kotatsu/kotatsuref10.Get: one round -/
inductive getW_L1 (m_P : List Int) (m_L : List RAcc) (a : Int) (xd : Int × Int) : (Int × Int) ⊕ ((Int × Int) ⊕ (Int × Int)) → Prop
  | p1 (d1 : (decide ((xd.1 : Int) > 0)) = true) (w1d : 0 ≤ (IntKind.i64.wrap (xd.1 - 1)) ∧ (IntKind.i64.wrap (xd.1 - 1)) < (((List.length m_L) : Nat) : Int)) (d2 : (((List.getD m_L (Int.toNat (IntKind.i64.wrap (xd.1 - 1))) RAcc.nil).At : Int) == a) = true) : getW_L1 m_P m_L a xd (.inr (.inr (xd.1, (List.getD m_L (Int.toNat (IntKind.i64.wrap (xd.1 - 1))) RAcc.nil).B)))
  | p2 (d1 : (decide ((xd.1 : Int) > 0)) = true) (w1d : 0 ≤ (IntKind.i64.wrap (xd.1 - 1)) ∧ (IntKind.i64.wrap (xd.1 - 1)) < (((List.length m_L) : Nat) : Int)) (d2 : (((List.getD m_L (Int.toNat (IntKind.i64.wrap (xd.1 - 1))) RAcc.nil).At : Int) == a) = false) : getW_L1 m_P m_L a xd (.inl ((IntKind.i64.wrap (xd.1 - 1)), xd.2))
  | p3 (d1 : (decide ((xd.1 : Int) > 0)) = false) : getW_L1 m_P m_L a xd (.inr (.inl (xd.1, xd.2)))
def getW_L1_T (m_P : List Int) (m_L : List RAcc) (a : Int) (xd : Int × Int) : Tm := [(0, .pointer (some ⟨1000, 0, none⟩)), (1, .int .i64 a), (4, .int .i64 xd.2), (5, .int .i64 xd.1)]
def getW_L1_H (m_P : List Int) (m_L : List RAcc) (a : Int) (xd : Int × Int) : Heap := [(1000, ⟨[.one (.slice (some ⟨1001, 0, (some 0)⟩) (List.length m_P) 1), .one (.slice (some ⟨1002, 0, (some 0)⟩) (List.length m_L) 3)], 33, true⟩), (1002, ⟨[rowsL RAcc.cells RAcc.nil 3 m_L], 47, true⟩)]
def getW_L1_T1 (m_P : List Int) (m_L : List RAcc) (a : Int) : ((Int × Int) ⊕ (Int × Int)) → Tm
  | .inl q_ => getW_L1_T m_P m_L a q_
  | .inr q_ => getW_L1_T m_P m_L a q_
def getW_L1_H1 (m_P : List Int) (m_L : List RAcc) (a : Int) : ((Int × Int) ⊕ (Int × Int)) → Heap
  | .inl q_ => getW_L1_H m_P m_L a q_
  | .inr q_ => getW_L1_H m_P m_L a q_
def getW_L1_ex : ((Int × Int) ⊕ (Int × Int)) → Ex
  | .inl _ => .exit 0
  | .inr _ => .ret
theorem getW_L1_p1 (m_P : List Int) (m_L : List RAcc) (a : Int) (xd : Int × Int) (d1 : (decide ((xd.1 : Int) > 0)) = true) (w1d : 0 ≤ (IntKind.i64.wrap (xd.1 - 1)) ∧ (IntKind.i64.wrap (xd.1 - 1)) < (((List.length m_L) : Nat) : Int)) (d2 : (((List.getD m_L (Int.toNat (IntKind.i64.wrap (xd.1 - 1))) RAcc.nil).At : Int) == a) = true) : Runs Tryz.prog 55 (bodyOf Tryz.f13 [1, 0, 1, 0, 0]) (getW_L1_T m_P m_L a xd) (getW_L1_H m_P m_L a xd) 1003 .ret (getW_L1_T1 m_P m_L a (.inr (xd.1, (List.getD m_L (Int.toNat (IntKind.i64.wrap (xd.1 - 1))) RAcc.nil).B))) (getW_L1_H1 m_P m_L a (.inr (xd.1, (List.getD m_L (Int.toNat (IntKind.i64.wrap (xd.1 - 1))) RAcc.nil).B))) 1003 := by
  exact runs_of_x hG hM 400 [.yes, .sym, .row (Int.toNat (IntKind.i64.wrap (xd.1 - 1))) 0, .yes, .sym, .row (Int.toNat (IntKind.i64.wrap (xd.1 - 1))) 2] (J d1 (J w1d (J (Eq.refl (((Int.toNat (IntKind.i64.wrap (xd.1 - 1)) * 3) + 0) : Nat)) (J (show Int.toNat (IntKind.i64.wrap (xd.1 - 1)) < (List.length m_L) from by have q_ := w1d; omega) (J d2 (J w1d (J (Eq.refl (((Int.toNat (IntKind.i64.wrap (xd.1 - 1)) * 3) + 2) : Nat)) (J (show Int.toNat (IntKind.i64.wrap (xd.1 - 1)) < (List.length m_L) from by have q_ := w1d; omega) trivial)))))))) (by kernel_rfl)
theorem getW_L1_p2 (m_P : List Int) (m_L : List RAcc) (a : Int) (xd : Int × Int) (d1 : (decide ((xd.1 : Int) > 0)) = true) (w1d : 0 ≤ (IntKind.i64.wrap (xd.1 - 1)) ∧ (IntKind.i64.wrap (xd.1 - 1)) < (((List.length m_L) : Nat) : Int)) (d2 : (((List.getD m_L (Int.toNat (IntKind.i64.wrap (xd.1 - 1))) RAcc.nil).At : Int) == a) = false) : Runs Tryz.prog 55 (bodyOf Tryz.f13 [1, 0, 1, 0, 0]) (getW_L1_T m_P m_L a xd) (getW_L1_H m_P m_L a xd) 1003 .normal (getW_L1_T m_P m_L a ((IntKind.i64.wrap (xd.1 - 1)), xd.2)) (getW_L1_H m_P m_L a ((IntKind.i64.wrap (xd.1 - 1)), xd.2)) 1003 := by
  exact runs_of_x hG hM 400 [.yes, .sym, .row (Int.toNat (IntKind.i64.wrap (xd.1 - 1))) 0, .no] (J d1 (J w1d (J (Eq.refl (((Int.toNat (IntKind.i64.wrap (xd.1 - 1)) * 3) + 0) : Nat)) (J (show Int.toNat (IntKind.i64.wrap (xd.1 - 1)) < (List.length m_L) from by have q_ := w1d; omega) (J d2 trivial))))) (by kernel_rfl)
theorem getW_L1_p3 (m_P : List Int) (m_L : List RAcc) (a : Int) (xd : Int × Int) (d1 : (decide ((xd.1 : Int) > 0)) = false) : Runs Tryz.prog 55 (bodyOf Tryz.f13 [1, 0, 1, 0, 0]) (getW_L1_T m_P m_L a xd) (getW_L1_H m_P m_L a xd) 1003 (.exit 0) (getW_L1_T1 m_P m_L a (.inl (xd.1, xd.2))) (getW_L1_H1 m_P m_L a (.inl (xd.1, xd.2))) 1003 := by
  exact runs_of_x hG hM 400 [.no] (J d1 trivial) (by kernel_rfl)
theorem getW_L1_runs (m_P : List Int) (m_L : List RAcc) (a : Int) (x_ : Int × Int) (y_ : (Int × Int) ⊕ (Int × Int)) (h_ : LoopR (getW_L1 m_P m_L a) x_ y_) : Runs Tryz.prog 55 (.block 0 (.loop (bodyOf Tryz.f13 [1, 0, 1, 0, 0]))) (getW_L1_T m_P m_L a x_) (getW_L1_H m_P m_L a x_) 1003 (outOf 0 (getW_L1_ex y_)) (getW_L1_T1 m_P m_L a y_) (getW_L1_H1 m_P m_L a y_) 1003 := by
  refine block_loop (getW_L1 m_P m_L a) (getW_L1_T m_P m_L a) (getW_L1_H m_P m_L a) getW_L1_ex (getW_L1_T1 m_P m_L a) (getW_L1_H1 m_P m_L a) ?_ ?_ ?_ x_ y_ h_
  · intro r hr; cases r <;> cases hr
  · intro xd y_ hx
    cases hx with
    | p2 d1 w1d d2 => exact getW_L1_p2 m_P m_L a xd d1 w1d d2
  · intro xd y_ hx
    cases hx with
    | p1 d1 w1d d2 => exact getW_L1_p1 m_P m_L a xd d1 w1d d2
    | p3 d1 => exact getW_L1_p3 m_P m_L a xd d1

theorem getW_p1 (m_P : List Int) (m_L : List RAcc) (a : Int) (ha : 0 ≤ a) (r1 : Int × Int) (l1 : LoopR (getW_L1 m_P m_L a) ((((List.length m_L) : Nat) : Int), 0) (.inl r1)) (c2 : (((((List.length m_P) : Nat) : Int) : Int) == 0) = true) : FnSpec Tryz.prog 13 1003 [.pointer (some ⟨1000, 0, none⟩), .int .i64 a] [(1000, ⟨[.one (.slice (some ⟨1001, 0, (some 0)⟩) (List.length m_P) 1), .one (.slice (some ⟨1002, 0, (some 0)⟩) (List.length m_L) 3)], 33, true⟩), (1001, ⟨[intsL .u8 m_P], 5, true⟩), (1002, ⟨[rowsL RAcc.cells RAcc.nil 3 m_L], 47, true⟩)] (.int .i64 0) [] := by
  exact fn_of_x hG hM Tryz.func13 (by kernel_rfl) (by kernel_rfl) 400 [.segk 1 0 [0, 1, 4, 5] [1000, 1002] .normal (getW_L1_T1 m_P m_L a (.inl r1)) (getW_L1_H1 m_P m_L a (.inl r1)) 1003, .yes] (J (getW_L1_runs m_P m_L a ((((List.length m_L) : Nat) : Int), 0) (.inl r1) l1) (J c2 trivial)) (by kernel_rfl)
theorem getW_p2 (m_P : List Int) (m_L : List RAcc) (a : Int) (ha : 0 ≤ a) (r1 : Int × Int) (l1 : LoopR (getW_L1 m_P m_L a) ((((List.length m_L) : Nat) : Int), 0) (.inl r1)) (c2 : (((((List.length m_P) : Nat) : Int) : Int) == 0) = false) : FnSpec Tryz.prog 13 1003 [.pointer (some ⟨1000, 0, none⟩), .int .i64 a] [(1000, ⟨[.one (.slice (some ⟨1001, 0, (some 0)⟩) (List.length m_P) 1), .one (.slice (some ⟨1002, 0, (some 0)⟩) (List.length m_L) 3)], 33, true⟩), (1001, ⟨[intsL .u8 m_P], 5, true⟩), (1002, ⟨[rowsL RAcc.cells RAcc.nil 3 m_L], 47, true⟩)] (.int .i64 (IntKind.i64.wrap (List.getD m_P (Int.toNat (Int.tmod a (((List.length m_P) : Nat) : Int))) 0))) [] := by
  exact fn_of_x hG hM Tryz.func13 (by kernel_rfl) (by kernel_rfl) 400 [.segk 1 0 [0, 1, 4, 5] [1000, 1002] .normal (getW_L1_T1 m_P m_L a (.inl r1)) (getW_L1_H1 m_P m_L a (.inl r1)) 1003, .no, .sym] (J (getW_L1_runs m_P m_L a ((((List.length m_L) : Nat) : Int), 0) (.inl r1) l1) (J c2 (J (show (((List.length m_P) : Nat) : Int) ≠ 0 from by simpa using c2) (J (show 0 ≤ (Int.tmod a (((List.length m_P) : Nat) : Int)) ∧ (Int.tmod a (((List.length m_P) : Nat) : Int)) < (((List.length m_P) : Nat) : Int) from tmod_in ha c2) (J (show (Int.toNat (Int.tmod a (((List.length m_P) : Nat) : Int))) < (List.length m_P) from by have q_ := tmod_in ha c2; omega) trivial))))) (by kernel_rfl)
theorem getW_p3 (m_P : List Int) (m_L : List RAcc) (a : Int) (ha : 0 ≤ a) (r1 : Int × Int) (l1 : LoopR (getW_L1 m_P m_L a) ((((List.length m_L) : Nat) : Int), 0) (.inr r1)) : FnSpec Tryz.prog 13 1003 [.pointer (some ⟨1000, 0, none⟩), .int .i64 a] [(1000, ⟨[.one (.slice (some ⟨1001, 0, (some 0)⟩) (List.length m_P) 1), .one (.slice (some ⟨1002, 0, (some 0)⟩) (List.length m_L) 3)], 33, true⟩), (1001, ⟨[intsL .u8 m_P], 5, true⟩), (1002, ⟨[rowsL RAcc.cells RAcc.nil 3 m_L], 47, true⟩)] (.int .i64 r1.2) [] := by
  exact fn_of_x hG hM Tryz.func13 (by kernel_rfl) (by kernel_rfl) 400 [.segk 1 0 [0, 1, 4, 5] [1000, 1002] .ret (getW_L1_T1 m_P m_L a (.inr r1)) (getW_L1_H1 m_P m_L a (.inr r1)) 1003] (J (getW_L1_runs m_P m_L a ((((List.length m_L) : Nat) : Int), 0) (.inr r1) l1) trivial) (by kernel_rfl)

/-- kotatsu/kotatsuref10.Put -/
def putF (m_P : List Int) (m_L : List RAcc) (a : Int) (b : Int) : (List RAcc) :=
  (m_L ++ [({ At := a, Put := true, B := b } : RAcc)])
theorem putF_ok (m_P : List Int) (m_L : List RAcc) (a : Int) (b : Int) (hL : (List.length m_L) + 1 ≤ 1048576) : FnSpec Tryz.prog 40 1003 [.pointer (some ⟨1000, 0, none⟩), .int .i64 a, .int .i64 b] [(1000, ⟨[.one (.slice (some ⟨1001, 0, (some 0)⟩) (List.length m_P) 1), .one (.slice (some ⟨1002, 0, (some 0)⟩) (List.length m_L) 3)], 33, false⟩), (1001, ⟨[intsL .u8 m_P], 5, true⟩), (1002, ⟨[rowsL RAcc.cells RAcc.nil 3 m_L], 47, false⟩)] (.tuple ⟨[]⟩) [(1000, ⟨[.one (.slice (some ⟨1001, 0, (some 0)⟩) (List.length m_P) 1), .one (.slice (some ⟨1003, 0, (some 0)⟩) (List.length (putF m_P m_L a b)) 3)], 33, false⟩), (1003, ⟨[rowsL RAcc.cells RAcc.nil 3 (putF m_P m_L a b)], 47, false⟩)] := by
  unfold putF
  exact fn_ren (v := .tuple ⟨[]⟩) (H1 := [(1000, ⟨[.one (.slice (some ⟨1001, 0, (some 0)⟩) (List.length m_P) 1), .one (.slice (some ⟨1004, 0, (some 0)⟩) (List.length (m_L ++ [({ At := a, Put := true, B := b } : RAcc)])) 3)], 33, false⟩), (1004, ⟨[rowsL RAcc.cells RAcc.nil 3 (m_L ++ [({ At := a, Put := true, B := b } : RAcc)])], 47, false⟩)]) (fn_of_x hG hM Tryz.func40 (by kernel_rfl) (by kernel_rfl) 400 [.eq 15 (.slice (some ⟨1004, 0, (some 0)⟩) (List.length (m_L ++ [({ At := a, Put := true, B := b } : RAcc)])) 3), .list [rowsL RAcc.cells RAcc.nil 3 (m_L ++ [({ At := a, Put := true, B := b } : RAcc)])]] (J (sl_snoc 1004 3 m_L ({ At := a, Put := true, B := b } : RAcc)) (J (RAcc_snoc m_L ({ At := a, Put := true, B := b } : RAcc)) (J hL (J (rows_size RAcc.cells RAcc.nil 3 47 false m_L) trivial)))) (by kernel_rfl)) [(1000, 1000), (1001, 1001), (1004, 1003)] 1004 (by kernel_rfl)

end Go.Proofs.YtmnhmplcpijanaaGreat
