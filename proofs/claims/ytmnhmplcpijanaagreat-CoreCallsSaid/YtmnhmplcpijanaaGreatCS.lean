/-
  CoreCounts: the ways of the law. Written by gen_core.py. No condition.
-/
import Derived.Test.YtmnhmplcpijanaaGreatCQ
import Derived.Test.YtmnhmplcpijanaaGreatCJ
namespace Go.Proofs.YtmnhmplcpijanaaGreat
open Go VX
set_option linter.unusedVariables false
set_option linter.unusedSimpArgs false
set_option maxRecDepth 100000

/-- a piece of (kotatsu/code.Code).Steps -/
def stepsF_J1 (k : Code) (crosses : Bool) (takes : Bool) : Bool :=
  if (!((byteF k).2)) = true then
    true
  else
    ((k.Op : Int) == 69)
def stepsF_J1_T (k : Code) (crosses : Bool) (takes : Bool) : Tm := [(1, .bool crosses), (2, .bool takes), (3, .pointer (some ⟨1000, 0, none⟩)), (6, .int .i64 0), (8, .bool ((byteF k).2))]
def stepsF_J1_H (k : Code) (crosses : Bool) (takes : Bool) : Heap := [(1000, ⟨[.one (.int .u8 k.Op), .one (.int .u8 k.Mode)], 36, false⟩)]
def stepsF_J1_T1 (k : Code) (crosses : Bool) (takes : Bool) (r_ : Bool) : Tm := [(1, .bool crosses), (2, .bool takes), (3, .pointer (some ⟨1000, 0, none⟩)), (6, .int .i64 0), (23, .bool r_)]
def stepsF_J1_H1 (k : Code) (crosses : Bool) (takes : Bool) (r_ : Bool) : Heap := [(1000, ⟨[.one (.int .u8 k.Op), .one (.int .u8 k.Mode)], 36, false⟩)]
theorem stepsF_J1_p1 (k : Code) (crosses : Bool) (takes : Bool) (d1 : (!((byteF k).2)) = true) : Runs Tryz.prog 88 (bodyOf Tryz.f32 [1, 0, 1, 0]) (stepsF_J1_T k crosses takes) (stepsF_J1_H k crosses takes) 1001 .normal (stepsF_J1_T1 k crosses takes true) (stepsF_J1_H1 k crosses takes true) 1001 := by
  exact runs_of_x hG hM 400 [.yes, .yes, .yes, .yes] (J d1 (J d1 (J d1 (J d1 trivial)))) (by kernel_rfl)
theorem stepsF_J1_p2 (k : Code) (crosses : Bool) (takes : Bool) (d1 : (!((byteF k).2)) = false) : Runs Tryz.prog 88 (bodyOf Tryz.f32 [1, 0, 1, 0]) (stepsF_J1_T k crosses takes) (stepsF_J1_H k crosses takes) 1001 .normal (stepsF_J1_T1 k crosses takes ((k.Op : Int) == 69)) (stepsF_J1_H1 k crosses takes ((k.Op : Int) == 69)) 1001 := by
  exact runs_of_x hG hM 400 [.no, .no, .no, .no] (J d1 (J d1 (J d1 (J d1 trivial)))) (by kernel_rfl)
theorem stepsF_J1_runs (k : Code) (crosses : Bool) (takes : Bool) : Runs Tryz.prog 88 (bodyOf Tryz.f32 [1, 0, 1, 0]) (stepsF_J1_T k crosses takes) (stepsF_J1_H k crosses takes) 1001 .normal (stepsF_J1_T1 k crosses takes (stepsF_J1 k crosses takes)) (stepsF_J1_H1 k crosses takes (stepsF_J1 k crosses takes)) 1001 := by
  rcases bt (!((byteF k).2)) with d1 | d1
  ·
    rw [show stepsF_J1 k crosses takes = true from by unfold stepsF_J1; rw [if_pos d1]]
    exact stepsF_J1_p1 k crosses takes d1
  ·
    rw [show stepsF_J1 k crosses takes = ((k.Op : Int) == 69) from by unfold stepsF_J1; rw [if_neg (nt d1)]]
    exact stepsF_J1_p2 k crosses takes d1

/-- a piece of (kotatsu/code.Code).Steps -/
def stepsF_J2n (k : Code) (crosses : Bool) (takes : Bool) : Bool :=
  if (decide (((ownS k.Op) : Int) > 0)) = true then
    ((k.Mode : Int) != 11)
  else
    false
def stepsF_J2n_T (k : Code) (crosses : Bool) (takes : Bool) : Tm := [(1, .bool crosses), (2, .bool takes), (3, .pointer (some ⟨1000, 0, none⟩)), (6, .int .i64 0), (9, .int .i64 (baseS k.Mode))]
def stepsF_J2n_H (k : Code) (crosses : Bool) (takes : Bool) : Heap := [(1000, ⟨[.one (.int .u8 k.Op), .one (.int .u8 k.Mode)], 36, false⟩)]
def stepsF_J2n_T1 (k : Code) (crosses : Bool) (takes : Bool) (r_ : Bool) : Tm := [(1, .bool crosses), (2, .bool takes), (3, .pointer (some ⟨1000, 0, none⟩)), (6, .int .i64 0), (9, .int .i64 (baseS k.Mode)), (35, .bool r_)]
def stepsF_J2n_H1 (k : Code) (crosses : Bool) (takes : Bool) (r_ : Bool) : Heap := [(1000, ⟨[.one (.int .u8 k.Op), .one (.int .u8 k.Mode)], 36, false⟩)]
theorem stepsF_J2n_p1 (k : Code) (crosses : Bool) (takes : Bool) (d1 : (decide (((ownS k.Op) : Int) > 0)) = true) : Runs Tryz.prog 88 (bodyOf Tryz.f32 [1, 1, 1, 0, 0]) (stepsF_J2n_T k crosses takes) (stepsF_J2n_H k crosses takes) 1001 .normal (stepsF_J2n_T1 k crosses takes ((k.Mode : Int) != 11)) (stepsF_J2n_H1 k crosses takes ((k.Mode : Int) != 11)) 1001 := by
  exact runs_of_x hG hM 400 [.call [] [] 1000 (.int .i64 (ownS k.Op)) [], .yes, .yes, .yes, .yes] (J (ownS_ok k.Op) (J d1 (J d1 (J d1 (J d1 trivial))))) (by kernel_rfl)
theorem stepsF_J2n_p2 (k : Code) (crosses : Bool) (takes : Bool) (d1 : (decide (((ownS k.Op) : Int) > 0)) = false) : Runs Tryz.prog 88 (bodyOf Tryz.f32 [1, 1, 1, 0, 0]) (stepsF_J2n_T k crosses takes) (stepsF_J2n_H k crosses takes) 1001 .normal (stepsF_J2n_T1 k crosses takes false) (stepsF_J2n_H1 k crosses takes false) 1001 := by
  exact runs_of_x hG hM 400 [.call [] [] 1000 (.int .i64 (ownS k.Op)) [], .no, .no, .no, .no] (J (ownS_ok k.Op) (J d1 (J d1 (J d1 (J d1 trivial))))) (by kernel_rfl)
theorem stepsF_J2n_runs (k : Code) (crosses : Bool) (takes : Bool) : Runs Tryz.prog 88 (bodyOf Tryz.f32 [1, 1, 1, 0, 0]) (stepsF_J2n_T k crosses takes) (stepsF_J2n_H k crosses takes) 1001 .normal (stepsF_J2n_T1 k crosses takes (stepsF_J2n k crosses takes)) (stepsF_J2n_H1 k crosses takes (stepsF_J2n k crosses takes)) 1001 := by
  rcases bt (decide (((ownS k.Op) : Int) > 0)) with d1 | d1
  ·
    rw [show stepsF_J2n k crosses takes = ((k.Mode : Int) != 11) from by unfold stepsF_J2n; rw [if_pos d1]]
    exact stepsF_J2n_p1 k crosses takes d1
  ·
    rw [show stepsF_J2n k crosses takes = false from by unfold stepsF_J2n; rw [if_neg (nt d1)]]
    exact stepsF_J2n_p2 k crosses takes d1

/-- a piece of (kotatsu/code.Code).Steps -/
def stepsF_J3n (k : Code) (crosses : Bool) (takes : Bool) : Int :=
  if (stepsF_J2n k crosses takes) = true then
    (ownS k.Op)
  else
    (baseS k.Mode)
def stepsF_J3n_T (k : Code) (crosses : Bool) (takes : Bool) : Tm := [(1, .bool crosses), (2, .bool takes), (3, .pointer (some ⟨1000, 0, none⟩)), (6, .int .i64 0), (9, .int .i64 (baseS k.Mode)), (35, .bool (stepsF_J2n k crosses takes))]
def stepsF_J3n_H (k : Code) (crosses : Bool) (takes : Bool) : Heap := [(1000, ⟨[.one (.int .u8 k.Op), .one (.int .u8 k.Mode)], 36, false⟩)]
def stepsF_J3n_T1 (k : Code) (crosses : Bool) (takes : Bool) (r_ : Int) : Tm := [(1, .bool crosses), (2, .bool takes), (3, .pointer (some ⟨1000, 0, none⟩)), (6, .int .i64 0), (9, .int .i64 r_)]
def stepsF_J3n_H1 (k : Code) (crosses : Bool) (takes : Bool) (r_ : Int) : Heap := [(1000, ⟨[.one (.int .u8 k.Op), .one (.int .u8 k.Mode)], 36, false⟩)]
theorem stepsF_J3n_p1 (k : Code) (crosses : Bool) (takes : Bool) (d1 : (stepsF_J2n k crosses takes) = true) : Runs Tryz.prog 88 (bodyOf Tryz.f32 [1, 1, 1, 0, 1]) (stepsF_J3n_T k crosses takes) (stepsF_J3n_H k crosses takes) 1001 .normal (stepsF_J3n_T1 k crosses takes (ownS k.Op)) (stepsF_J3n_H1 k crosses takes (ownS k.Op)) 1001 := by
  exact runs_of_x hG hM 400 [.yes, .call [] [] 1000 (.int .i64 (ownS k.Op)) []] (J d1 (J (ownS_ok k.Op) trivial)) (by kernel_rfl)
theorem stepsF_J3n_p2 (k : Code) (crosses : Bool) (takes : Bool) (d1 : (stepsF_J2n k crosses takes) = false) : Runs Tryz.prog 88 (bodyOf Tryz.f32 [1, 1, 1, 0, 1]) (stepsF_J3n_T k crosses takes) (stepsF_J3n_H k crosses takes) 1001 .normal (stepsF_J3n_T1 k crosses takes (baseS k.Mode)) (stepsF_J3n_H1 k crosses takes (baseS k.Mode)) 1001 := by
  exact runs_of_x hG hM 400 [.no] (J d1 trivial) (by kernel_rfl)
theorem stepsF_J3n_runs (k : Code) (crosses : Bool) (takes : Bool) : Runs Tryz.prog 88 (bodyOf Tryz.f32 [1, 1, 1, 0, 1]) (stepsF_J3n_T k crosses takes) (stepsF_J3n_H k crosses takes) 1001 .normal (stepsF_J3n_T1 k crosses takes (stepsF_J3n k crosses takes)) (stepsF_J3n_H1 k crosses takes (stepsF_J3n k crosses takes)) 1001 := by
  rcases bt (stepsF_J2n k crosses takes) with d1 | d1
  ·
    rw [show stepsF_J3n k crosses takes = (ownS k.Op) from by unfold stepsF_J3n; rw [if_pos d1]]
    exact stepsF_J3n_p1 k crosses takes d1
  ·
    rw [show stepsF_J3n k crosses takes = (baseS k.Mode) from by unfold stepsF_J3n; rw [if_neg (nt d1)]]
    exact stepsF_J3n_p2 k crosses takes d1

/-- a piece of (kotatsu/code.Code).Steps -/
def stepsF_J4n (k : Code) (crosses : Bool) (takes : Bool) : Bool :=
  if (((aKind k.Op) : Int) == 2) = true then
    ((k.Mode : Int) != 0)
  else
    false
def stepsF_J4n_T (k : Code) (crosses : Bool) (takes : Bool) : Tm := [(1, .bool crosses), (2, .bool takes), (3, .pointer (some ⟨1000, 0, none⟩)), (6, .int .i64 0), (9, .int .i64 (stepsF_J3n k crosses takes)), (10, .int .u8 (aKind k.Op))]
def stepsF_J4n_H (k : Code) (crosses : Bool) (takes : Bool) : Heap := [(1000, ⟨[.one (.int .u8 k.Op), .one (.int .u8 k.Mode)], 36, false⟩)]
def stepsF_J4n_T1 (k : Code) (crosses : Bool) (takes : Bool) (r_ : Bool) : Tm := [(1, .bool crosses), (2, .bool takes), (3, .pointer (some ⟨1000, 0, none⟩)), (6, .int .i64 0), (9, .int .i64 (stepsF_J3n k crosses takes)), (10, .int .u8 (aKind k.Op)), (11, .bool r_)]
def stepsF_J4n_H1 (k : Code) (crosses : Bool) (takes : Bool) (r_ : Bool) : Heap := [(1000, ⟨[.one (.int .u8 k.Op), .one (.int .u8 k.Mode)], 36, false⟩)]
theorem stepsF_J4n_p1 (k : Code) (crosses : Bool) (takes : Bool) (d1 : (((aKind k.Op) : Int) == 2) = true) : Runs Tryz.prog 88 (bodyOf Tryz.f32 [1, 1, 1, 1, 1, 0]) (stepsF_J4n_T k crosses takes) (stepsF_J4n_H k crosses takes) 1001 .normal (stepsF_J4n_T1 k crosses takes ((k.Mode : Int) != 0)) (stepsF_J4n_H1 k crosses takes ((k.Mode : Int) != 0)) 1001 := by
  exact runs_of_x hG hM 400 [.yes, .yes, .yes, .yes] (J d1 (J d1 (J d1 (J d1 trivial)))) (by kernel_rfl)
theorem stepsF_J4n_p2 (k : Code) (crosses : Bool) (takes : Bool) (d1 : (((aKind k.Op) : Int) == 2) = false) : Runs Tryz.prog 88 (bodyOf Tryz.f32 [1, 1, 1, 1, 1, 0]) (stepsF_J4n_T k crosses takes) (stepsF_J4n_H k crosses takes) 1001 .normal (stepsF_J4n_T1 k crosses takes false) (stepsF_J4n_H1 k crosses takes false) 1001 := by
  exact runs_of_x hG hM 400 [.no, .no, .no, .no] (J d1 (J d1 (J d1 (J d1 trivial)))) (by kernel_rfl)
theorem stepsF_J4n_runs (k : Code) (crosses : Bool) (takes : Bool) : Runs Tryz.prog 88 (bodyOf Tryz.f32 [1, 1, 1, 1, 1, 0]) (stepsF_J4n_T k crosses takes) (stepsF_J4n_H k crosses takes) 1001 .normal (stepsF_J4n_T1 k crosses takes (stepsF_J4n k crosses takes)) (stepsF_J4n_H1 k crosses takes (stepsF_J4n k crosses takes)) 1001 := by
  rcases bt (((aKind k.Op) : Int) == 2) with d1 | d1
  ·
    rw [show stepsF_J4n k crosses takes = ((k.Mode : Int) != 0) from by unfold stepsF_J4n; rw [if_pos d1]]
    exact stepsF_J4n_p1 k crosses takes d1
  ·
    rw [show stepsF_J4n k crosses takes = false from by unfold stepsF_J4n; rw [if_neg (nt d1)]]
    exact stepsF_J4n_p2 k crosses takes d1

/-- a piece of (kotatsu/code.Code).Steps -/
def stepsF_J5ny (k : Code) (crosses : Bool) (takes : Bool) : Int :=
  if takes = true then
    (IntKind.i64.wrap ((IntKind.i64.wrap ((stepsF_J3n k crosses takes) + (oneS takes))) + (oneS crosses)))
  else
    (IntKind.i64.wrap ((IntKind.i64.wrap ((stepsF_J3n k crosses takes) + (oneS takes))) + 0))
def stepsF_J5ny_T (k : Code) (crosses : Bool) (takes : Bool) : Tm := [(1, .bool crosses), (2, .bool takes), (6, .int .i64 0), (9, .int .i64 (stepsF_J3n k crosses takes)), (11, .bool (stepsF_J4n k crosses takes))]
def stepsF_J5ny_H (k : Code) (crosses : Bool) (takes : Bool) : Heap := []
def stepsF_J5ny_T1 (k : Code) (crosses : Bool) (takes : Bool) (r_ : Int) : Tm := [(6, .int .i64 r_), (9, .int .i64 (stepsF_J3n k crosses takes)), (11, .bool (stepsF_J4n k crosses takes))]
def stepsF_J5ny_H1 (k : Code) (crosses : Bool) (takes : Bool) (r_ : Int) : Heap := []
theorem stepsF_J5ny_p1 (k : Code) (crosses : Bool) (takes : Bool) (d1 : takes = true) : Runs Tryz.prog 88 (bodyOf Tryz.f32 [1, 1, 1, 1, 1, 1, 0, 1, 0, 1, 0, 0]) (stepsF_J5ny_T k crosses takes) (stepsF_J5ny_H k crosses takes) 1001 .normal (stepsF_J5ny_T1 k crosses takes (IntKind.i64.wrap ((IntKind.i64.wrap ((stepsF_J3n k crosses takes) + (oneS takes))) + (oneS crosses)))) (stepsF_J5ny_H1 k crosses takes (IntKind.i64.wrap ((IntKind.i64.wrap ((stepsF_J3n k crosses takes) + (oneS takes))) + (oneS crosses)))) 1001 := by
  exact runs_of_x hG hM 400 [.call [] [] 1000 (.int .i64 (oneS takes)) [], .yes, .yes, .call [] [] 1000 (.int .i64 (oneS crosses)) []] (J (oneS_ok takes) (J d1 (J d1 (J (oneS_ok crosses) trivial)))) (by kernel_rfl)
theorem stepsF_J5ny_p2 (k : Code) (crosses : Bool) (takes : Bool) (d1 : takes = false) : Runs Tryz.prog 88 (bodyOf Tryz.f32 [1, 1, 1, 1, 1, 1, 0, 1, 0, 1, 0, 0]) (stepsF_J5ny_T k crosses takes) (stepsF_J5ny_H k crosses takes) 1001 .normal (stepsF_J5ny_T1 k crosses takes (IntKind.i64.wrap ((IntKind.i64.wrap ((stepsF_J3n k crosses takes) + (oneS takes))) + 0))) (stepsF_J5ny_H1 k crosses takes (IntKind.i64.wrap ((IntKind.i64.wrap ((stepsF_J3n k crosses takes) + (oneS takes))) + 0))) 1001 := by
  exact runs_of_x hG hM 400 [.call [] [] 1000 (.int .i64 (oneS takes)) [], .no, .no, .call [] [] 1000 (.int .i64 0) []] (J (oneS_ok takes) (J d1 (J d1 (J (oneS_ok false) trivial)))) (by kernel_rfl)
theorem stepsF_J5ny_runs (k : Code) (crosses : Bool) (takes : Bool) : Runs Tryz.prog 88 (bodyOf Tryz.f32 [1, 1, 1, 1, 1, 1, 0, 1, 0, 1, 0, 0]) (stepsF_J5ny_T k crosses takes) (stepsF_J5ny_H k crosses takes) 1001 .normal (stepsF_J5ny_T1 k crosses takes (stepsF_J5ny k crosses takes)) (stepsF_J5ny_H1 k crosses takes (stepsF_J5ny k crosses takes)) 1001 := by
  rcases bt takes with d1 | d1
  ·
    rw [show stepsF_J5ny k crosses takes = (IntKind.i64.wrap ((IntKind.i64.wrap ((stepsF_J3n k crosses takes) + (oneS takes))) + (oneS crosses))) from by unfold stepsF_J5ny; rw [if_pos d1]]
    exact stepsF_J5ny_p1 k crosses takes d1
  ·
    rw [show stepsF_J5ny k crosses takes = (IntKind.i64.wrap ((IntKind.i64.wrap ((stepsF_J3n k crosses takes) + (oneS takes))) + 0)) from by unfold stepsF_J5ny; rw [if_neg (nt d1)]]
    exact stepsF_J5ny_p2 k crosses takes d1

/-- a piece of (kotatsu/code.Code).Steps -/
def stepsF_J6nnn (k : Code) (crosses : Bool) (takes : Bool) : Bool :=
  if ((k.Mode : Int) == 7) = true then
    ((k.Mode : Int) == 7)
  else
    ((k.Mode : Int) == 9)
def stepsF_J6nnn_T (k : Code) (crosses : Bool) (takes : Bool) : Tm := [(1, .bool crosses), (6, .int .i64 0), (9, .int .i64 (stepsF_J3n k crosses takes)), (10, .int .u8 (aKind k.Op)), (11, .bool (stepsF_J4n k crosses takes)), (50, .int .u8 k.Mode), (63, .bool ((k.Mode : Int) == 7))]
def stepsF_J6nnn_H (k : Code) (crosses : Bool) (takes : Bool) : Heap := []
def stepsF_J6nnn_T1 (k : Code) (crosses : Bool) (takes : Bool) (r_ : Bool) : Tm := [(1, .bool crosses), (6, .int .i64 0), (9, .int .i64 (stepsF_J3n k crosses takes)), (10, .int .u8 (aKind k.Op)), (11, .bool (stepsF_J4n k crosses takes)), (63, .bool r_)]
def stepsF_J6nnn_H1 (k : Code) (crosses : Bool) (takes : Bool) (r_ : Bool) : Heap := []
theorem stepsF_J6nnn_p1 (k : Code) (crosses : Bool) (takes : Bool) (e1 : ((k.Mode : Int) == 7) = true) : Runs Tryz.prog 88 (bodyOf Tryz.f32 [1, 1, 1, 1, 1, 1, 0, 1, 0, 1, 1, 0, 1, 1, 1]) (stepsF_J6nnn_T k crosses takes) (stepsF_J6nnn_H k crosses takes) 1001 .normal (stepsF_J6nnn_T1 k crosses takes ((k.Mode : Int) == 7)) (stepsF_J6nnn_H1 k crosses takes ((k.Mode : Int) == 7)) 1001 := by
  exact runs_of_x hG hM 400 [.yes] (J e1 trivial) (by kernel_rfl)
theorem stepsF_J6nnn_p2 (k : Code) (crosses : Bool) (takes : Bool) (e1 : ((k.Mode : Int) == 7) = false) : Runs Tryz.prog 88 (bodyOf Tryz.f32 [1, 1, 1, 1, 1, 1, 0, 1, 0, 1, 1, 0, 1, 1, 1]) (stepsF_J6nnn_T k crosses takes) (stepsF_J6nnn_H k crosses takes) 1001 .normal (stepsF_J6nnn_T1 k crosses takes ((k.Mode : Int) == 9)) (stepsF_J6nnn_H1 k crosses takes ((k.Mode : Int) == 9)) 1001 := by
  exact runs_of_x hG hM 400 [.no] (J e1 trivial) (by kernel_rfl)
theorem stepsF_J6nnn_runs (k : Code) (crosses : Bool) (takes : Bool) : Runs Tryz.prog 88 (bodyOf Tryz.f32 [1, 1, 1, 1, 1, 1, 0, 1, 0, 1, 1, 0, 1, 1, 1]) (stepsF_J6nnn_T k crosses takes) (stepsF_J6nnn_H k crosses takes) 1001 .normal (stepsF_J6nnn_T1 k crosses takes (stepsF_J6nnn k crosses takes)) (stepsF_J6nnn_H1 k crosses takes (stepsF_J6nnn k crosses takes)) 1001 := by
  rcases bt ((k.Mode : Int) == 7) with e1 | e1
  ·
    rw [show stepsF_J6nnn k crosses takes = ((k.Mode : Int) == 7) from by unfold stepsF_J6nnn; rw [if_pos e1]]
    exact stepsF_J6nnn_p1 k crosses takes e1
  ·
    rw [show stepsF_J6nnn k crosses takes = ((k.Mode : Int) == 9) from by unfold stepsF_J6nnn; rw [if_neg (nt e1)]]
    exact stepsF_J6nnn_p2 k crosses takes e1

/-- a piece of (kotatsu/code.Code).Steps -/
def stepsF_J5nn (k : Code) (crosses : Bool) (takes : Bool) : Bool :=
  if ((k.Mode : Int) == 6) = true then
    ((k.Mode : Int) == 6)
  else
    (stepsF_J6nnn k crosses takes)
def stepsF_J5nn_T (k : Code) (crosses : Bool) (takes : Bool) : Tm := [(1, .bool crosses), (6, .int .i64 0), (9, .int .i64 (stepsF_J3n k crosses takes)), (10, .int .u8 (aKind k.Op)), (11, .bool (stepsF_J4n k crosses takes)), (50, .int .u8 k.Mode), (63, .bool ((k.Mode : Int) == 6))]
def stepsF_J5nn_H (k : Code) (crosses : Bool) (takes : Bool) : Heap := []
def stepsF_J5nn_T1 (k : Code) (crosses : Bool) (takes : Bool) (r_ : Bool) : Tm := [(1, .bool crosses), (6, .int .i64 0), (9, .int .i64 (stepsF_J3n k crosses takes)), (10, .int .u8 (aKind k.Op)), (11, .bool (stepsF_J4n k crosses takes)), (63, .bool r_)]
def stepsF_J5nn_H1 (k : Code) (crosses : Bool) (takes : Bool) (r_ : Bool) : Heap := []
theorem stepsF_J5nn_p1 (k : Code) (crosses : Bool) (takes : Bool) (d1 : ((k.Mode : Int) == 6) = true) : Runs Tryz.prog 88 (bodyOf Tryz.f32 [1, 1, 1, 1, 1, 1, 0, 1, 0, 1, 1, 0, 1]) (stepsF_J5nn_T k crosses takes) (stepsF_J5nn_H k crosses takes) 1001 .normal (stepsF_J5nn_T1 k crosses takes ((k.Mode : Int) == 6)) (stepsF_J5nn_H1 k crosses takes ((k.Mode : Int) == 6)) 1001 := by
  exact runs_of_x hG hM 400 [.yes] (J d1 trivial) (by kernel_rfl)
theorem stepsF_J5nn_p2 (k : Code) (crosses : Bool) (takes : Bool) (d1 : ((k.Mode : Int) == 6) = false) : Runs Tryz.prog 88 (bodyOf Tryz.f32 [1, 1, 1, 1, 1, 1, 0, 1, 0, 1, 1, 0, 1]) (stepsF_J5nn_T k crosses takes) (stepsF_J5nn_H k crosses takes) 1001 .normal (stepsF_J5nn_T1 k crosses takes (stepsF_J6nnn k crosses takes)) (stepsF_J5nn_H1 k crosses takes (stepsF_J6nnn k crosses takes)) 1001 := by
  exact runs_of_x hG hM 400 [.no, .segk 2 0 [1, 6, 9, 10, 11, 50, 63] [] .normal (stepsF_J6nnn_T1 k crosses takes (stepsF_J6nnn k crosses takes)) (stepsF_J6nnn_H1 k crosses takes (stepsF_J6nnn k crosses takes)) 1001] (J d1 (J (stepsF_J6nnn_runs k crosses takes) trivial)) (by kernel_rfl)
theorem stepsF_J5nn_runs (k : Code) (crosses : Bool) (takes : Bool) : Runs Tryz.prog 88 (bodyOf Tryz.f32 [1, 1, 1, 1, 1, 1, 0, 1, 0, 1, 1, 0, 1]) (stepsF_J5nn_T k crosses takes) (stepsF_J5nn_H k crosses takes) 1001 .normal (stepsF_J5nn_T1 k crosses takes (stepsF_J5nn k crosses takes)) (stepsF_J5nn_H1 k crosses takes (stepsF_J5nn k crosses takes)) 1001 := by
  rcases bt ((k.Mode : Int) == 6) with d1 | d1
  ·
    rw [show stepsF_J5nn k crosses takes = ((k.Mode : Int) == 6) from by unfold stepsF_J5nn; rw [if_pos d1]]
    exact stepsF_J5nn_p1 k crosses takes d1
  ·
    rw [show stepsF_J5nn k crosses takes = (stepsF_J6nnn k crosses takes) from by unfold stepsF_J5nn; rw [if_neg (nt d1)]]
    exact stepsF_J5nn_p2 k crosses takes d1

/-- a piece of (kotatsu/code.Code).Steps -/
def stepsF_J7nny (k : Code) (crosses : Bool) (takes : Bool) : Int :=
  if (((aKind k.Op) : Int) == 1) = true then
    (IntKind.i64.wrap ((IntKind.i64.wrap ((IntKind.i64.wrap ((stepsF_J3n k crosses takes) + (oneS crosses))) + (oneS (((aKind k.Op) : Int) == 3)))) + (IntKind.i64.wrap (3 * (oneS (stepsF_J4n k crosses takes))))))
  else
    (IntKind.i64.wrap ((IntKind.i64.wrap ((IntKind.i64.wrap ((stepsF_J3n k crosses takes) + 0)) + (oneS (((aKind k.Op) : Int) == 3)))) + (IntKind.i64.wrap (3 * (oneS (stepsF_J4n k crosses takes))))))
def stepsF_J7nny_T (k : Code) (crosses : Bool) (takes : Bool) : Tm := [(1, .bool crosses), (6, .int .i64 0), (9, .int .i64 (stepsF_J3n k crosses takes)), (10, .int .u8 (aKind k.Op)), (11, .bool (stepsF_J4n k crosses takes))]
def stepsF_J7nny_H (k : Code) (crosses : Bool) (takes : Bool) : Heap := []
def stepsF_J7nny_T1 (k : Code) (crosses : Bool) (takes : Bool) (r_ : Int) : Tm := [(6, .int .i64 r_), (9, .int .i64 (stepsF_J3n k crosses takes)), (11, .bool (stepsF_J4n k crosses takes))]
def stepsF_J7nny_H1 (k : Code) (crosses : Bool) (takes : Bool) (r_ : Int) : Heap := []
theorem stepsF_J7nny_p1 (k : Code) (crosses : Bool) (takes : Bool) (d1 : (((aKind k.Op) : Int) == 1) = true) : Runs Tryz.prog 88 (bodyOf Tryz.f32 [1, 1, 1, 1, 1, 1, 0, 1, 0, 1, 1, 1, 0, 0]) (stepsF_J7nny_T k crosses takes) (stepsF_J7nny_H k crosses takes) 1001 .normal (stepsF_J7nny_T1 k crosses takes (IntKind.i64.wrap ((IntKind.i64.wrap ((IntKind.i64.wrap ((stepsF_J3n k crosses takes) + (oneS crosses))) + (oneS (((aKind k.Op) : Int) == 3)))) + (IntKind.i64.wrap (3 * (oneS (stepsF_J4n k crosses takes))))))) (stepsF_J7nny_H1 k crosses takes (IntKind.i64.wrap ((IntKind.i64.wrap ((IntKind.i64.wrap ((stepsF_J3n k crosses takes) + (oneS crosses))) + (oneS (((aKind k.Op) : Int) == 3)))) + (IntKind.i64.wrap (3 * (oneS (stepsF_J4n k crosses takes))))))) 1001 := by
  exact runs_of_x hG hM 400 [.yes, .yes, .call [] [] 1000 (.int .i64 (oneS crosses)) [], .call [] [] 1000 (.int .i64 (oneS (((aKind k.Op) : Int) == 3))) [], .call [] [] 1000 (.int .i64 (oneS (stepsF_J4n k crosses takes))) []] (J d1 (J d1 (J (oneS_ok crosses) (J (oneS_ok (((aKind k.Op) : Int) == 3)) (J (oneS_ok (stepsF_J4n k crosses takes)) trivial))))) (by kernel_rfl)
theorem stepsF_J7nny_p2 (k : Code) (crosses : Bool) (takes : Bool) (d1 : (((aKind k.Op) : Int) == 1) = false) : Runs Tryz.prog 88 (bodyOf Tryz.f32 [1, 1, 1, 1, 1, 1, 0, 1, 0, 1, 1, 1, 0, 0]) (stepsF_J7nny_T k crosses takes) (stepsF_J7nny_H k crosses takes) 1001 .normal (stepsF_J7nny_T1 k crosses takes (IntKind.i64.wrap ((IntKind.i64.wrap ((IntKind.i64.wrap ((stepsF_J3n k crosses takes) + 0)) + (oneS (((aKind k.Op) : Int) == 3)))) + (IntKind.i64.wrap (3 * (oneS (stepsF_J4n k crosses takes))))))) (stepsF_J7nny_H1 k crosses takes (IntKind.i64.wrap ((IntKind.i64.wrap ((IntKind.i64.wrap ((stepsF_J3n k crosses takes) + 0)) + (oneS (((aKind k.Op) : Int) == 3)))) + (IntKind.i64.wrap (3 * (oneS (stepsF_J4n k crosses takes))))))) 1001 := by
  exact runs_of_x hG hM 400 [.no, .no, .call [] [] 1000 (.int .i64 0) [], .call [] [] 1000 (.int .i64 (oneS (((aKind k.Op) : Int) == 3))) [], .call [] [] 1000 (.int .i64 (oneS (stepsF_J4n k crosses takes))) []] (J d1 (J d1 (J (oneS_ok false) (J (oneS_ok (((aKind k.Op) : Int) == 3)) (J (oneS_ok (stepsF_J4n k crosses takes)) trivial))))) (by kernel_rfl)
theorem stepsF_J7nny_runs (k : Code) (crosses : Bool) (takes : Bool) : Runs Tryz.prog 88 (bodyOf Tryz.f32 [1, 1, 1, 1, 1, 1, 0, 1, 0, 1, 1, 1, 0, 0]) (stepsF_J7nny_T k crosses takes) (stepsF_J7nny_H k crosses takes) 1001 .normal (stepsF_J7nny_T1 k crosses takes (stepsF_J7nny k crosses takes)) (stepsF_J7nny_H1 k crosses takes (stepsF_J7nny k crosses takes)) 1001 := by
  rcases bt (((aKind k.Op) : Int) == 1) with d1 | d1
  ·
    rw [show stepsF_J7nny k crosses takes = (IntKind.i64.wrap ((IntKind.i64.wrap ((IntKind.i64.wrap ((stepsF_J3n k crosses takes) + (oneS crosses))) + (oneS (((aKind k.Op) : Int) == 3)))) + (IntKind.i64.wrap (3 * (oneS (stepsF_J4n k crosses takes)))))) from by unfold stepsF_J7nny; rw [if_pos d1]]
    exact stepsF_J7nny_p1 k crosses takes d1
  ·
    rw [show stepsF_J7nny k crosses takes = (IntKind.i64.wrap ((IntKind.i64.wrap ((IntKind.i64.wrap ((stepsF_J3n k crosses takes) + 0)) + (oneS (((aKind k.Op) : Int) == 3)))) + (IntKind.i64.wrap (3 * (oneS (stepsF_J4n k crosses takes)))))) from by unfold stepsF_J7nny; rw [if_neg (nt d1)]]
    exact stepsF_J7nny_p2 k crosses takes d1

/-- (kotatsu/code.Code).Steps -/
def stepsF (k : Code) (crosses : Bool) (takes : Bool) : Int :=
  if (stepsF_J1 k crosses takes) = true then
    0
  else
    if ((k.Mode : Int) == 10) = true then
      (stepsF_J5ny k crosses takes)
    else
      if (stepsF_J5nn k crosses takes) = true then
        (stepsF_J7nny k crosses takes)
      else
        (IntKind.i64.wrap ((stepsF_J3n k crosses takes) + (IntKind.i64.wrap (2 * (oneS (stepsF_J4n k crosses takes))))))
theorem stepsF_ok (k : Code) (crosses : Bool) (takes : Bool) : FnSpec Tryz.prog 32 1000 [Code.enc k, .bool crosses, .bool takes] [] (.int .i64 (stepsF k crosses takes)) [] := by
  unfold stepsF
  rcases bt (stepsF_J1 k crosses takes) with c1 | c1
  · rw [if_pos c1]
    exact fn_of_x hG hM Tryz.func32 (by kernel_rfl) (by kernel_rfl) 400 [.call [] [] 1000 (.tuple ⟨[.int .u8 ((byteF k).1), .bool ((byteF k).2)]⟩) [], .segk 0 2 [1, 2, 3, 6, 8] [1000] .normal (stepsF_J1_T1 k crosses takes (stepsF_J1 k crosses takes)) (stepsF_J1_H1 k crosses takes (stepsF_J1 k crosses takes)) 1001, .yes] (J (byteF_ok k) (J (stepsF_J1_runs k crosses takes) (J c1 trivial))) (by kernel_rfl)
  · rw [if_neg (nt c1)]
    rcases bt ((k.Mode : Int) == 10) with c2 | c2
    · rw [if_pos c2]
      exact fn_of_x hG hM Tryz.func32 (by kernel_rfl) (by kernel_rfl) 400 [.call [] [] 1000 (.tuple ⟨[.int .u8 ((byteF k).1), .bool ((byteF k).2)]⟩) [], .segk 0 2 [1, 2, 3, 6, 8] [1000] .normal (stepsF_J1_T1 k crosses takes (stepsF_J1 k crosses takes)) (stepsF_J1_H1 k crosses takes (stepsF_J1 k crosses takes)) 1001, .no, .call [] [] 1000 (.int .i64 (baseS k.Mode)) [], .segk 0 5 [1, 2, 3, 6, 9] [1000] .normal (stepsF_J2n_T1 k crosses takes (stepsF_J2n k crosses takes)) (stepsF_J2n_H1 k crosses takes (stepsF_J2n k crosses takes)) 1001, .segk 2 0 [1, 2, 3, 6, 9, 35] [1000] .normal (stepsF_J3n_T1 k crosses takes (stepsF_J3n k crosses takes)) (stepsF_J3n_H1 k crosses takes (stepsF_J3n k crosses takes)) 1001, .call [] [] 1000 (.int .u8 (aKind k.Op)) [], .segk 0 8 [1, 2, 3, 6, 9, 10] [1000] .normal (stepsF_J4n_T1 k crosses takes (stepsF_J4n k crosses takes)) (stepsF_J4n_H1 k crosses takes (stepsF_J4n k crosses takes)) 1001, .yes, .segk 0 11 [1, 2, 6, 9, 11] [] .normal (stepsF_J5ny_T1 k crosses takes (stepsF_J5ny k crosses takes)) (stepsF_J5ny_H1 k crosses takes (stepsF_J5ny k crosses takes)) 1001] (J (byteF_ok k) (J (stepsF_J1_runs k crosses takes) (J c1 (J (baseS_ok k.Mode) (J (stepsF_J2n_runs k crosses takes) (J (stepsF_J3n_runs k crosses takes) (J (aKind_ok k.Op) (J (stepsF_J4n_runs k crosses takes) (J c2 (J (stepsF_J5ny_runs k crosses takes) trivial)))))))))) (by kernel_rfl)
    · rw [if_neg (nt c2)]
      rcases bt (stepsF_J5nn k crosses takes) with c3 | c3
      · rw [if_pos c3]
        exact fn_of_x hG hM Tryz.func32 (by kernel_rfl) (by kernel_rfl) 400 [.call [] [] 1000 (.tuple ⟨[.int .u8 ((byteF k).1), .bool ((byteF k).2)]⟩) [], .segk 0 2 [1, 2, 3, 6, 8] [1000] .normal (stepsF_J1_T1 k crosses takes (stepsF_J1 k crosses takes)) (stepsF_J1_H1 k crosses takes (stepsF_J1 k crosses takes)) 1001, .no, .call [] [] 1000 (.int .i64 (baseS k.Mode)) [], .segk 0 5 [1, 2, 3, 6, 9] [1000] .normal (stepsF_J2n_T1 k crosses takes (stepsF_J2n k crosses takes)) (stepsF_J2n_H1 k crosses takes (stepsF_J2n k crosses takes)) 1001, .segk 2 0 [1, 2, 3, 6, 9, 35] [1000] .normal (stepsF_J3n_T1 k crosses takes (stepsF_J3n k crosses takes)) (stepsF_J3n_H1 k crosses takes (stepsF_J3n k crosses takes)) 1001, .call [] [] 1000 (.int .u8 (aKind k.Op)) [], .segk 0 8 [1, 2, 3, 6, 9, 10] [1000] .normal (stepsF_J4n_T1 k crosses takes (stepsF_J4n k crosses takes)) (stepsF_J4n_H1 k crosses takes (stepsF_J4n k crosses takes)) 1001, .no, .segk 2 0 [1, 6, 9, 10, 11, 50, 63] [] .normal (stepsF_J5nn_T1 k crosses takes (stepsF_J5nn k crosses takes)) (stepsF_J5nn_H1 k crosses takes (stepsF_J5nn k crosses takes)) 1001, .yes, .segk 0 15 [1, 6, 9, 10, 11] [] .normal (stepsF_J7nny_T1 k crosses takes (stepsF_J7nny k crosses takes)) (stepsF_J7nny_H1 k crosses takes (stepsF_J7nny k crosses takes)) 1001] (J (byteF_ok k) (J (stepsF_J1_runs k crosses takes) (J c1 (J (baseS_ok k.Mode) (J (stepsF_J2n_runs k crosses takes) (J (stepsF_J3n_runs k crosses takes) (J (aKind_ok k.Op) (J (stepsF_J4n_runs k crosses takes) (J c2 (J (stepsF_J5nn_runs k crosses takes) (J c3 (J (stepsF_J7nny_runs k crosses takes) trivial)))))))))))) (by kernel_rfl)
      · rw [if_neg (nt c3)]
        exact fn_of_x hG hM Tryz.func32 (by kernel_rfl) (by kernel_rfl) 400 [.call [] [] 1000 (.tuple ⟨[.int .u8 ((byteF k).1), .bool ((byteF k).2)]⟩) [], .segk 0 2 [1, 2, 3, 6, 8] [1000] .normal (stepsF_J1_T1 k crosses takes (stepsF_J1 k crosses takes)) (stepsF_J1_H1 k crosses takes (stepsF_J1 k crosses takes)) 1001, .no, .call [] [] 1000 (.int .i64 (baseS k.Mode)) [], .segk 0 5 [1, 2, 3, 6, 9] [1000] .normal (stepsF_J2n_T1 k crosses takes (stepsF_J2n k crosses takes)) (stepsF_J2n_H1 k crosses takes (stepsF_J2n k crosses takes)) 1001, .segk 2 0 [1, 2, 3, 6, 9, 35] [1000] .normal (stepsF_J3n_T1 k crosses takes (stepsF_J3n k crosses takes)) (stepsF_J3n_H1 k crosses takes (stepsF_J3n k crosses takes)) 1001, .call [] [] 1000 (.int .u8 (aKind k.Op)) [], .segk 0 8 [1, 2, 3, 6, 9, 10] [1000] .normal (stepsF_J4n_T1 k crosses takes (stepsF_J4n k crosses takes)) (stepsF_J4n_H1 k crosses takes (stepsF_J4n k crosses takes)) 1001, .no, .segk 2 0 [1, 6, 9, 10, 11, 50, 63] [] .normal (stepsF_J5nn_T1 k crosses takes (stepsF_J5nn k crosses takes)) (stepsF_J5nn_H1 k crosses takes (stepsF_J5nn k crosses takes)) 1001, .no, .call [] [] 1000 (.int .i64 (oneS (stepsF_J4n k crosses takes))) []] (J (byteF_ok k) (J (stepsF_J1_runs k crosses takes) (J c1 (J (baseS_ok k.Mode) (J (stepsF_J2n_runs k crosses takes) (J (stepsF_J3n_runs k crosses takes) (J (aKind_ok k.Op) (J (stepsF_J4n_runs k crosses takes) (J c2 (J (stepsF_J5nn_runs k crosses takes) (J c3 (J (oneS_ok (stepsF_J4n k crosses takes)) trivial)))))))))))) (by kernel_rfl)

/-- a piece of kotatsu/kotatsulaw10.CoreCounts -/
def lawCounts_J4nnnnn (b : Int) (low : Int) (xd : Int) : Bool :=
  if (((codeF b).Mode : Int) == 10) = true then
    (((bAnd .u16 (IntKind.u16.wrap (xd + (IntKind.u16.wrap (IntKind.i8.wrap low)))) 65280) : Int) != (bAnd .u16 xd 65280))
  else
    false
def lawCounts_J4nnnnn_T (b : Int) (low : Int) (xd : Int) : Tm := [(1, .int .u8 low), (9, .pointer (some ⟨1000, 0, none⟩)), (10, .bool false), (11, .pointer (some ⟨1001, 0, none⟩)), (12, .pointer (some ⟨1004, 0, none⟩)), (13, .bool false), (14, .int .u16 xd), (89, .bool (((codeF b).Mode : Int) == 10))]
def lawCounts_J4nnnnn_H (b : Int) (low : Int) (xd : Int) : Heap := []
def lawCounts_J4nnnnn_T1 (b : Int) (low : Int) (xd : Int) (r_ : Bool) : Tm := [(9, .pointer (some ⟨1000, 0, none⟩)), (10, .bool false), (11, .pointer (some ⟨1001, 0, none⟩)), (12, .pointer (some ⟨1004, 0, none⟩)), (13, .bool r_)]
def lawCounts_J4nnnnn_H1 (b : Int) (low : Int) (xd : Int) (r_ : Bool) : Heap := []
theorem lawCounts_J4nnnnn_p1 (b : Int) (low : Int) (xd : Int) (g1 : (((codeF b).Mode : Int) == 10) = true) : Runs Tryz.prog 128 (bodyOf Tryz.f10 [1, 1, 1, 1, 1, 1, 1, 1, 0, 1, 0, 1, 1, 1, 1, 1, 1, 1]) (lawCounts_J4nnnnn_T b low xd) (lawCounts_J4nnnnn_H b low xd) 1005 .normal (lawCounts_J4nnnnn_T1 b low xd (((bAnd .u16 (IntKind.u16.wrap (xd + (IntKind.u16.wrap (IntKind.i8.wrap low)))) 65280) : Int) != (bAnd .u16 xd 65280))) (lawCounts_J4nnnnn_H1 b low xd (((bAnd .u16 (IntKind.u16.wrap (xd + (IntKind.u16.wrap (IntKind.i8.wrap low)))) 65280) : Int) != (bAnd .u16 xd 65280))) 1005 := by
  exact runs_of_x hG hM 400 [.yes] (J g1 trivial) (by kernel_rfl)
theorem lawCounts_J4nnnnn_p2 (b : Int) (low : Int) (xd : Int) (g1 : (((codeF b).Mode : Int) == 10) = false) : Runs Tryz.prog 128 (bodyOf Tryz.f10 [1, 1, 1, 1, 1, 1, 1, 1, 0, 1, 0, 1, 1, 1, 1, 1, 1, 1]) (lawCounts_J4nnnnn_T b low xd) (lawCounts_J4nnnnn_H b low xd) 1005 .normal (lawCounts_J4nnnnn_T1 b low xd false) (lawCounts_J4nnnnn_H1 b low xd false) 1005 := by
  exact runs_of_x hG hM 400 [.no] (J g1 trivial) (by kernel_rfl)
theorem lawCounts_J4nnnnn_runs (b : Int) (low : Int) (xd : Int) : Runs Tryz.prog 128 (bodyOf Tryz.f10 [1, 1, 1, 1, 1, 1, 1, 1, 0, 1, 0, 1, 1, 1, 1, 1, 1, 1]) (lawCounts_J4nnnnn_T b low xd) (lawCounts_J4nnnnn_H b low xd) 1005 .normal (lawCounts_J4nnnnn_T1 b low xd (lawCounts_J4nnnnn b low xd)) (lawCounts_J4nnnnn_H1 b low xd (lawCounts_J4nnnnn b low xd)) 1005 := by
  rcases bt (((codeF b).Mode : Int) == 10) with g1 | g1
  ·
    rw [show lawCounts_J4nnnnn b low xd = (((bAnd .u16 (IntKind.u16.wrap (xd + (IntKind.u16.wrap (IntKind.i8.wrap low)))) 65280) : Int) != (bAnd .u16 xd 65280)) from by unfold lawCounts_J4nnnnn; rw [if_pos g1]]
    exact lawCounts_J4nnnnn_p1 b low xd g1
  ·
    rw [show lawCounts_J4nnnnn b low xd = false from by unfold lawCounts_J4nnnnn; rw [if_neg (nt g1)]]
    exact lawCounts_J4nnnnn_p2 b low xd g1

/-- a piece of kotatsu/kotatsulaw10.CoreCounts -/
def lawCounts_J3nnnn (b : Int) (low : Int) (p : Int) (r : Regs) (xd : Int) : Bool :=
  if (((codeF b).Mode : Int) == 9) = true then
    (decide (((IntKind.i64.wrap ((IntKind.i64.wrap p) + (IntKind.i64.wrap r.U.Y))) : Int) > 255))
  else
    (lawCounts_J4nnnnn b low xd)
def lawCounts_J3nnnn_T (b : Int) (low : Int) (p : Int) (r : Regs) (xd : Int) : Tm := [(1, .int .u8 low), (3, .int .u8 p), (9, .pointer (some ⟨1000, 0, none⟩)), (10, .bool false), (11, .pointer (some ⟨1001, 0, none⟩)), (12, .pointer (some ⟨1004, 0, none⟩)), (13, .bool false), (14, .int .u16 xd), (58, .int .u8 ((codeF b).Mode)), (79, .bool (((codeF b).Mode : Int) == 9))]
def lawCounts_J3nnnn_H (b : Int) (low : Int) (p : Int) (r : Regs) (xd : Int) : Heap := [(1000, ⟨[.one (.int .u8 r.U.A), .one (.int .u8 r.U.X), .one (.int .u8 r.U.Y), .one (.int .u8 r.U.S), .one (.int .u8 r.U.P), .one (.int .u16 (bOr .u16 32768 (bAnd .u16 r.PC 32764)))], 27, false⟩)]
def lawCounts_J3nnnn_T1 (b : Int) (low : Int) (p : Int) (r : Regs) (xd : Int) (r_ : Bool) : Tm := [(9, .pointer (some ⟨1000, 0, none⟩)), (10, .bool false), (11, .pointer (some ⟨1001, 0, none⟩)), (12, .pointer (some ⟨1004, 0, none⟩)), (13, .bool r_)]
def lawCounts_J3nnnn_H1 (b : Int) (low : Int) (p : Int) (r : Regs) (xd : Int) (r_ : Bool) : Heap := [(1000, ⟨[.one (.int .u8 r.U.A), .one (.int .u8 r.U.X), .one (.int .u8 r.U.Y), .one (.int .u8 r.U.S), .one (.int .u8 r.U.P), .one (.int .u16 (bOr .u16 32768 (bAnd .u16 r.PC 32764)))], 27, false⟩)]
theorem lawCounts_J3nnnn_p1 (b : Int) (low : Int) (p : Int) (r : Regs) (xd : Int) (f1 : (((codeF b).Mode : Int) == 9) = true) : Runs Tryz.prog 128 (bodyOf Tryz.f10 [1, 1, 1, 1, 1, 1, 1, 1, 0, 1, 0, 1, 1, 1, 1, 1]) (lawCounts_J3nnnn_T b low p r xd) (lawCounts_J3nnnn_H b low p r xd) 1005 .normal (lawCounts_J3nnnn_T1 b low p r xd (decide (((IntKind.i64.wrap ((IntKind.i64.wrap p) + (IntKind.i64.wrap r.U.Y))) : Int) > 255))) (lawCounts_J3nnnn_H1 b low p r xd (decide (((IntKind.i64.wrap ((IntKind.i64.wrap p) + (IntKind.i64.wrap r.U.Y))) : Int) > 255))) 1005 := by
  exact runs_of_x hG hM 400 [.yes] (J f1 trivial) (by kernel_rfl)
theorem lawCounts_J3nnnn_p2 (b : Int) (low : Int) (p : Int) (r : Regs) (xd : Int) (f1 : (((codeF b).Mode : Int) == 9) = false) : Runs Tryz.prog 128 (bodyOf Tryz.f10 [1, 1, 1, 1, 1, 1, 1, 1, 0, 1, 0, 1, 1, 1, 1, 1]) (lawCounts_J3nnnn_T b low p r xd) (lawCounts_J3nnnn_H b low p r xd) 1005 .normal (lawCounts_J3nnnn_T1 b low p r xd (lawCounts_J4nnnnn b low xd)) (lawCounts_J3nnnn_H1 b low p r xd (lawCounts_J4nnnnn b low xd)) 1005 := by
  exact runs_of_x hG hM 400 [.no, .segk 2 0 [1, 9, 10, 11, 12, 13, 14, 89] [] .normal (lawCounts_J4nnnnn_T1 b low xd (lawCounts_J4nnnnn b low xd)) (lawCounts_J4nnnnn_H1 b low xd (lawCounts_J4nnnnn b low xd)) 1005] (J f1 (J (lawCounts_J4nnnnn_runs b low xd) trivial)) (by kernel_rfl)
theorem lawCounts_J3nnnn_runs (b : Int) (low : Int) (p : Int) (r : Regs) (xd : Int) : Runs Tryz.prog 128 (bodyOf Tryz.f10 [1, 1, 1, 1, 1, 1, 1, 1, 0, 1, 0, 1, 1, 1, 1, 1]) (lawCounts_J3nnnn_T b low p r xd) (lawCounts_J3nnnn_H b low p r xd) 1005 .normal (lawCounts_J3nnnn_T1 b low p r xd (lawCounts_J3nnnn b low p r xd)) (lawCounts_J3nnnn_H1 b low p r xd (lawCounts_J3nnnn b low p r xd)) 1005 := by
  rcases bt (((codeF b).Mode : Int) == 9) with f1 | f1
  ·
    rw [show lawCounts_J3nnnn b low p r xd = (decide (((IntKind.i64.wrap ((IntKind.i64.wrap p) + (IntKind.i64.wrap r.U.Y))) : Int) > 255)) from by unfold lawCounts_J3nnnn; rw [if_pos f1]]
    exact lawCounts_J3nnnn_p1 b low p r xd f1
  ·
    rw [show lawCounts_J3nnnn b low p r xd = (lawCounts_J4nnnnn b low xd) from by unfold lawCounts_J3nnnn; rw [if_neg (nt f1)]]
    exact lawCounts_J3nnnn_p2 b low p r xd f1

/-- a piece of kotatsu/kotatsulaw10.CoreCounts -/
def lawCounts_J2nnn (b : Int) (low : Int) (p : Int) (r : Regs) (xd : Int) : Bool :=
  if (((codeF b).Mode : Int) == 7) = true then
    (decide (((IntKind.i64.wrap ((IntKind.i64.wrap low) + (IntKind.i64.wrap r.U.Y))) : Int) > 255))
  else
    (lawCounts_J3nnnn b low p r xd)
def lawCounts_J2nnn_T (b : Int) (low : Int) (p : Int) (r : Regs) (xd : Int) : Tm := [(1, .int .u8 low), (3, .int .u8 p), (9, .pointer (some ⟨1000, 0, none⟩)), (10, .bool false), (11, .pointer (some ⟨1001, 0, none⟩)), (12, .pointer (some ⟨1004, 0, none⟩)), (13, .bool false), (14, .int .u16 xd), (58, .int .u8 ((codeF b).Mode)), (69, .bool (((codeF b).Mode : Int) == 7))]
def lawCounts_J2nnn_H (b : Int) (low : Int) (p : Int) (r : Regs) (xd : Int) : Heap := [(1000, ⟨[.one (.int .u8 r.U.A), .one (.int .u8 r.U.X), .one (.int .u8 r.U.Y), .one (.int .u8 r.U.S), .one (.int .u8 r.U.P), .one (.int .u16 (bOr .u16 32768 (bAnd .u16 r.PC 32764)))], 27, false⟩)]
def lawCounts_J2nnn_T1 (b : Int) (low : Int) (p : Int) (r : Regs) (xd : Int) (r_ : Bool) : Tm := [(9, .pointer (some ⟨1000, 0, none⟩)), (10, .bool false), (11, .pointer (some ⟨1001, 0, none⟩)), (12, .pointer (some ⟨1004, 0, none⟩)), (13, .bool r_)]
def lawCounts_J2nnn_H1 (b : Int) (low : Int) (p : Int) (r : Regs) (xd : Int) (r_ : Bool) : Heap := [(1000, ⟨[.one (.int .u8 r.U.A), .one (.int .u8 r.U.X), .one (.int .u8 r.U.Y), .one (.int .u8 r.U.S), .one (.int .u8 r.U.P), .one (.int .u16 (bOr .u16 32768 (bAnd .u16 r.PC 32764)))], 27, false⟩)]
theorem lawCounts_J2nnn_p1 (b : Int) (low : Int) (p : Int) (r : Regs) (xd : Int) (e1 : (((codeF b).Mode : Int) == 7) = true) : Runs Tryz.prog 128 (bodyOf Tryz.f10 [1, 1, 1, 1, 1, 1, 1, 1, 0, 1, 0, 1, 1, 1]) (lawCounts_J2nnn_T b low p r xd) (lawCounts_J2nnn_H b low p r xd) 1005 .normal (lawCounts_J2nnn_T1 b low p r xd (decide (((IntKind.i64.wrap ((IntKind.i64.wrap low) + (IntKind.i64.wrap r.U.Y))) : Int) > 255))) (lawCounts_J2nnn_H1 b low p r xd (decide (((IntKind.i64.wrap ((IntKind.i64.wrap low) + (IntKind.i64.wrap r.U.Y))) : Int) > 255))) 1005 := by
  exact runs_of_x hG hM 400 [.yes] (J e1 trivial) (by kernel_rfl)
theorem lawCounts_J2nnn_p2 (b : Int) (low : Int) (p : Int) (r : Regs) (xd : Int) (e1 : (((codeF b).Mode : Int) == 7) = false) : Runs Tryz.prog 128 (bodyOf Tryz.f10 [1, 1, 1, 1, 1, 1, 1, 1, 0, 1, 0, 1, 1, 1]) (lawCounts_J2nnn_T b low p r xd) (lawCounts_J2nnn_H b low p r xd) 1005 .normal (lawCounts_J2nnn_T1 b low p r xd (lawCounts_J3nnnn b low p r xd)) (lawCounts_J2nnn_H1 b low p r xd (lawCounts_J3nnnn b low p r xd)) 1005 := by
  exact runs_of_x hG hM 400 [.no, .segk 2 0 [1, 3, 9, 10, 11, 12, 13, 14, 58, 79] [1000] .normal (lawCounts_J3nnnn_T1 b low p r xd (lawCounts_J3nnnn b low p r xd)) (lawCounts_J3nnnn_H1 b low p r xd (lawCounts_J3nnnn b low p r xd)) 1005] (J e1 (J (lawCounts_J3nnnn_runs b low p r xd) trivial)) (by kernel_rfl)
theorem lawCounts_J2nnn_runs (b : Int) (low : Int) (p : Int) (r : Regs) (xd : Int) : Runs Tryz.prog 128 (bodyOf Tryz.f10 [1, 1, 1, 1, 1, 1, 1, 1, 0, 1, 0, 1, 1, 1]) (lawCounts_J2nnn_T b low p r xd) (lawCounts_J2nnn_H b low p r xd) 1005 .normal (lawCounts_J2nnn_T1 b low p r xd (lawCounts_J2nnn b low p r xd)) (lawCounts_J2nnn_H1 b low p r xd (lawCounts_J2nnn b low p r xd)) 1005 := by
  rcases bt (((codeF b).Mode : Int) == 7) with e1 | e1
  ·
    rw [show lawCounts_J2nnn b low p r xd = (decide (((IntKind.i64.wrap ((IntKind.i64.wrap low) + (IntKind.i64.wrap r.U.Y))) : Int) > 255)) from by unfold lawCounts_J2nnn; rw [if_pos e1]]
    exact lawCounts_J2nnn_p1 b low p r xd e1
  ·
    rw [show lawCounts_J2nnn b low p r xd = (lawCounts_J3nnnn b low p r xd) from by unfold lawCounts_J2nnn; rw [if_neg (nt e1)]]
    exact lawCounts_J2nnn_p2 b low p r xd e1

/-- a piece of kotatsu/kotatsulaw10.CoreCounts -/
def lawCounts_J1nn (b : Int) (low : Int) (p : Int) (r : Regs) (xd : Int) : Bool :=
  if (((codeF b).Mode : Int) == 6) = true then
    (decide (((IntKind.i64.wrap ((IntKind.i64.wrap low) + (IntKind.i64.wrap r.U.X))) : Int) > 255))
  else
    (lawCounts_J2nnn b low p r xd)
def lawCounts_J1nn_T (b : Int) (low : Int) (p : Int) (r : Regs) (xd : Int) : Tm := [(1, .int .u8 low), (3, .int .u8 p), (9, .pointer (some ⟨1000, 0, none⟩)), (10, .bool false), (11, .pointer (some ⟨1001, 0, none⟩)), (12, .pointer (some ⟨1004, 0, none⟩)), (13, .bool false), (14, .int .u16 xd), (58, .int .u8 ((codeF b).Mode)), (59, .bool (((codeF b).Mode : Int) == 6))]
def lawCounts_J1nn_H (b : Int) (low : Int) (p : Int) (r : Regs) (xd : Int) : Heap := [(1000, ⟨[.one (.int .u8 r.U.A), .one (.int .u8 r.U.X), .one (.int .u8 r.U.Y), .one (.int .u8 r.U.S), .one (.int .u8 r.U.P), .one (.int .u16 (bOr .u16 32768 (bAnd .u16 r.PC 32764)))], 27, false⟩)]
def lawCounts_J1nn_T1 (b : Int) (low : Int) (p : Int) (r : Regs) (xd : Int) (r_ : Bool) : Tm := [(9, .pointer (some ⟨1000, 0, none⟩)), (10, .bool false), (11, .pointer (some ⟨1001, 0, none⟩)), (12, .pointer (some ⟨1004, 0, none⟩)), (13, .bool r_)]
def lawCounts_J1nn_H1 (b : Int) (low : Int) (p : Int) (r : Regs) (xd : Int) (r_ : Bool) : Heap := [(1000, ⟨[.one (.int .u8 r.U.A), .one (.int .u8 r.U.X), .one (.int .u8 r.U.Y), .one (.int .u8 r.U.S), .one (.int .u8 r.U.P), .one (.int .u16 (bOr .u16 32768 (bAnd .u16 r.PC 32764)))], 27, false⟩)]
theorem lawCounts_J1nn_p1 (b : Int) (low : Int) (p : Int) (r : Regs) (xd : Int) (d1 : (((codeF b).Mode : Int) == 6) = true) : Runs Tryz.prog 128 (bodyOf Tryz.f10 [1, 1, 1, 1, 1, 1, 1, 1, 0, 1, 0, 1]) (lawCounts_J1nn_T b low p r xd) (lawCounts_J1nn_H b low p r xd) 1005 .normal (lawCounts_J1nn_T1 b low p r xd (decide (((IntKind.i64.wrap ((IntKind.i64.wrap low) + (IntKind.i64.wrap r.U.X))) : Int) > 255))) (lawCounts_J1nn_H1 b low p r xd (decide (((IntKind.i64.wrap ((IntKind.i64.wrap low) + (IntKind.i64.wrap r.U.X))) : Int) > 255))) 1005 := by
  exact runs_of_x hG hM 400 [.yes] (J d1 trivial) (by kernel_rfl)
theorem lawCounts_J1nn_p2 (b : Int) (low : Int) (p : Int) (r : Regs) (xd : Int) (d1 : (((codeF b).Mode : Int) == 6) = false) : Runs Tryz.prog 128 (bodyOf Tryz.f10 [1, 1, 1, 1, 1, 1, 1, 1, 0, 1, 0, 1]) (lawCounts_J1nn_T b low p r xd) (lawCounts_J1nn_H b low p r xd) 1005 .normal (lawCounts_J1nn_T1 b low p r xd (lawCounts_J2nnn b low p r xd)) (lawCounts_J1nn_H1 b low p r xd (lawCounts_J2nnn b low p r xd)) 1005 := by
  exact runs_of_x hG hM 400 [.no, .segk 2 0 [1, 3, 9, 10, 11, 12, 13, 14, 58, 69] [1000] .normal (lawCounts_J2nnn_T1 b low p r xd (lawCounts_J2nnn b low p r xd)) (lawCounts_J2nnn_H1 b low p r xd (lawCounts_J2nnn b low p r xd)) 1005] (J d1 (J (lawCounts_J2nnn_runs b low p r xd) trivial)) (by kernel_rfl)
theorem lawCounts_J1nn_runs (b : Int) (low : Int) (p : Int) (r : Regs) (xd : Int) : Runs Tryz.prog 128 (bodyOf Tryz.f10 [1, 1, 1, 1, 1, 1, 1, 1, 0, 1, 0, 1]) (lawCounts_J1nn_T b low p r xd) (lawCounts_J1nn_H b low p r xd) 1005 .normal (lawCounts_J1nn_T1 b low p r xd (lawCounts_J1nn b low p r xd)) (lawCounts_J1nn_H1 b low p r xd (lawCounts_J1nn b low p r xd)) 1005 := by
  rcases bt (((codeF b).Mode : Int) == 6) with d1 | d1
  ·
    rw [show lawCounts_J1nn b low p r xd = (decide (((IntKind.i64.wrap ((IntKind.i64.wrap low) + (IntKind.i64.wrap r.U.X))) : Int) > 255)) from by unfold lawCounts_J1nn; rw [if_pos d1]]
    exact lawCounts_J1nn_p1 b low p r xd d1
  ·
    rw [show lawCounts_J1nn b low p r xd = (lawCounts_J2nnn b low p r xd) from by unfold lawCounts_J1nn; rw [if_neg (nt d1)]]
    exact lawCounts_J1nn_p2 b low p r xd d1

/-- a loop of kotatsu/kotatsulaw10.CoreCounts: one round -/
inductive lawCounts_L5nn (b : Int) (low : Int) (high : Int) (p : Int) (r : Regs) (xd : (List RAcc) × Int × Core) : ((List RAcc) × Int × Core) ⊕ ((List RAcc) × Int × Core) → Prop
  | p1 (d1 : ((xd.2.1 : Int) == 0) = true) (w1d : Inv xd.2.2) (w2d : (List.length xd.1) + 1 ≤ 1048576) : lawCounts_L5nn b low high p r xd (.inl ((cycleF xd.2.2 ([p] : List Int) xd.1 false false).2.1, (IntKind.i64.wrap (xd.2.1 + 1)), (cycleF xd.2.2 ([p] : List Int) xd.1 false false).1))
  | p2 (d1 : ((xd.2.1 : Int) == 0) = false) (d2 : (!(c_Ready xd.2.2)) = true) (d3 : (decide ((xd.2.1 : Int) < 20)) = true) (w1d : Inv xd.2.2) (w2d : (List.length xd.1) + 1 ≤ 1048576) : lawCounts_L5nn b low high p r xd (.inl ((cycleF xd.2.2 ([p] : List Int) xd.1 false false).2.1, (IntKind.i64.wrap (xd.2.1 + 1)), (cycleF xd.2.2 ([p] : List Int) xd.1 false false).1))
  | p3 (d1 : ((xd.2.1 : Int) == 0) = false) (d2 : (!(c_Ready xd.2.2)) = true) (d3 : (decide ((xd.2.1 : Int) < 20)) = false) : lawCounts_L5nn b low high p r xd (.inr (xd.1, xd.2.1, xd.2.2))
  | p4 (d1 : ((xd.2.1 : Int) == 0) = false) (d2 : (!(c_Ready xd.2.2)) = false) : lawCounts_L5nn b low high p r xd (.inr (xd.1, xd.2.1, xd.2.2))
def lawCounts_L5nn_T (b : Int) (low : Int) (high : Int) (p : Int) (r : Regs) (xd : (List RAcc) × Int × Core) : Tm := [(9, .pointer (some ⟨1000, 0, none⟩)), (10, .bool false), (11, .pointer (some ⟨1001, 0, none⟩)), (12, .pointer (some ⟨1004, 0, none⟩)), (13, .bool (lawCounts_J1nn b low p r (IntKind.u16.wrap ((bOr .u16 32768 (bAnd .u16 r.PC 32764)) + 2)))), (15, .pointer (some ⟨1005, 0, none⟩)), (16, .int .i64 xd.2.1)]
def lawCounts_L5nn_H (b : Int) (low : Int) (high : Int) (p : Int) (r : Regs) (xd : (List RAcc) × Int × Core) : Heap := [(1002, ⟨[intsL .u8 ([p] : List Int)], 5, false⟩), (1004, ⟨[.one (.slice (some ⟨1002, 0, (some 0)⟩) (List.length ([p] : List Int)) 1), .one (.slice (some ⟨1006, 0, (some 0)⟩) (List.length xd.1) 3)], 33, false⟩), (1005, (Core.blk xd.2.2)), (1006, ⟨[rowsL RAcc.cells RAcc.nil 3 xd.1], 47, false⟩)]
def lawCounts_L5nn_T1 (b : Int) (low : Int) (high : Int) (p : Int) (r : Regs) (y_ : (List RAcc) × Int × Core) : Tm := lawCounts_L5nn_T b low high p r y_
def lawCounts_L5nn_H1 (b : Int) (low : Int) (high : Int) (p : Int) (r : Regs) (y_ : (List RAcc) × Int × Core) : Heap := lawCounts_L5nn_H b low high p r y_
def lawCounts_L5nn_ex (_ : (List RAcc) × Int × Core) : Ex := .exit 1
theorem lawCounts_L5nn_p1 (b : Int) (low : Int) (high : Int) (p : Int) (r : Regs) (xd : (List RAcc) × Int × Core) (d1 : ((xd.2.1 : Int) == 0) = true) (w1d : Inv xd.2.2) (w2d : (List.length xd.1) + 1 ≤ 1048576) : RunsM Tryz.prog 128 (bodyOf Tryz.f10 [1, 1, 1, 1, 1, 1, 1, 1, 1, 1, 1, 0, 0, 0]) 1006 (lawCounts_L5nn_T b low high p r xd) (lawCounts_L5nn_H b low high p r xd) 1007 .normal (lawCounts_L5nn_T b low high p r ((cycleF xd.2.2 ([p] : List Int) xd.1 false false).2.1, (IntKind.i64.wrap (xd.2.1 + 1)), (cycleF xd.2.2 ([p] : List Int) xd.1 false false).1)) (lawCounts_L5nn_H b low high p r ((cycleF xd.2.2 ([p] : List Int) xd.1 false false).2.1, (IntKind.i64.wrap (xd.2.1 + 1)), (cycleF xd.2.2 ([p] : List Int) xd.1 false false).1)) 1007 := by
  exact runsM_of_x hG hM 400 1006 [.yes, .yes, .yes, .yes, .yes, .yes, .yes, .callr [(1005, 1000), (1004, 1001), (1002, 1002), (1006, 1003)] [1002] [(1004, 1007)] 1004 (Acc.enc ((cycleF xd.2.2 ([p] : List Int) xd.1 false false).2.2)) [(1000, Core.blk ((cycleF xd.2.2 ([p] : List Int) xd.1 false false).1)), (1001, ⟨[.one (.slice (some ⟨1002, 0, (some 0)⟩) (List.length ([p] : List Int)) 1), .one (.slice (some ⟨1004, 0, (some 0)⟩) (List.length ((cycleF xd.2.2 ([p] : List Int) xd.1 false false).2.1)) 3)], 33, false⟩), (1004, ⟨[rowsL RAcc.cells RAcc.nil 3 ((cycleF xd.2.2 ([p] : List Int) xd.1 false false).2.1)], 47, false⟩)]] [(1000, 1000), (1001, 1001), (1002, 1002), (1004, 1004), (1005, 1005), (1007, 1006)] (J d1 (J d1 (J d1 (J d1 (J d1 (J d1 (J (Eq.refl true) (J (cycleF_ok xd.2.2 ([p] : List Int) xd.1 false false w1d w2d) trivial)))))))) (by kernel_rfl)
theorem lawCounts_L5nn_p2 (b : Int) (low : Int) (high : Int) (p : Int) (r : Regs) (xd : (List RAcc) × Int × Core) (d1 : ((xd.2.1 : Int) == 0) = false) (d2 : (!(c_Ready xd.2.2)) = true) (d3 : (decide ((xd.2.1 : Int) < 20)) = true) (w1d : Inv xd.2.2) (w2d : (List.length xd.1) + 1 ≤ 1048576) : RunsM Tryz.prog 128 (bodyOf Tryz.f10 [1, 1, 1, 1, 1, 1, 1, 1, 1, 1, 1, 0, 0, 0]) 1006 (lawCounts_L5nn_T b low high p r xd) (lawCounts_L5nn_H b low high p r xd) 1007 .normal (lawCounts_L5nn_T b low high p r ((cycleF xd.2.2 ([p] : List Int) xd.1 false false).2.1, (IntKind.i64.wrap (xd.2.1 + 1)), (cycleF xd.2.2 ([p] : List Int) xd.1 false false).1)) (lawCounts_L5nn_H b low high p r ((cycleF xd.2.2 ([p] : List Int) xd.1 false false).2.1, (IntKind.i64.wrap (xd.2.1 + 1)), (cycleF xd.2.2 ([p] : List Int) xd.1 false false).1)) 1007 := by
  exact runsM_of_x hG hM 400 1006 [.no, .no, .call [(1005, 1000)] [] 1001 (.bool (c_Ready xd.2.2)) [(1000, Core.blk xd.2.2)], .no, .no, .yes, .yes, .no, .yes, .no, .yes, .callr [(1005, 1000), (1004, 1001), (1002, 1002), (1006, 1003)] [1002] [(1004, 1007)] 1004 (Acc.enc ((cycleF xd.2.2 ([p] : List Int) xd.1 false false).2.2)) [(1000, Core.blk ((cycleF xd.2.2 ([p] : List Int) xd.1 false false).1)), (1001, ⟨[.one (.slice (some ⟨1002, 0, (some 0)⟩) (List.length ([p] : List Int)) 1), .one (.slice (some ⟨1004, 0, (some 0)⟩) (List.length ((cycleF xd.2.2 ([p] : List Int) xd.1 false false).2.1)) 3)], 33, false⟩), (1004, ⟨[rowsL RAcc.cells RAcc.nil 3 ((cycleF xd.2.2 ([p] : List Int) xd.1 false false).2.1)], 47, false⟩)]] [(1000, 1000), (1001, 1001), (1002, 1002), (1004, 1004), (1005, 1005), (1007, 1006)] (J d1 (J d1 (J (c_Ready_ok xd.2.2) (J d1 (J d1 (J d2 (J d2 (J d1 (J d2 (J d1 (J d3 (J (cycleF_ok xd.2.2 ([p] : List Int) xd.1 false false w1d w2d) trivial)))))))))))) (by kernel_rfl)
theorem lawCounts_L5nn_p3 (b : Int) (low : Int) (high : Int) (p : Int) (r : Regs) (xd : (List RAcc) × Int × Core) (d1 : ((xd.2.1 : Int) == 0) = false) (d2 : (!(c_Ready xd.2.2)) = true) (d3 : (decide ((xd.2.1 : Int) < 20)) = false) : RunsM Tryz.prog 128 (bodyOf Tryz.f10 [1, 1, 1, 1, 1, 1, 1, 1, 1, 1, 1, 0, 0, 0]) 1006 (lawCounts_L5nn_T b low high p r xd) (lawCounts_L5nn_H b low high p r xd) 1007 (.exit 1) (lawCounts_L5nn_T1 b low high p r (xd.1, xd.2.1, xd.2.2)) (lawCounts_L5nn_H1 b low high p r (xd.1, xd.2.1, xd.2.2)) 1007 := by
  exact runsM_of_x hG hM 400 1006 [.no, .no, .call [(1005, 1000)] [] 1001 (.bool (c_Ready xd.2.2)) [(1000, Core.blk xd.2.2)], .no, .no, .yes, .yes, .no, .yes, .no, .no] [(1000, 1000), (1001, 1001), (1002, 1002), (1004, 1004), (1005, 1005), (1006, 1006)] (J d1 (J d1 (J (c_Ready_ok xd.2.2) (J d1 (J d1 (J d2 (J d2 (J d1 (J d2 (J d1 (J d3 trivial))))))))))) (by kernel_rfl)
theorem lawCounts_L5nn_p4 (b : Int) (low : Int) (high : Int) (p : Int) (r : Regs) (xd : (List RAcc) × Int × Core) (d1 : ((xd.2.1 : Int) == 0) = false) (d2 : (!(c_Ready xd.2.2)) = false) : RunsM Tryz.prog 128 (bodyOf Tryz.f10 [1, 1, 1, 1, 1, 1, 1, 1, 1, 1, 1, 0, 0, 0]) 1006 (lawCounts_L5nn_T b low high p r xd) (lawCounts_L5nn_H b low high p r xd) 1007 (.exit 1) (lawCounts_L5nn_T1 b low high p r (xd.1, xd.2.1, xd.2.2)) (lawCounts_L5nn_H1 b low high p r (xd.1, xd.2.1, xd.2.2)) 1007 := by
  exact runsM_of_x hG hM 400 1006 [.no, .no, .call [(1005, 1000)] [] 1001 (.bool (c_Ready xd.2.2)) [(1000, Core.blk xd.2.2)], .no, .no, .no, .no, .no, .no, .no, .no] [(1000, 1000), (1001, 1001), (1002, 1002), (1004, 1004), (1005, 1005), (1006, 1006)] (J d1 (J d1 (J (c_Ready_ok xd.2.2) (J d1 (J d1 (J d2 (J d2 (J d1 (J d2 (J d1 (J (Eq.refl false) trivial))))))))))) (by kernel_rfl)
theorem lawCounts_L5nn_runs (b : Int) (low : Int) (high : Int) (p : Int) (r : Regs) (x_ : (List RAcc) × Int × Core) (y_ : (List RAcc) × Int × Core) (h_ : LoopR (lawCounts_L5nn b low high p r) x_ y_) : RunsM Tryz.prog 128 (.block 1 (.loop (bodyOf Tryz.f10 [1, 1, 1, 1, 1, 1, 1, 1, 1, 1, 1, 0, 0, 0]))) 1006 (lawCounts_L5nn_T b low high p r x_) (lawCounts_L5nn_H b low high p r x_) 1007 (outOf 1 (lawCounts_L5nn_ex y_)) (lawCounts_L5nn_T1 b low high p r y_) (lawCounts_L5nn_H1 b low high p r y_) 1007 := by
  refine block_loopM hG (lawCounts_L5nn b low high p r) (lawCounts_L5nn_T b low high p r) (lawCounts_L5nn_H b low high p r) lawCounts_L5nn_ex (lawCounts_L5nn_T1 b low high p r) (lawCounts_L5nn_H1 b low high p r) ?_ ?_ ?_ x_ y_ h_
  · intro s r _ hr; cases hr
  · intro xd y_ hx
    cases hx with
    | p1 d1 w1d w2d => exact lawCounts_L5nn_p1 b low high p r xd d1 w1d w2d
    | p2 d1 d2 d3 w1d w2d => exact lawCounts_L5nn_p2 b low high p r xd d1 d2 d3 w1d w2d
  · intro xd y_ hx
    cases hx with
    | p3 d1 d2 d3 => exact lawCounts_L5nn_p3 b low high p r xd d1 d2 d3
    | p4 d1 d2 => exact lawCounts_L5nn_p4 b low high p r xd d1 d2

theorem lawCounts_p1 (b : Int) (low : Int) (high : Int) (p : Int) (r : Regs) (w_b : rng 256 b) (c1 : (!awakeF) = false) (c2 : (((codeF b).Op : Int) == 69) = true) : FnSpec Tryz.prog 10 1000 [.int .u8 b, .int .u8 low, .int .u8 high, .int .u8 p, Regs.enc r] [] (.bool true) [] := by
  exact fn_of_x hG hM Tryz.func10 (by kernel_rfl) (by kernel_rfl) 400 [.call [] [] 1000 (.bool awakeF) [], .no, .call [] [] 1000 (Code.enc (codeF b)) [], .yes] (J (awakeF_ok) (J c1 (J (codeF_ok b w_b) (J c2 trivial)))) (by kernel_rfl)
theorem lawCounts_p2 (b : Int) (low : Int) (high : Int) (p : Int) (r : Regs) (w_b : rng 256 b) (c1 : (!awakeF) = false) (c2 : (((codeF b).Op : Int) == 69) = false) (r5 : (List RAcc) × Int × Core) (l5 : LoopR (lawCounts_L5nn b low high p r) ([({ At := (IntKind.i64.wrap (bOr .u16 32768 (bAnd .u16 r.PC 32764))), Put := false, B := (IntKind.i64.wrap b) } : RAcc), ({ At := (IntKind.i64.wrap ((IntKind.i64.wrap (bOr .u16 32768 (bAnd .u16 r.PC 32764))) + 1)), Put := false, B := (IntKind.i64.wrap low) } : RAcc), ({ At := (IntKind.i64.wrap ((IntKind.i64.wrap (bOr .u16 32768 (bAnd .u16 r.PC 32764))) + 2)), Put := false, B := (IntKind.i64.wrap high) } : RAcc)], 0, (coreFrom ({ r with PC := (bOr .u16 32768 (bAnd .u16 r.PC 32764)) } : Regs))) r5) (w1c : 0 ≤ ((codeF b).Op) ∧ ((codeF b).Op) < 256) : FnSpec Tryz.prog 10 1000 [.int .u8 b, .int .u8 low, .int .u8 high, .int .u8 p, Regs.enc r] [] (.bool ((r5.2.1 : Int) == (stepsF (codeF b) (lawCounts_J1nn b low p r (IntKind.u16.wrap ((bOr .u16 32768 (bAnd .u16 r.PC 32764)) + 2))) (uTakes r.U ((codeF b).Op))))) [] := by
  exact fn_of_x hG hM Tryz.func10 (by kernel_rfl) (by kernel_rfl) 400 [.call [] [] 1000 (.bool awakeF) [], .no, .call [] [] 1000 (Code.enc (codeF b)) [], .no, .list [intsL .u8 ([p] : List Int)], .list [rowsL RAcc.cells RAcc.nil 3 ([({ At := (IntKind.i64.wrap (bOr .u16 32768 (bAnd .u16 r.PC 32764))), Put := false, B := (IntKind.i64.wrap b) } : RAcc), ({ At := (IntKind.i64.wrap ((IntKind.i64.wrap (bOr .u16 32768 (bAnd .u16 r.PC 32764))) + 1)), Put := false, B := (IntKind.i64.wrap low) } : RAcc), ({ At := (IntKind.i64.wrap ((IntKind.i64.wrap (bOr .u16 32768 (bAnd .u16 r.PC 32764))) + 2)), Put := false, B := (IntKind.i64.wrap high) } : RAcc)])], .segk 2 0 [1, 3, 9, 10, 11, 12, 13, 14, 58, 59] [1000] .normal (lawCounts_J1nn_T1 b low p r (IntKind.u16.wrap ((bOr .u16 32768 (bAnd .u16 r.PC 32764)) + 2)) (lawCounts_J1nn b low p r (IntKind.u16.wrap ((bOr .u16 32768 (bAnd .u16 r.PC 32764)) + 2)))) (lawCounts_J1nn_H1 b low p r (IntKind.u16.wrap ((bOr .u16 32768 (bAnd .u16 r.PC 32764)) + 2)) (lawCounts_J1nn b low p r (IntKind.u16.wrap ((bOr .u16 32768 (bAnd .u16 r.PC 32764)) + 2)))) 1005, .call [] [(1001, 1005)] 1000 (.pointer (some ⟨1001, 0, none⟩)) [(1001, Core.blk (coreFrom ({ r with PC := (bOr .u16 32768 (bAnd .u16 r.PC 32764)) } : Regs)))], .segk 1 1 [9, 10, 11, 12, 13, 15, 16] [1002, 1003, 1004, 1005] .normal (lawCounts_L5nn_T1 b low high p r r5) (lawCounts_L5nn_H1 b low high p r r5) 1007, .call [] [] 1000 (.bool (uTakes r.U ((codeF b).Op))) [], .call [] [] 1000 (.int .i64 (stepsF (codeF b) (lawCounts_J1nn b low p r (IntKind.u16.wrap ((bOr .u16 32768 (bAnd .u16 r.PC 32764)) + 2))) (uTakes r.U ((codeF b).Op)))) []] (J (awakeF_ok) (J c1 (J (codeF_ok b w_b) (J c2 (J (intsL_of (k := .u8) ([p] : List Int)) (J (RAcc_of [({ At := (IntKind.i64.wrap (bOr .u16 32768 (bAnd .u16 r.PC 32764))), Put := false, B := (IntKind.i64.wrap b) } : RAcc), ({ At := (IntKind.i64.wrap ((IntKind.i64.wrap (bOr .u16 32768 (bAnd .u16 r.PC 32764))) + 1)), Put := false, B := (IntKind.i64.wrap low) } : RAcc), ({ At := (IntKind.i64.wrap ((IntKind.i64.wrap (bOr .u16 32768 (bAnd .u16 r.PC 32764))) + 2)), Put := false, B := (IntKind.i64.wrap high) } : RAcc)]) (J (lawCounts_J1nn_runs b low p r (IntKind.u16.wrap ((bOr .u16 32768 (bAnd .u16 r.PC 32764)) + 2))) (J (coreFrom_ok ({ r with PC := (bOr .u16 32768 (bAnd .u16 r.PC 32764)) } : Regs)) (J (runs_of_pre hG (lawCounts_L5nn_runs b low high p r ([({ At := (IntKind.i64.wrap (bOr .u16 32768 (bAnd .u16 r.PC 32764))), Put := false, B := (IntKind.i64.wrap b) } : RAcc), ({ At := (IntKind.i64.wrap ((IntKind.i64.wrap (bOr .u16 32768 (bAnd .u16 r.PC 32764))) + 1)), Put := false, B := (IntKind.i64.wrap low) } : RAcc), ({ At := (IntKind.i64.wrap ((IntKind.i64.wrap (bOr .u16 32768 (bAnd .u16 r.PC 32764))) + 2)), Put := false, B := (IntKind.i64.wrap high) } : RAcc)], 0, (coreFrom ({ r with PC := (bOr .u16 32768 (bAnd .u16 r.PC 32764)) } : Regs))) r5 l5) [(1000, 1000), (1001, 1001), (1002, 1002), (1004, 1004), (1005, 1005), (1003, 1006)] (T := [(9, .pointer (some ⟨1000, 0, none⟩)), (10, .bool false), (11, .pointer (some ⟨1001, 0, none⟩)), (12, .pointer (some ⟨1004, 0, none⟩)), (13, .bool (lawCounts_J1nn b low p r (IntKind.u16.wrap ((bOr .u16 32768 (bAnd .u16 r.PC 32764)) + 2)))), (15, .pointer (some ⟨1005, 0, none⟩)), (16, .int .i64 0)]) (H := [(1002, ⟨[intsL .u8 ([p] : List Int)], 5, false⟩), (1003, ⟨[rowsL RAcc.cells RAcc.nil 3 ([({ At := (IntKind.i64.wrap (bOr .u16 32768 (bAnd .u16 r.PC 32764))), Put := false, B := (IntKind.i64.wrap b) } : RAcc), ({ At := (IntKind.i64.wrap ((IntKind.i64.wrap (bOr .u16 32768 (bAnd .u16 r.PC 32764))) + 1)), Put := false, B := (IntKind.i64.wrap low) } : RAcc), ({ At := (IntKind.i64.wrap ((IntKind.i64.wrap (bOr .u16 32768 (bAnd .u16 r.PC 32764))) + 2)), Put := false, B := (IntKind.i64.wrap high) } : RAcc)])], 47, false⟩), (1004, ⟨[.one (.slice (some ⟨1002, 0, (some 0)⟩) (List.length ([p] : List Int)) 1), .one (.slice (some ⟨1003, 0, (some 0)⟩) (List.length ([({ At := (IntKind.i64.wrap (bOr .u16 32768 (bAnd .u16 r.PC 32764))), Put := false, B := (IntKind.i64.wrap b) } : RAcc), ({ At := (IntKind.i64.wrap ((IntKind.i64.wrap (bOr .u16 32768 (bAnd .u16 r.PC 32764))) + 1)), Put := false, B := (IntKind.i64.wrap low) } : RAcc), ({ At := (IntKind.i64.wrap ((IntKind.i64.wrap (bOr .u16 32768 (bAnd .u16 r.PC 32764))) + 2)), Put := false, B := (IntKind.i64.wrap high) } : RAcc)])) 3)], 33, false⟩), (1005, (Core.blk (coreFrom ({ r with PC := (bOr .u16 32768 (bAnd .u16 r.PC 32764)) } : Regs))))]) (by kernel_rfl)) (J (uTakes_ok r.U ((codeF b).Op) w1c) (J (stepsF_ok (codeF b) (lawCounts_J1nn b low p r (IntKind.u16.wrap ((bOr .u16 32768 (bAnd .u16 r.PC 32764)) + 2))) (uTakes r.U ((codeF b).Op))) trivial))))))))))) (by kernel_rfl)

end Go.Proofs.YtmnhmplcpijanaaGreat
