/-
  A code's byte, and its cycles. Written by gen_core.py. No condition.
-/
import Derived.Test.YtmnhmplcpijanaaGreatCO
namespace Go.Proofs.YtmnhmplcpijanaaGreat
open Go VX
set_option linter.unusedVariables false
set_option linter.unusedSimpArgs false
set_option maxRecDepth 100000

/-- a piece of kotatsu/code.own -/
def ownS_J2n (op : Int) : Bool :=
  if ((op : Int) == 66) = true then
    ((op : Int) == 66)
  else
    ((op : Int) == 60)
def ownS_J2n_T (op : Int) : Tm := [(2, .int .i64 0), (3, .int .u8 op), (4, .bool ((op : Int) == 66))]
def ownS_J2n_H (op : Int) : Heap := []
def ownS_J2n_T1 (op : Int) (r_ : Bool) : Tm := [(2, .int .i64 0), (3, .int .u8 op), (4, .bool r_)]
def ownS_J2n_H1 (op : Int) (r_ : Bool) : Heap := []
theorem ownS_J2n_p1 (op : Int) (e1 : ((op : Int) == 66) = true) : Runs Tryz.prog 17 (bodyOf Tryz.f54 [1, 0, 1, 0, 0, 1, 1, 1]) (ownS_J2n_T op) (ownS_J2n_H op) 1000 .normal (ownS_J2n_T1 op ((op : Int) == 66)) (ownS_J2n_H1 op ((op : Int) == 66)) 1000 := by
  exact runs_of_x hG hM 400 [.yes] (J e1 trivial) (by kernel_rfl)
theorem ownS_J2n_p2 (op : Int) (e1 : ((op : Int) == 66) = false) : Runs Tryz.prog 17 (bodyOf Tryz.f54 [1, 0, 1, 0, 0, 1, 1, 1]) (ownS_J2n_T op) (ownS_J2n_H op) 1000 .normal (ownS_J2n_T1 op ((op : Int) == 60)) (ownS_J2n_H1 op ((op : Int) == 60)) 1000 := by
  exact runs_of_x hG hM 400 [.no] (J e1 trivial) (by kernel_rfl)
theorem ownS_J2n_runs (op : Int) : Runs Tryz.prog 17 (bodyOf Tryz.f54 [1, 0, 1, 0, 0, 1, 1, 1]) (ownS_J2n_T op) (ownS_J2n_H op) 1000 .normal (ownS_J2n_T1 op (ownS_J2n op)) (ownS_J2n_H1 op (ownS_J2n op)) 1000 := by
  rcases bt ((op : Int) == 66) with e1 | e1
  ·
    rw [show ownS_J2n op = ((op : Int) == 66) from by unfold ownS_J2n; rw [if_pos e1]]
    exact ownS_J2n_p1 op e1
  ·
    rw [show ownS_J2n op = ((op : Int) == 60) from by unfold ownS_J2n; rw [if_neg (nt e1)]]
    exact ownS_J2n_p2 op e1

/-- a piece of kotatsu/code.own -/
def ownS_J1 (op : Int) : Bool :=
  if ((op : Int) == 65) = true then
    ((op : Int) == 65)
  else
    (ownS_J2n op)
def ownS_J1_T (op : Int) : Tm := [(2, .int .i64 0), (3, .int .u8 op), (4, .bool ((op : Int) == 65))]
def ownS_J1_H (op : Int) : Heap := []
def ownS_J1_T1 (op : Int) (r_ : Bool) : Tm := [(2, .int .i64 0), (3, .int .u8 op), (4, .bool r_)]
def ownS_J1_H1 (op : Int) (r_ : Bool) : Heap := []
theorem ownS_J1_p1 (op : Int) (d1 : ((op : Int) == 65) = true) : Runs Tryz.prog 17 (bodyOf Tryz.f54 [1, 0, 1, 0, 0, 1]) (ownS_J1_T op) (ownS_J1_H op) 1000 .normal (ownS_J1_T1 op ((op : Int) == 65)) (ownS_J1_H1 op ((op : Int) == 65)) 1000 := by
  exact runs_of_x hG hM 400 [.yes] (J d1 trivial) (by kernel_rfl)
theorem ownS_J1_p2 (op : Int) (d1 : ((op : Int) == 65) = false) : Runs Tryz.prog 17 (bodyOf Tryz.f54 [1, 0, 1, 0, 0, 1]) (ownS_J1_T op) (ownS_J1_H op) 1000 .normal (ownS_J1_T1 op (ownS_J2n op)) (ownS_J1_H1 op (ownS_J2n op)) 1000 := by
  exact runs_of_x hG hM 400 [.no, .segk 2 0 [2, 3, 4] [] .normal (ownS_J2n_T1 op (ownS_J2n op)) (ownS_J2n_H1 op (ownS_J2n op)) 1000] (J d1 (J (ownS_J2n_runs op) trivial)) (by kernel_rfl)
theorem ownS_J1_runs (op : Int) : Runs Tryz.prog 17 (bodyOf Tryz.f54 [1, 0, 1, 0, 0, 1]) (ownS_J1_T op) (ownS_J1_H op) 1000 .normal (ownS_J1_T1 op (ownS_J1 op)) (ownS_J1_H1 op (ownS_J1 op)) 1000 := by
  rcases bt ((op : Int) == 65) with d1 | d1
  ·
    rw [show ownS_J1 op = ((op : Int) == 65) from by unfold ownS_J1; rw [if_pos d1]]
    exact ownS_J1_p1 op d1
  ·
    rw [show ownS_J1 op = (ownS_J2n op) from by unfold ownS_J1; rw [if_neg (nt d1)]]
    exact ownS_J1_p2 op d1

/-- a piece of kotatsu/code.own -/
def ownS_J3n (op : Int) : Bool :=
  if ((op : Int) == 67) = true then
    ((op : Int) == 67)
  else
    ((op : Int) == 68)
def ownS_J3n_T (op : Int) : Tm := [(2, .int .i64 0), (3, .int .u8 op), (8, .bool ((op : Int) == 67))]
def ownS_J3n_H (op : Int) : Heap := []
def ownS_J3n_T1 (op : Int) (r_ : Bool) : Tm := [(2, .int .i64 0), (3, .int .u8 op), (8, .bool r_)]
def ownS_J3n_H1 (op : Int) (r_ : Bool) : Heap := []
theorem ownS_J3n_p1 (op : Int) (d1 : ((op : Int) == 67) = true) : Runs Tryz.prog 17 (bodyOf Tryz.f54 [1, 0, 1, 0, 1, 1, 0, 1]) (ownS_J3n_T op) (ownS_J3n_H op) 1000 .normal (ownS_J3n_T1 op ((op : Int) == 67)) (ownS_J3n_H1 op ((op : Int) == 67)) 1000 := by
  exact runs_of_x hG hM 400 [.yes] (J d1 trivial) (by kernel_rfl)
theorem ownS_J3n_p2 (op : Int) (d1 : ((op : Int) == 67) = false) : Runs Tryz.prog 17 (bodyOf Tryz.f54 [1, 0, 1, 0, 1, 1, 0, 1]) (ownS_J3n_T op) (ownS_J3n_H op) 1000 .normal (ownS_J3n_T1 op ((op : Int) == 68)) (ownS_J3n_H1 op ((op : Int) == 68)) 1000 := by
  exact runs_of_x hG hM 400 [.no] (J d1 trivial) (by kernel_rfl)
theorem ownS_J3n_runs (op : Int) : Runs Tryz.prog 17 (bodyOf Tryz.f54 [1, 0, 1, 0, 1, 1, 0, 1]) (ownS_J3n_T op) (ownS_J3n_H op) 1000 .normal (ownS_J3n_T1 op (ownS_J3n op)) (ownS_J3n_H1 op (ownS_J3n op)) 1000 := by
  rcases bt ((op : Int) == 67) with d1 | d1
  ·
    rw [show ownS_J3n op = ((op : Int) == 67) from by unfold ownS_J3n; rw [if_pos d1]]
    exact ownS_J3n_p1 op d1
  ·
    rw [show ownS_J3n op = ((op : Int) == 68) from by unfold ownS_J3n; rw [if_neg (nt d1)]]
    exact ownS_J3n_p2 op d1

/-- a piece of kotatsu/code.own -/
def ownS_J5nnn (op : Int) : Bool :=
  if ((op : Int) == 63) = true then
    ((op : Int) == 63)
  else
    ((op : Int) == 61)
def ownS_J5nnn_T (op : Int) : Tm := [(2, .int .i64 0), (3, .int .u8 op), (11, .bool ((op : Int) == 63))]
def ownS_J5nnn_H (op : Int) : Heap := []
def ownS_J5nnn_T1 (op : Int) (r_ : Bool) : Tm := [(2, .int .i64 0), (3, .int .u8 op), (11, .bool r_)]
def ownS_J5nnn_H1 (op : Int) (r_ : Bool) : Heap := []
theorem ownS_J5nnn_p1 (op : Int) (e1 : ((op : Int) == 63) = true) : Runs Tryz.prog 17 (bodyOf Tryz.f54 [1, 0, 1, 0, 1, 1, 1, 1, 0, 1, 1, 1]) (ownS_J5nnn_T op) (ownS_J5nnn_H op) 1000 .normal (ownS_J5nnn_T1 op ((op : Int) == 63)) (ownS_J5nnn_H1 op ((op : Int) == 63)) 1000 := by
  exact runs_of_x hG hM 400 [.yes] (J e1 trivial) (by kernel_rfl)
theorem ownS_J5nnn_p2 (op : Int) (e1 : ((op : Int) == 63) = false) : Runs Tryz.prog 17 (bodyOf Tryz.f54 [1, 0, 1, 0, 1, 1, 1, 1, 0, 1, 1, 1]) (ownS_J5nnn_T op) (ownS_J5nnn_H op) 1000 .normal (ownS_J5nnn_T1 op ((op : Int) == 61)) (ownS_J5nnn_H1 op ((op : Int) == 61)) 1000 := by
  exact runs_of_x hG hM 400 [.no] (J e1 trivial) (by kernel_rfl)
theorem ownS_J5nnn_runs (op : Int) : Runs Tryz.prog 17 (bodyOf Tryz.f54 [1, 0, 1, 0, 1, 1, 1, 1, 0, 1, 1, 1]) (ownS_J5nnn_T op) (ownS_J5nnn_H op) 1000 .normal (ownS_J5nnn_T1 op (ownS_J5nnn op)) (ownS_J5nnn_H1 op (ownS_J5nnn op)) 1000 := by
  rcases bt ((op : Int) == 63) with e1 | e1
  ·
    rw [show ownS_J5nnn op = ((op : Int) == 63) from by unfold ownS_J5nnn; rw [if_pos e1]]
    exact ownS_J5nnn_p1 op e1
  ·
    rw [show ownS_J5nnn op = ((op : Int) == 61) from by unfold ownS_J5nnn; rw [if_neg (nt e1)]]
    exact ownS_J5nnn_p2 op e1

/-- a piece of kotatsu/code.own -/
def ownS_J4nn (op : Int) : Bool :=
  if ((op : Int) == 62) = true then
    ((op : Int) == 62)
  else
    (ownS_J5nnn op)
def ownS_J4nn_T (op : Int) : Tm := [(2, .int .i64 0), (3, .int .u8 op), (11, .bool ((op : Int) == 62))]
def ownS_J4nn_H (op : Int) : Heap := []
def ownS_J4nn_T1 (op : Int) (r_ : Bool) : Tm := [(2, .int .i64 0), (3, .int .u8 op), (11, .bool r_)]
def ownS_J4nn_H1 (op : Int) (r_ : Bool) : Heap := []
theorem ownS_J4nn_p1 (op : Int) (d1 : ((op : Int) == 62) = true) : Runs Tryz.prog 17 (bodyOf Tryz.f54 [1, 0, 1, 0, 1, 1, 1, 1, 0, 1]) (ownS_J4nn_T op) (ownS_J4nn_H op) 1000 .normal (ownS_J4nn_T1 op ((op : Int) == 62)) (ownS_J4nn_H1 op ((op : Int) == 62)) 1000 := by
  exact runs_of_x hG hM 400 [.yes] (J d1 trivial) (by kernel_rfl)
theorem ownS_J4nn_p2 (op : Int) (d1 : ((op : Int) == 62) = false) : Runs Tryz.prog 17 (bodyOf Tryz.f54 [1, 0, 1, 0, 1, 1, 1, 1, 0, 1]) (ownS_J4nn_T op) (ownS_J4nn_H op) 1000 .normal (ownS_J4nn_T1 op (ownS_J5nnn op)) (ownS_J4nn_H1 op (ownS_J5nnn op)) 1000 := by
  exact runs_of_x hG hM 400 [.no, .segk 2 0 [2, 3, 11] [] .normal (ownS_J5nnn_T1 op (ownS_J5nnn op)) (ownS_J5nnn_H1 op (ownS_J5nnn op)) 1000] (J d1 (J (ownS_J5nnn_runs op) trivial)) (by kernel_rfl)
theorem ownS_J4nn_runs (op : Int) : Runs Tryz.prog 17 (bodyOf Tryz.f54 [1, 0, 1, 0, 1, 1, 1, 1, 0, 1]) (ownS_J4nn_T op) (ownS_J4nn_H op) 1000 .normal (ownS_J4nn_T1 op (ownS_J4nn op)) (ownS_J4nn_H1 op (ownS_J4nn op)) 1000 := by
  rcases bt ((op : Int) == 62) with d1 | d1
  ·
    rw [show ownS_J4nn op = ((op : Int) == 62) from by unfold ownS_J4nn; rw [if_pos d1]]
    exact ownS_J4nn_p1 op d1
  ·
    rw [show ownS_J4nn op = (ownS_J5nnn op) from by unfold ownS_J4nn; rw [if_neg (nt d1)]]
    exact ownS_J4nn_p2 op d1

/-- kotatsu/code.own -/
def ownS (op : Int) : Int :=
  if (ownS_J1 op) = true then
    3
  else
    if (ownS_J3n op) = true then
      4
    else
      if (ownS_J4nn op) = true then
        6
      else
        if ((op : Int) == 64) = true then
          7
        else
          0
theorem ownS_ok (op : Int) : FnSpec Tryz.prog 54 1000 [.int .u8 op] [] (.int .i64 (ownS op)) [] := by
  unfold ownS
  rcases bt (ownS_J1 op) with c1 | c1
  · rw [if_pos c1]
    exact fn_of_x hG hM Tryz.func54 (by kernel_rfl) (by kernel_rfl) 400 [.segk 2 0 [2, 3, 4] [] .normal (ownS_J1_T1 op (ownS_J1 op)) (ownS_J1_H1 op (ownS_J1 op)) 1000, .yes] (J (ownS_J1_runs op) (J c1 trivial)) (by kernel_rfl)
  · rw [if_neg (nt c1)]
    rcases bt (ownS_J3n op) with c2 | c2
    · rw [if_pos c2]
      exact fn_of_x hG hM Tryz.func54 (by kernel_rfl) (by kernel_rfl) 400 [.segk 2 0 [2, 3, 4] [] .normal (ownS_J1_T1 op (ownS_J1 op)) (ownS_J1_H1 op (ownS_J1 op)) 1000, .no, .segk 2 0 [2, 3, 8] [] .normal (ownS_J3n_T1 op (ownS_J3n op)) (ownS_J3n_H1 op (ownS_J3n op)) 1000, .yes] (J (ownS_J1_runs op) (J c1 (J (ownS_J3n_runs op) (J c2 trivial)))) (by kernel_rfl)
    · rw [if_neg (nt c2)]
      rcases bt (ownS_J4nn op) with c3 | c3
      · rw [if_pos c3]
        exact fn_of_x hG hM Tryz.func54 (by kernel_rfl) (by kernel_rfl) 400 [.segk 2 0 [2, 3, 4] [] .normal (ownS_J1_T1 op (ownS_J1 op)) (ownS_J1_H1 op (ownS_J1 op)) 1000, .no, .segk 2 0 [2, 3, 8] [] .normal (ownS_J3n_T1 op (ownS_J3n op)) (ownS_J3n_H1 op (ownS_J3n op)) 1000, .no, .segk 2 0 [2, 3, 11] [] .normal (ownS_J4nn_T1 op (ownS_J4nn op)) (ownS_J4nn_H1 op (ownS_J4nn op)) 1000, .yes] (J (ownS_J1_runs op) (J c1 (J (ownS_J3n_runs op) (J c2 (J (ownS_J4nn_runs op) (J c3 trivial)))))) (by kernel_rfl)
      · rw [if_neg (nt c3)]
        rcases bt ((op : Int) == 64) with c4 | c4
        · rw [if_pos c4]
          exact fn_of_x hG hM Tryz.func54 (by kernel_rfl) (by kernel_rfl) 400 [.segk 2 0 [2, 3, 4] [] .normal (ownS_J1_T1 op (ownS_J1 op)) (ownS_J1_H1 op (ownS_J1 op)) 1000, .no, .segk 2 0 [2, 3, 8] [] .normal (ownS_J3n_T1 op (ownS_J3n op)) (ownS_J3n_H1 op (ownS_J3n op)) 1000, .no, .segk 2 0 [2, 3, 11] [] .normal (ownS_J4nn_T1 op (ownS_J4nn op)) (ownS_J4nn_H1 op (ownS_J4nn op)) 1000, .no, .yes] (J (ownS_J1_runs op) (J c1 (J (ownS_J3n_runs op) (J c2 (J (ownS_J4nn_runs op) (J c3 (J c4 trivial))))))) (by kernel_rfl)
        · rw [if_neg (nt c4)]
          exact fn_of_x hG hM Tryz.func54 (by kernel_rfl) (by kernel_rfl) 400 [.segk 2 0 [2, 3, 4] [] .normal (ownS_J1_T1 op (ownS_J1 op)) (ownS_J1_H1 op (ownS_J1 op)) 1000, .no, .segk 2 0 [2, 3, 8] [] .normal (ownS_J3n_T1 op (ownS_J3n op)) (ownS_J3n_H1 op (ownS_J3n op)) 1000, .no, .segk 2 0 [2, 3, 11] [] .normal (ownS_J4nn_T1 op (ownS_J4nn op)) (ownS_J4nn_H1 op (ownS_J4nn op)) 1000, .no, .no] (J (ownS_J1_runs op) (J c1 (J (ownS_J3n_runs op) (J c2 (J (ownS_J4nn_runs op) (J c3 (J c4 trivial))))))) (by kernel_rfl)

/-- a piece of kotatsu/code.base -/
def baseS_J4nnnn (mode : Int) : Bool :=
  if ((mode : Int) == 6) = true then
    ((mode : Int) == 6)
  else
    ((mode : Int) == 7)
def baseS_J4nnnn_T (mode : Int) : Tm := [(2, .int .i64 0), (3, .int .u8 mode), (6, .bool ((mode : Int) == 6))]
def baseS_J4nnnn_H (mode : Int) : Heap := []
def baseS_J4nnnn_T1 (mode : Int) (r_ : Bool) : Tm := [(2, .int .i64 0), (3, .int .u8 mode), (6, .bool r_)]
def baseS_J4nnnn_H1 (mode : Int) (r_ : Bool) : Heap := []
theorem baseS_J4nnnn_p1 (mode : Int) (g1 : ((mode : Int) == 6) = true) : Runs Tryz.prog 17 (bodyOf Tryz.f53 [1, 0, 1, 0, 1, 1, 0, 1, 1, 1, 1, 1, 1, 1]) (baseS_J4nnnn_T mode) (baseS_J4nnnn_H mode) 1000 .normal (baseS_J4nnnn_T1 mode ((mode : Int) == 6)) (baseS_J4nnnn_H1 mode ((mode : Int) == 6)) 1000 := by
  exact runs_of_x hG hM 400 [.yes] (J g1 trivial) (by kernel_rfl)
theorem baseS_J4nnnn_p2 (mode : Int) (g1 : ((mode : Int) == 6) = false) : Runs Tryz.prog 17 (bodyOf Tryz.f53 [1, 0, 1, 0, 1, 1, 0, 1, 1, 1, 1, 1, 1, 1]) (baseS_J4nnnn_T mode) (baseS_J4nnnn_H mode) 1000 .normal (baseS_J4nnnn_T1 mode ((mode : Int) == 7)) (baseS_J4nnnn_H1 mode ((mode : Int) == 7)) 1000 := by
  exact runs_of_x hG hM 400 [.no] (J g1 trivial) (by kernel_rfl)
theorem baseS_J4nnnn_runs (mode : Int) : Runs Tryz.prog 17 (bodyOf Tryz.f53 [1, 0, 1, 0, 1, 1, 0, 1, 1, 1, 1, 1, 1, 1]) (baseS_J4nnnn_T mode) (baseS_J4nnnn_H mode) 1000 .normal (baseS_J4nnnn_T1 mode (baseS_J4nnnn mode)) (baseS_J4nnnn_H1 mode (baseS_J4nnnn mode)) 1000 := by
  rcases bt ((mode : Int) == 6) with g1 | g1
  ·
    rw [show baseS_J4nnnn mode = ((mode : Int) == 6) from by unfold baseS_J4nnnn; rw [if_pos g1]]
    exact baseS_J4nnnn_p1 mode g1
  ·
    rw [show baseS_J4nnnn mode = ((mode : Int) == 7) from by unfold baseS_J4nnnn; rw [if_neg (nt g1)]]
    exact baseS_J4nnnn_p2 mode g1

/-- a piece of kotatsu/code.base -/
def baseS_J3nnn (mode : Int) : Bool :=
  if ((mode : Int) == 5) = true then
    ((mode : Int) == 5)
  else
    (baseS_J4nnnn mode)
def baseS_J3nnn_T (mode : Int) : Tm := [(2, .int .i64 0), (3, .int .u8 mode), (6, .bool ((mode : Int) == 5))]
def baseS_J3nnn_H (mode : Int) : Heap := []
def baseS_J3nnn_T1 (mode : Int) (r_ : Bool) : Tm := [(2, .int .i64 0), (3, .int .u8 mode), (6, .bool r_)]
def baseS_J3nnn_H1 (mode : Int) (r_ : Bool) : Heap := []
theorem baseS_J3nnn_p1 (mode : Int) (f1 : ((mode : Int) == 5) = true) : Runs Tryz.prog 17 (bodyOf Tryz.f53 [1, 0, 1, 0, 1, 1, 0, 1, 1, 1, 1, 1]) (baseS_J3nnn_T mode) (baseS_J3nnn_H mode) 1000 .normal (baseS_J3nnn_T1 mode ((mode : Int) == 5)) (baseS_J3nnn_H1 mode ((mode : Int) == 5)) 1000 := by
  exact runs_of_x hG hM 400 [.yes] (J f1 trivial) (by kernel_rfl)
theorem baseS_J3nnn_p2 (mode : Int) (f1 : ((mode : Int) == 5) = false) : Runs Tryz.prog 17 (bodyOf Tryz.f53 [1, 0, 1, 0, 1, 1, 0, 1, 1, 1, 1, 1]) (baseS_J3nnn_T mode) (baseS_J3nnn_H mode) 1000 .normal (baseS_J3nnn_T1 mode (baseS_J4nnnn mode)) (baseS_J3nnn_H1 mode (baseS_J4nnnn mode)) 1000 := by
  exact runs_of_x hG hM 400 [.no, .segk 2 0 [2, 3, 6] [] .normal (baseS_J4nnnn_T1 mode (baseS_J4nnnn mode)) (baseS_J4nnnn_H1 mode (baseS_J4nnnn mode)) 1000] (J f1 (J (baseS_J4nnnn_runs mode) trivial)) (by kernel_rfl)
theorem baseS_J3nnn_runs (mode : Int) : Runs Tryz.prog 17 (bodyOf Tryz.f53 [1, 0, 1, 0, 1, 1, 0, 1, 1, 1, 1, 1]) (baseS_J3nnn_T mode) (baseS_J3nnn_H mode) 1000 .normal (baseS_J3nnn_T1 mode (baseS_J3nnn mode)) (baseS_J3nnn_H1 mode (baseS_J3nnn mode)) 1000 := by
  rcases bt ((mode : Int) == 5) with f1 | f1
  ·
    rw [show baseS_J3nnn mode = ((mode : Int) == 5) from by unfold baseS_J3nnn; rw [if_pos f1]]
    exact baseS_J3nnn_p1 mode f1
  ·
    rw [show baseS_J3nnn mode = (baseS_J4nnnn mode) from by unfold baseS_J3nnn; rw [if_neg (nt f1)]]
    exact baseS_J3nnn_p2 mode f1

/-- a piece of kotatsu/code.base -/
def baseS_J2nn (mode : Int) : Bool :=
  if ((mode : Int) == 4) = true then
    ((mode : Int) == 4)
  else
    (baseS_J3nnn mode)
def baseS_J2nn_T (mode : Int) : Tm := [(2, .int .i64 0), (3, .int .u8 mode), (6, .bool ((mode : Int) == 4))]
def baseS_J2nn_H (mode : Int) : Heap := []
def baseS_J2nn_T1 (mode : Int) (r_ : Bool) : Tm := [(2, .int .i64 0), (3, .int .u8 mode), (6, .bool r_)]
def baseS_J2nn_H1 (mode : Int) (r_ : Bool) : Heap := []
theorem baseS_J2nn_p1 (mode : Int) (e1 : ((mode : Int) == 4) = true) : Runs Tryz.prog 17 (bodyOf Tryz.f53 [1, 0, 1, 0, 1, 1, 0, 1, 1, 1]) (baseS_J2nn_T mode) (baseS_J2nn_H mode) 1000 .normal (baseS_J2nn_T1 mode ((mode : Int) == 4)) (baseS_J2nn_H1 mode ((mode : Int) == 4)) 1000 := by
  exact runs_of_x hG hM 400 [.yes] (J e1 trivial) (by kernel_rfl)
theorem baseS_J2nn_p2 (mode : Int) (e1 : ((mode : Int) == 4) = false) : Runs Tryz.prog 17 (bodyOf Tryz.f53 [1, 0, 1, 0, 1, 1, 0, 1, 1, 1]) (baseS_J2nn_T mode) (baseS_J2nn_H mode) 1000 .normal (baseS_J2nn_T1 mode (baseS_J3nnn mode)) (baseS_J2nn_H1 mode (baseS_J3nnn mode)) 1000 := by
  exact runs_of_x hG hM 400 [.no, .segk 2 0 [2, 3, 6] [] .normal (baseS_J3nnn_T1 mode (baseS_J3nnn mode)) (baseS_J3nnn_H1 mode (baseS_J3nnn mode)) 1000] (J e1 (J (baseS_J3nnn_runs mode) trivial)) (by kernel_rfl)
theorem baseS_J2nn_runs (mode : Int) : Runs Tryz.prog 17 (bodyOf Tryz.f53 [1, 0, 1, 0, 1, 1, 0, 1, 1, 1]) (baseS_J2nn_T mode) (baseS_J2nn_H mode) 1000 .normal (baseS_J2nn_T1 mode (baseS_J2nn mode)) (baseS_J2nn_H1 mode (baseS_J2nn mode)) 1000 := by
  rcases bt ((mode : Int) == 4) with e1 | e1
  ·
    rw [show baseS_J2nn mode = ((mode : Int) == 4) from by unfold baseS_J2nn; rw [if_pos e1]]
    exact baseS_J2nn_p1 mode e1
  ·
    rw [show baseS_J2nn mode = (baseS_J3nnn mode) from by unfold baseS_J2nn; rw [if_neg (nt e1)]]
    exact baseS_J2nn_p2 mode e1

/-- a piece of kotatsu/code.base -/
def baseS_J1n (mode : Int) : Bool :=
  if ((mode : Int) == 3) = true then
    ((mode : Int) == 3)
  else
    (baseS_J2nn mode)
def baseS_J1n_T (mode : Int) : Tm := [(2, .int .i64 0), (3, .int .u8 mode), (6, .bool ((mode : Int) == 3))]
def baseS_J1n_H (mode : Int) : Heap := []
def baseS_J1n_T1 (mode : Int) (r_ : Bool) : Tm := [(2, .int .i64 0), (3, .int .u8 mode), (6, .bool r_)]
def baseS_J1n_H1 (mode : Int) (r_ : Bool) : Heap := []
theorem baseS_J1n_p1 (mode : Int) (d1 : ((mode : Int) == 3) = true) : Runs Tryz.prog 17 (bodyOf Tryz.f53 [1, 0, 1, 0, 1, 1, 0, 1]) (baseS_J1n_T mode) (baseS_J1n_H mode) 1000 .normal (baseS_J1n_T1 mode ((mode : Int) == 3)) (baseS_J1n_H1 mode ((mode : Int) == 3)) 1000 := by
  exact runs_of_x hG hM 400 [.yes] (J d1 trivial) (by kernel_rfl)
theorem baseS_J1n_p2 (mode : Int) (d1 : ((mode : Int) == 3) = false) : Runs Tryz.prog 17 (bodyOf Tryz.f53 [1, 0, 1, 0, 1, 1, 0, 1]) (baseS_J1n_T mode) (baseS_J1n_H mode) 1000 .normal (baseS_J1n_T1 mode (baseS_J2nn mode)) (baseS_J1n_H1 mode (baseS_J2nn mode)) 1000 := by
  exact runs_of_x hG hM 400 [.no, .segk 2 0 [2, 3, 6] [] .normal (baseS_J2nn_T1 mode (baseS_J2nn mode)) (baseS_J2nn_H1 mode (baseS_J2nn mode)) 1000] (J d1 (J (baseS_J2nn_runs mode) trivial)) (by kernel_rfl)
theorem baseS_J1n_runs (mode : Int) : Runs Tryz.prog 17 (bodyOf Tryz.f53 [1, 0, 1, 0, 1, 1, 0, 1]) (baseS_J1n_T mode) (baseS_J1n_H mode) 1000 .normal (baseS_J1n_T1 mode (baseS_J1n mode)) (baseS_J1n_H1 mode (baseS_J1n mode)) 1000 := by
  rcases bt ((mode : Int) == 3) with d1 | d1
  ·
    rw [show baseS_J1n mode = ((mode : Int) == 3) from by unfold baseS_J1n; rw [if_pos d1]]
    exact baseS_J1n_p1 mode d1
  ·
    rw [show baseS_J1n mode = (baseS_J2nn mode) from by unfold baseS_J1n; rw [if_neg (nt d1)]]
    exact baseS_J1n_p2 mode d1

/-- a piece of kotatsu/code.base -/
def baseS_J5nn (mode : Int) : Bool :=
  if ((mode : Int) == 9) = true then
    ((mode : Int) == 9)
  else
    ((mode : Int) == 11)
def baseS_J5nn_T (mode : Int) : Tm := [(2, .int .i64 0), (3, .int .u8 mode), (12, .bool ((mode : Int) == 9))]
def baseS_J5nn_H (mode : Int) : Heap := []
def baseS_J5nn_T1 (mode : Int) (r_ : Bool) : Tm := [(2, .int .i64 0), (3, .int .u8 mode), (12, .bool r_)]
def baseS_J5nn_H1 (mode : Int) (r_ : Bool) : Heap := []
theorem baseS_J5nn_p1 (mode : Int) (d1 : ((mode : Int) == 9) = true) : Runs Tryz.prog 17 (bodyOf Tryz.f53 [1, 0, 1, 0, 1, 1, 1, 1, 0, 1]) (baseS_J5nn_T mode) (baseS_J5nn_H mode) 1000 .normal (baseS_J5nn_T1 mode ((mode : Int) == 9)) (baseS_J5nn_H1 mode ((mode : Int) == 9)) 1000 := by
  exact runs_of_x hG hM 400 [.yes] (J d1 trivial) (by kernel_rfl)
theorem baseS_J5nn_p2 (mode : Int) (d1 : ((mode : Int) == 9) = false) : Runs Tryz.prog 17 (bodyOf Tryz.f53 [1, 0, 1, 0, 1, 1, 1, 1, 0, 1]) (baseS_J5nn_T mode) (baseS_J5nn_H mode) 1000 .normal (baseS_J5nn_T1 mode ((mode : Int) == 11)) (baseS_J5nn_H1 mode ((mode : Int) == 11)) 1000 := by
  exact runs_of_x hG hM 400 [.no] (J d1 trivial) (by kernel_rfl)
theorem baseS_J5nn_runs (mode : Int) : Runs Tryz.prog 17 (bodyOf Tryz.f53 [1, 0, 1, 0, 1, 1, 1, 1, 0, 1]) (baseS_J5nn_T mode) (baseS_J5nn_H mode) 1000 .normal (baseS_J5nn_T1 mode (baseS_J5nn mode)) (baseS_J5nn_H1 mode (baseS_J5nn mode)) 1000 := by
  rcases bt ((mode : Int) == 9) with d1 | d1
  ·
    rw [show baseS_J5nn mode = ((mode : Int) == 9) from by unfold baseS_J5nn; rw [if_pos d1]]
    exact baseS_J5nn_p1 mode d1
  ·
    rw [show baseS_J5nn mode = ((mode : Int) == 11) from by unfold baseS_J5nn; rw [if_neg (nt d1)]]
    exact baseS_J5nn_p2 mode d1

/-- kotatsu/code.base -/
def baseS (mode : Int) : Int :=
  if ((mode : Int) == 2) = true then
    3
  else
    if (baseS_J1n mode) = true then
      4
    else
      if (baseS_J5nn mode) = true then
        5
      else
        if ((mode : Int) == 8) = true then
          6
        else
          2
theorem baseS_ok (mode : Int) : FnSpec Tryz.prog 53 1000 [.int .u8 mode] [] (.int .i64 (baseS mode)) [] := by
  unfold baseS
  rcases bt ((mode : Int) == 2) with c1 | c1
  · rw [if_pos c1]
    exact fn_of_x hG hM Tryz.func53 (by kernel_rfl) (by kernel_rfl) 400 [.yes] (J c1 trivial) (by kernel_rfl)
  · rw [if_neg (nt c1)]
    rcases bt (baseS_J1n mode) with c2 | c2
    · rw [if_pos c2]
      exact fn_of_x hG hM Tryz.func53 (by kernel_rfl) (by kernel_rfl) 400 [.no, .segk 2 0 [2, 3, 6] [] .normal (baseS_J1n_T1 mode (baseS_J1n mode)) (baseS_J1n_H1 mode (baseS_J1n mode)) 1000, .yes] (J c1 (J (baseS_J1n_runs mode) (J c2 trivial))) (by kernel_rfl)
    · rw [if_neg (nt c2)]
      rcases bt (baseS_J5nn mode) with c3 | c3
      · rw [if_pos c3]
        exact fn_of_x hG hM Tryz.func53 (by kernel_rfl) (by kernel_rfl) 400 [.no, .segk 2 0 [2, 3, 6] [] .normal (baseS_J1n_T1 mode (baseS_J1n mode)) (baseS_J1n_H1 mode (baseS_J1n mode)) 1000, .no, .segk 2 0 [2, 3, 12] [] .normal (baseS_J5nn_T1 mode (baseS_J5nn mode)) (baseS_J5nn_H1 mode (baseS_J5nn mode)) 1000, .yes] (J c1 (J (baseS_J1n_runs mode) (J c2 (J (baseS_J5nn_runs mode) (J c3 trivial))))) (by kernel_rfl)
      · rw [if_neg (nt c3)]
        rcases bt ((mode : Int) == 8) with c4 | c4
        · rw [if_pos c4]
          exact fn_of_x hG hM Tryz.func53 (by kernel_rfl) (by kernel_rfl) 400 [.no, .segk 2 0 [2, 3, 6] [] .normal (baseS_J1n_T1 mode (baseS_J1n mode)) (baseS_J1n_H1 mode (baseS_J1n mode)) 1000, .no, .segk 2 0 [2, 3, 12] [] .normal (baseS_J5nn_T1 mode (baseS_J5nn mode)) (baseS_J5nn_H1 mode (baseS_J5nn mode)) 1000, .no, .yes] (J c1 (J (baseS_J1n_runs mode) (J c2 (J (baseS_J5nn_runs mode) (J c3 (J c4 trivial)))))) (by kernel_rfl)
        · rw [if_neg (nt c4)]
          exact fn_of_x hG hM Tryz.func53 (by kernel_rfl) (by kernel_rfl) 400 [.no, .segk 2 0 [2, 3, 6] [] .normal (baseS_J1n_T1 mode (baseS_J1n mode)) (baseS_J1n_H1 mode (baseS_J1n mode)) 1000, .no, .segk 2 0 [2, 3, 12] [] .normal (baseS_J5nn_T1 mode (baseS_J5nn mode)) (baseS_J5nn_H1 mode (baseS_J5nn mode)) 1000, .no, .no] (J c1 (J (baseS_J1n_runs mode) (J c2 (J (baseS_J5nn_runs mode) (J c3 (J c4 trivial)))))) (by kernel_rfl)

/-- kotatsu/code.one -/
def oneS (x : Bool) : Int :=
  if x = true then
    1
  else
    0
theorem oneS_ok (x : Bool) : FnSpec Tryz.prog 55 1000 [.bool x] [] (.int .i64 (oneS x)) [] := by
  unfold oneS
  rcases bt x with c1 | c1
  · rw [if_pos c1]
    exact fn_of_x hG hM Tryz.func55 (by kernel_rfl) (by kernel_rfl) 400 [.yes] (J c1 trivial) (by kernel_rfl)
  · rw [if_neg (nt c1)]
    exact fn_of_x hG hM Tryz.func55 (by kernel_rfl) (by kernel_rfl) 400 [.no] (J c1 trivial) (by kernel_rfl)

/-- a loop of (kotatsu/code.Code).Byte: one round -/
def byteW_L1n (k : Code) (xd : Int × Int × Bool) : (Int × Int × Bool) ⊕ ((Int × Int × Bool) ⊕ (Int × Int × Bool)) :=
  if (decide ((xd.1 : Int) < 256)) = true then
    if ((((codeF (IntKind.u8.wrap xd.1)).Op : Int) == k.Op) && ((((codeF (IntKind.u8.wrap xd.1)).Mode : Int) == k.Mode) && true)) = true then
      .inr (.inr (xd.1, (IntKind.u8.wrap xd.1), true))
    else
      .inl ((IntKind.i64.wrap (xd.1 + 1)), xd.2.1, xd.2.2)
  else
    .inr (.inl (xd.1, xd.2.1, xd.2.2))
def byteW_L1n_T (k : Code) (xd : Int × Int × Bool) : Tm := [(1, .pointer (some ⟨1000, 0, none⟩)), (2, .int .u8 xd.2.1), (3, .bool xd.2.2), (8, .int .i64 xd.1)]
def byteW_L1n_H (k : Code) (xd : Int × Int × Bool) : Heap := [(1000, (Code.blk k))]
def byteW_L1n_T1 (k : Code) : ((Int × Int × Bool) ⊕ (Int × Int × Bool)) → Tm
  | .inl q_ => byteW_L1n_T k q_
  | .inr q_ => byteW_L1n_T k q_
def byteW_L1n_H1 (k : Code) : ((Int × Int × Bool) ⊕ (Int × Int × Bool)) → Heap
  | .inl q_ => byteW_L1n_H k q_
  | .inr q_ => byteW_L1n_H k q_
def byteW_L1n_ex : ((Int × Int × Bool) ⊕ (Int × Int × Bool)) → Ex
  | .inl _ => .exit 0
  | .inr _ => .ret
theorem byteW_L1n_p1 (k : Code) (xd : Int × Int × Bool) (d1 : (decide ((xd.1 : Int) < 256)) = true) (d2 : ((((codeF (IntKind.u8.wrap xd.1)).Op : Int) == k.Op) && ((((codeF (IntKind.u8.wrap xd.1)).Mode : Int) == k.Mode) && true)) = true) : Runs Tryz.prog 19 (bodyOf Tryz.f52 [1, 1, 0, 1, 0, 0]) (byteW_L1n_T k xd) (byteW_L1n_H k xd) 1001 .ret (byteW_L1n_T1 k (.inr (xd.1, (IntKind.u8.wrap xd.1), true))) (byteW_L1n_H1 k (.inr (xd.1, (IntKind.u8.wrap xd.1), true))) 1001 := by
  exact runs_of_x hG hM 400 [.yes, .call [] [] 1000 (Code.enc (codeF (IntKind.u8.wrap xd.1))) [], .yes] (J d1 (J (codeF_ok (IntKind.u8.wrap xd.1) (rng_wrap_u8 xd.1)) (J d2 trivial))) (by kernel_rfl)
theorem byteW_L1n_p2 (k : Code) (xd : Int × Int × Bool) (d1 : (decide ((xd.1 : Int) < 256)) = true) (d2 : ((((codeF (IntKind.u8.wrap xd.1)).Op : Int) == k.Op) && ((((codeF (IntKind.u8.wrap xd.1)).Mode : Int) == k.Mode) && true)) = false) : Runs Tryz.prog 19 (bodyOf Tryz.f52 [1, 1, 0, 1, 0, 0]) (byteW_L1n_T k xd) (byteW_L1n_H k xd) 1001 .normal (byteW_L1n_T k ((IntKind.i64.wrap (xd.1 + 1)), xd.2.1, xd.2.2)) (byteW_L1n_H k ((IntKind.i64.wrap (xd.1 + 1)), xd.2.1, xd.2.2)) 1001 := by
  exact runs_of_x hG hM 400 [.yes, .call [] [] 1000 (Code.enc (codeF (IntKind.u8.wrap xd.1))) [], .no] (J d1 (J (codeF_ok (IntKind.u8.wrap xd.1) (rng_wrap_u8 xd.1)) (J d2 trivial))) (by kernel_rfl)
theorem byteW_L1n_p3 (k : Code) (xd : Int × Int × Bool) (d1 : (decide ((xd.1 : Int) < 256)) = false) : Runs Tryz.prog 19 (bodyOf Tryz.f52 [1, 1, 0, 1, 0, 0]) (byteW_L1n_T k xd) (byteW_L1n_H k xd) 1001 (.exit 0) (byteW_L1n_T1 k (.inl (xd.1, xd.2.1, xd.2.2))) (byteW_L1n_H1 k (.inl (xd.1, xd.2.1, xd.2.2))) 1001 := by
  exact runs_of_x hG hM 400 [.no] (J d1 trivial) (by kernel_rfl)
theorem byteW_L1n_runs (k : Code) (k_ : Nat) (x_ : Int × Int × Bool) (y_ : (Int × Int × Bool) ⊕ (Int × Int × Bool)) (h_ : iter (byteW_L1n k) k_ x_ = some y_) : Runs Tryz.prog 19 (.block 0 (.loop (bodyOf Tryz.f52 [1, 1, 0, 1, 0, 0]))) (byteW_L1n_T k x_) (byteW_L1n_H k x_) 1001 (outOf 0 (byteW_L1n_ex y_)) (byteW_L1n_T1 k y_) (byteW_L1n_H1 k y_) 1001 := by
  refine block_iter (byteW_L1n k) (byteW_L1n_T k) (byteW_L1n_H k) byteW_L1n_ex (byteW_L1n_T1 k) (byteW_L1n_H1 k) ?_ ?_ ?_ k_ x_ y_ h_
  · intro r hr; cases r <;> cases hr
  · intro xd y_ hx
    unfold byteW_L1n at hx
    rcases bt (decide ((xd.1 : Int) < 256)) with d1 | d1
    · rw [if_pos d1] at hx
      rcases bt ((((codeF (IntKind.u8.wrap xd.1)).Op : Int) == k.Op) && ((((codeF (IntKind.u8.wrap xd.1)).Mode : Int) == k.Mode) && true)) with d2 | d2
      · rw [if_pos d2] at hx
        cases hx
      · rw [if_neg (nt d2)] at hx
        cases hx; exact byteW_L1n_p2 k xd d1 d2
    · rw [if_neg (nt d1)] at hx
      cases hx
  · intro xd y_ hx
    unfold byteW_L1n at hx
    rcases bt (decide ((xd.1 : Int) < 256)) with d1 | d1
    · rw [if_pos d1] at hx
      rcases bt ((((codeF (IntKind.u8.wrap xd.1)).Op : Int) == k.Op) && ((((codeF (IntKind.u8.wrap xd.1)).Mode : Int) == k.Mode) && true)) with d2 | d2
      · rw [if_pos d2] at hx
        cases hx; exact byteW_L1n_p1 k xd d1 d2
      · rw [if_neg (nt d2)] at hx
        cases hx
    · rw [if_neg (nt d1)] at hx
      cases hx; exact byteW_L1n_p3 k xd d1

theorem byteW_p1 (k : Code) (c1 : (((k.Op : Int) == 0) && (((k.Mode : Int) == 0) && true)) = true) : FnSpec Tryz.prog 52 1000 [Code.enc k] [] (.tuple ⟨[.int .u8 ((234, true).1), .bool ((234, true).2)]⟩) [] := by
  exact fn_of_x hG hM Tryz.func52 (by kernel_rfl) (by kernel_rfl) 400 [.yes] (J c1 trivial) (by kernel_rfl)
theorem byteW_p2 (k : Code) (c1 : (((k.Op : Int) == 0) && (((k.Mode : Int) == 0) && true)) = false) (m1 : Nat) (r1 : Int × Int × Bool) (l1 : iter (byteW_L1n k) m1 (0, 0, false) = some (.inl r1)) : FnSpec Tryz.prog 52 1000 [Code.enc k] [] (.tuple ⟨[.int .u8 ((0, false).1), .bool ((0, false).2)]⟩) [] := by
  exact fn_of_x hG hM Tryz.func52 (by kernel_rfl) (by kernel_rfl) 400 [.no, .segk 1 0 [1, 2, 3, 8] [1000] .normal (byteW_L1n_T1 k (.inl r1)) (byteW_L1n_H1 k (.inl r1)) 1001] (J c1 (J (byteW_L1n_runs k m1 (0, 0, false) (.inl r1) l1) trivial)) (by kernel_rfl)
theorem byteW_p3 (k : Code) (c1 : (((k.Op : Int) == 0) && (((k.Mode : Int) == 0) && true)) = false) (m1 : Nat) (r1 : Int × Int × Bool) (l1 : iter (byteW_L1n k) m1 (0, 0, false) = some (.inr r1)) : FnSpec Tryz.prog 52 1000 [Code.enc k] [] (.tuple ⟨[.int .u8 ((r1.2.1, r1.2.2).1), .bool ((r1.2.1, r1.2.2).2)]⟩) [] := by
  exact fn_of_x hG hM Tryz.func52 (by kernel_rfl) (by kernel_rfl) 400 [.no, .segk 1 0 [1, 2, 3, 8] [1000] .ret (byteW_L1n_T1 k (.inr r1)) (byteW_L1n_H1 k (.inr r1)) 1001] (J c1 (J (byteW_L1n_runs k m1 (0, 0, false) (.inr r1) l1) trivial)) (by kernel_rfl)

end Go.Proofs.YtmnhmplcpijanaaGreat
