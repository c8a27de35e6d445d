/-
  Texts laid together: RX, RW, EH, ERow, EA, EB, EC, ED, RT, RY, LX, EE, ST, EF, EG, EI, LP, LPP. No condition.
-/
import Derived.Test.YtgpcfjokmonlgaaDoorMPe
namespace Go.Proofs.YtgpcfjokmonlgaaDoor
open Go VX
open Go.IntKind (i64 u8 u16)
set_option linter.unusedVariables false
set_option linter.unusedSimpArgs false
set_option maxRecDepth 100000
def rsClock_J1 (x : RSnd) : Int :=
  if x.Long = true then
    37281
  else
    29829
def rsClock_J1_T (x : RSnd) : Tm := [(0, .pointer (some ⟨1000, 0, none⟩)), (2, .int .i64 29829), (20, .bool x.Long)]
def rsClock_J1_H (x : RSnd) : Heap := []
def rsClock_J1_T1 (x : RSnd) (r_ : Int) : Tm := [(0, .pointer (some ⟨1000, 0, none⟩)), (2, .int .i64 r_)]
def rsClock_J1_H1 (x : RSnd) (r_ : Int) : Heap := []
theorem rsClock_J1_p1 (x : RSnd) (d1 : x.Long = true) : Runs Tryd.prog 112 (bodyOf Tryd.f23 [1, 1, 1, 0, 1]) (rsClock_J1_T x) (rsClock_J1_H x) 1001 .normal (rsClock_J1_T1 x 37281) (rsClock_J1_H1 x 37281) 1001 := by
  exact runs_of_x hG hM 400 [.yes] (J d1 trivial) (by kernel_rfl)
theorem rsClock_J1_p2 (x : RSnd) (d1 : x.Long = false) : Runs Tryd.prog 112 (bodyOf Tryd.f23 [1, 1, 1, 0, 1]) (rsClock_J1_T x) (rsClock_J1_H x) 1001 .normal (rsClock_J1_T1 x 29829) (rsClock_J1_H1 x 29829) 1001 := by
  exact runs_of_x hG hM 400 [.no] (J d1 trivial) (by kernel_rfl)
theorem rsClock_J1_runs (x : RSnd) : Runs Tryd.prog 112 (bodyOf Tryd.f23 [1, 1, 1, 0, 1]) (rsClock_J1_T x) (rsClock_J1_H x) 1001 .normal (rsClock_J1_T1 x (rsClock_J1 x)) (rsClock_J1_H1 x (rsClock_J1 x)) 1001 := by
  rcases bt x.Long with d1 | d1
  ·
    rw [show rsClock_J1 x = 37281 from by unfold rsClock_J1; rw [if_pos d1]]
    exact rsClock_J1_p1 x d1
  ·
    rw [show rsClock_J1 x = 29829 from by unfold rsClock_J1; rw [if_neg (nt d1)]]
    exact rsClock_J1_p2 x d1
def rsClock_J2 (x : RSnd) (xd : Bool) : Bool :=
  if xd = true then
    xd
  else
    ((i64.wrap (x.Count + 1)) == 22371)
def rsClock_J2_T (x : RSnd) (xd : Bool) : Tm := [(0, .pointer (some ⟨1000, 0, none⟩)), (2, .int .i64 (rsClock_J1 x)), (24, .int .i64 (i64.wrap (x.Count + 1))), (25, .bool xd)]
def rsClock_J2_H (x : RSnd) (xd : Bool) : Heap := []
def rsClock_J2_T1 (x : RSnd) (xd : Bool) (r_ : Bool) : Tm := [(0, .pointer (some ⟨1000, 0, none⟩)), (2, .int .i64 (rsClock_J1 x)), (24, .int .i64 (i64.wrap (x.Count + 1))), (25, .bool r_)]
def rsClock_J2_H1 (x : RSnd) (xd : Bool) (r_ : Bool) : Heap := []
theorem rsClock_J2_p1 (x : RSnd) (xd : Bool) (d1 : xd = true) : Runs Tryd.prog 112 (bodyOf Tryd.f23 [1, 1, 1, 1, 0, 1, 0, 0, 1]) (rsClock_J2_T x xd) (rsClock_J2_H x xd) 1001 .normal (rsClock_J2_T1 x xd xd) (rsClock_J2_H1 x xd xd) 1001 := by
  exact runs_of_x hG hM 400 [.yes] (J d1 trivial) (by kernel_rfl)
theorem rsClock_J2_p2 (x : RSnd) (xd : Bool) (d1 : xd = false) : Runs Tryd.prog 112 (bodyOf Tryd.f23 [1, 1, 1, 1, 0, 1, 0, 0, 1]) (rsClock_J2_T x xd) (rsClock_J2_H x xd) 1001 .normal (rsClock_J2_T1 x xd ((i64.wrap (x.Count + 1)) == 22371)) (rsClock_J2_H1 x xd ((i64.wrap (x.Count + 1)) == 22371)) 1001 := by
  exact runs_of_x hG hM 400 [.no] (J d1 trivial) (by kernel_rfl)
theorem rsClock_J2_runs (x : RSnd) (xd : Bool) : Runs Tryd.prog 112 (bodyOf Tryd.f23 [1, 1, 1, 1, 0, 1, 0, 0, 1]) (rsClock_J2_T x xd) (rsClock_J2_H x xd) 1001 .normal (rsClock_J2_T1 x xd (rsClock_J2 x xd)) (rsClock_J2_H1 x xd (rsClock_J2 x xd)) 1001 := by
  rcases bt xd with d1 | d1
  ·
    rw [show rsClock_J2 x xd = xd from by unfold rsClock_J2; rw [if_pos d1]]
    exact rsClock_J2_p1 x xd d1
  ·
    rw [show rsClock_J2 x xd = ((i64.wrap (x.Count + 1)) == 22371) from by unfold rsClock_J2; rw [if_neg (nt d1)]]
    exact rsClock_J2_p2 x xd d1
def rsClock_J4n (x : RSnd) (xe : Bool) : Bool :=
  if xe = true then
    xe
  else
    ((i64.wrap (x.Count + 1)) == (rsClock_J1 x))
def rsClock_J4n_T (x : RSnd) (xe : Bool) : Tm := [(0, .pointer (some ⟨1000, 0, none⟩)), (2, .int .i64 (rsClock_J1 x)), (24, .int .i64 (i64.wrap (x.Count + 1))), (30, .bool xe)]
def rsClock_J4n_H (x : RSnd) (xe : Bool) : Heap := []
def rsClock_J4n_T1 (x : RSnd) (xe : Bool) (r_ : Bool) : Tm := [(0, .pointer (some ⟨1000, 0, none⟩)), (2, .int .i64 (rsClock_J1 x)), (24, .int .i64 (i64.wrap (x.Count + 1))), (30, .bool r_)]
def rsClock_J4n_H1 (x : RSnd) (xe : Bool) (r_ : Bool) : Heap := []
theorem rsClock_J4n_p1 (x : RSnd) (xe : Bool) (e1 : xe = true) : Runs Tryd.prog 112 (bodyOf Tryd.f23 [1, 1, 1, 1, 0, 1, 0, 1, 1, 0, 1]) (rsClock_J4n_T x xe) (rsClock_J4n_H x xe) 1001 .normal (rsClock_J4n_T1 x xe xe) (rsClock_J4n_H1 x xe xe) 1001 := by
  exact runs_of_x hG hM 400 [.yes] (J e1 trivial) (by kernel_rfl)
theorem rsClock_J4n_p2 (x : RSnd) (xe : Bool) (e1 : xe = false) : Runs Tryd.prog 112 (bodyOf Tryd.f23 [1, 1, 1, 1, 0, 1, 0, 1, 1, 0, 1]) (rsClock_J4n_T x xe) (rsClock_J4n_H x xe) 1001 .normal (rsClock_J4n_T1 x xe ((i64.wrap (x.Count + 1)) == (rsClock_J1 x))) (rsClock_J4n_H1 x xe ((i64.wrap (x.Count + 1)) == (rsClock_J1 x))) 1001 := by
  exact runs_of_x hG hM 400 [.no] (J e1 trivial) (by kernel_rfl)
theorem rsClock_J4n_runs (x : RSnd) (xe : Bool) : Runs Tryd.prog 112 (bodyOf Tryd.f23 [1, 1, 1, 1, 0, 1, 0, 1, 1, 0, 1]) (rsClock_J4n_T x xe) (rsClock_J4n_H x xe) 1001 .normal (rsClock_J4n_T1 x xe (rsClock_J4n x xe)) (rsClock_J4n_H1 x xe (rsClock_J4n x xe)) 1001 := by
  rcases bt xe with e1 | e1
  ·
    rw [show rsClock_J4n x xe = xe from by unfold rsClock_J4n; rw [if_pos e1]]
    exact rsClock_J4n_p1 x xe e1
  ·
    rw [show rsClock_J4n x xe = ((i64.wrap (x.Count + 1)) == (rsClock_J1 x)) from by unfold rsClock_J4n; rw [if_neg (nt e1)]]
    exact rsClock_J4n_p2 x xe e1
def rsClock_J6ny (xe : RSnd × Bool) : Bool :=
  if (((rsH xe.1).Count : Int) == 29829) = true then
    (!((rsH xe.1).Barred))
  else
    false
def rsClock_J6ny_T (xe : RSnd × Bool) : Tm := [(0, .pointer (some ⟨1000, 0, none⟩))]
def rsClock_J6ny_H (xe : RSnd × Bool) : Heap := [(1000, ⟨[.one (.int .i64 (((rsH xe.1).Tones_0).Kind)), .one (.bool (((rsH xe.1).Tones_0).On)), .ints .i64 4 (((rsH xe.1).Tones_0).Reg), .one (.int .i64 (((rsH xe.1).Tones_0).Length)), .one (.int .i64 (((rsH xe.1).Tones_0).Timer)), .one (.int .i64 (((rsH xe.1).Tones_0).Period)), .one (.int .i64 (((rsH xe.1).Tones_0).Step)), .one (.bool (((rsH xe.1).Tones_0).Anew)), .one (.bool (((rsH xe.1).Tones_0).Swept)), .one (.int .i64 (((rsH xe.1).Tones_0).Level)), .one (.int .i64 (((rsH xe.1).Tones_0).Count)), .one (.int .i64 (((rsH xe.1).Tones_0).Line)), .one (.int .i64 (((rsH xe.1).Tones_0).Sweep)), .one (.func (.yield 1) ⟨[.int .i64 ((((rsH xe.1).Tones_0).Row) 0), .int .i64 ((((rsH xe.1).Tones_0).Row) 1), .int .i64 ((((rsH xe.1).Tones_0).Row) 2), .int .i64 ((((rsH xe.1).Tones_0).Row) 3), .int .i64 ((((rsH xe.1).Tones_0).Row) 4), .int .i64 ((((rsH xe.1).Tones_0).Row) 5), .int .i64 ((((rsH xe.1).Tones_0).Row) 6), .int .i64 ((((rsH xe.1).Tones_0).Row) 7), .int .i64 ((((rsH xe.1).Tones_0).Row) 8), .int .i64 ((((rsH xe.1).Tones_0).Row) 9), .int .i64 ((((rsH xe.1).Tones_0).Row) 10), .int .i64 ((((rsH xe.1).Tones_0).Row) 11), .int .i64 ((((rsH xe.1).Tones_0).Row) 12), .int .i64 ((((rsH xe.1).Tones_0).Row) 13), .int .i64 ((((rsH xe.1).Tones_0).Row) 14)]⟩ ⟨[.bool true]⟩), .one (.int .i64 (((rsH xe.1).Tones_1).Kind)), .one (.bool (((rsH xe.1).Tones_1).On)), .ints .i64 4 (((rsH xe.1).Tones_1).Reg), .one (.int .i64 (((rsH xe.1).Tones_1).Length)), .one (.int .i64 (((rsH xe.1).Tones_1).Timer)), .one (.int .i64 (((rsH xe.1).Tones_1).Period)), .one (.int .i64 (((rsH xe.1).Tones_1).Step)), .one (.bool (((rsH xe.1).Tones_1).Anew)), .one (.bool (((rsH xe.1).Tones_1).Swept)), .one (.int .i64 (((rsH xe.1).Tones_1).Level)), .one (.int .i64 (((rsH xe.1).Tones_1).Count)), .one (.int .i64 (((rsH xe.1).Tones_1).Line)), .one (.int .i64 (((rsH xe.1).Tones_1).Sweep)), .one (.func (.yield 1) ⟨[.int .i64 ((((rsH xe.1).Tones_1).Row) 0), .int .i64 ((((rsH xe.1).Tones_1).Row) 1), .int .i64 ((((rsH xe.1).Tones_1).Row) 2), .int .i64 ((((rsH xe.1).Tones_1).Row) 3), .int .i64 ((((rsH xe.1).Tones_1).Row) 4), .int .i64 ((((rsH xe.1).Tones_1).Row) 5), .int .i64 ((((rsH xe.1).Tones_1).Row) 6), .int .i64 ((((rsH xe.1).Tones_1).Row) 7), .int .i64 ((((rsH xe.1).Tones_1).Row) 8), .int .i64 ((((rsH xe.1).Tones_1).Row) 9), .int .i64 ((((rsH xe.1).Tones_1).Row) 10), .int .i64 ((((rsH xe.1).Tones_1).Row) 11), .int .i64 ((((rsH xe.1).Tones_1).Row) 12), .int .i64 ((((rsH xe.1).Tones_1).Row) 13), .int .i64 ((((rsH xe.1).Tones_1).Row) 14)]⟩ ⟨[.bool true]⟩), .one (.int .i64 (((rsH xe.1).Tones_2).Kind)), .one (.bool (((rsH xe.1).Tones_2).On)), .ints .i64 4 (((rsH xe.1).Tones_2).Reg), .one (.int .i64 (((rsH xe.1).Tones_2).Length)), .one (.int .i64 (((rsH xe.1).Tones_2).Timer)), .one (.int .i64 (((rsH xe.1).Tones_2).Period)), .one (.int .i64 (((rsH xe.1).Tones_2).Step)), .one (.bool (((rsH xe.1).Tones_2).Anew)), .one (.bool (((rsH xe.1).Tones_2).Swept)), .one (.int .i64 (((rsH xe.1).Tones_2).Level)), .one (.int .i64 (((rsH xe.1).Tones_2).Count)), .one (.int .i64 (((rsH xe.1).Tones_2).Line)), .one (.int .i64 (((rsH xe.1).Tones_2).Sweep)), .one (.func (.yield 1) ⟨[.int .i64 ((((rsH xe.1).Tones_2).Row) 0), .int .i64 ((((rsH xe.1).Tones_2).Row) 1), .int .i64 ((((rsH xe.1).Tones_2).Row) 2), .int .i64 ((((rsH xe.1).Tones_2).Row) 3), .int .i64 ((((rsH xe.1).Tones_2).Row) 4), .int .i64 ((((rsH xe.1).Tones_2).Row) 5), .int .i64 ((((rsH xe.1).Tones_2).Row) 6), .int .i64 ((((rsH xe.1).Tones_2).Row) 7), .int .i64 ((((rsH xe.1).Tones_2).Row) 8), .int .i64 ((((rsH xe.1).Tones_2).Row) 9), .int .i64 ((((rsH xe.1).Tones_2).Row) 10), .int .i64 ((((rsH xe.1).Tones_2).Row) 11), .int .i64 ((((rsH xe.1).Tones_2).Row) 12), .int .i64 ((((rsH xe.1).Tones_2).Row) 13), .int .i64 ((((rsH xe.1).Tones_2).Row) 14)]⟩ ⟨[.bool true]⟩), .one (.int .i64 (((rsH xe.1).Tones_3).Kind)), .one (.bool (((rsH xe.1).Tones_3).On)), .ints .i64 4 (((rsH xe.1).Tones_3).Reg), .one (.int .i64 (((rsH xe.1).Tones_3).Length)), .one (.int .i64 (((rsH xe.1).Tones_3).Timer)), .one (.int .i64 (((rsH xe.1).Tones_3).Period)), .one (.int .i64 (((rsH xe.1).Tones_3).Step)), .one (.bool (((rsH xe.1).Tones_3).Anew)), .one (.bool (((rsH xe.1).Tones_3).Swept)), .one (.int .i64 (((rsH xe.1).Tones_3).Level)), .one (.int .i64 (((rsH xe.1).Tones_3).Count)), .one (.int .i64 (((rsH xe.1).Tones_3).Line)), .one (.int .i64 (((rsH xe.1).Tones_3).Sweep)), .one (.func (.yield 1) ⟨[.int .i64 ((((rsH xe.1).Tones_3).Row) 0), .int .i64 ((((rsH xe.1).Tones_3).Row) 1), .int .i64 ((((rsH xe.1).Tones_3).Row) 2), .int .i64 ((((rsH xe.1).Tones_3).Row) 3), .int .i64 ((((rsH xe.1).Tones_3).Row) 4), .int .i64 ((((rsH xe.1).Tones_3).Row) 5), .int .i64 ((((rsH xe.1).Tones_3).Row) 6), .int .i64 ((((rsH xe.1).Tones_3).Row) 7), .int .i64 ((((rsH xe.1).Tones_3).Row) 8), .int .i64 ((((rsH xe.1).Tones_3).Row) 9), .int .i64 ((((rsH xe.1).Tones_3).Row) 10), .int .i64 ((((rsH xe.1).Tones_3).Row) 11), .int .i64 ((((rsH xe.1).Tones_3).Row) 12), .int .i64 ((((rsH xe.1).Tones_3).Row) 13), .int .i64 ((((rsH xe.1).Tones_3).Row) 14)]⟩ ⟨[.bool true]⟩), .ints .i64 4 (((rsH xe.1).M).Reg), .one (.int .i64 (((rsH xe.1).M).Level)), .one (.int .i64 (((rsH xe.1).M).Next)), .one (.func (.yield 1) ⟨[.int .i64 ((((rsH xe.1).M).Row) 0), .int .i64 ((((rsH xe.1).M).Row) 1), .int .i64 ((((rsH xe.1).M).Row) 2), .int .i64 ((((rsH xe.1).M).Row) 3), .int .i64 ((((rsH xe.1).M).Row) 4), .int .i64 ((((rsH xe.1).M).Row) 5), .int .i64 ((((rsH xe.1).M).Row) 6), .int .i64 ((((rsH xe.1).M).Row) 7)]⟩ ⟨[.bool (((rsH xe.1).M).told)]⟩), .one (.int .i64 (((rsH xe.1).M).Bits)), .one (.bool (((rsH xe.1).M).Silent)), .one (.int .i64 (((rsH xe.1).M).Timer)), .one (.int .i64 (((rsH xe.1).M).At)), .one (.int .i64 (((rsH xe.1).M).Left)), .one (.bool (((rsH xe.1).M).IRQ)), .one (.int .i64 ((rsH xe.1).Count)), .one (.bool ((rsH xe.1).Long)), .one (.bool ((rsH xe.1).Barred)), .one (.bool ((rsH xe.1).IRQ)), .one (.int .i64 ((rsH xe.1).Cycles))], 52, false⟩)]
def rsClock_J6ny_T1 (xe : RSnd × Bool) (r_ : Bool) : Tm := [(0, .pointer (some ⟨1000, 0, none⟩)), (47, .bool r_)]
def rsClock_J6ny_H1 (xe : RSnd × Bool) (r_ : Bool) : Heap := [(1000, ⟨[.one (.int .i64 (((rsH xe.1).Tones_0).Kind)), .one (.bool (((rsH xe.1).Tones_0).On)), .ints .i64 4 (((rsH xe.1).Tones_0).Reg), .one (.int .i64 (((rsH xe.1).Tones_0).Length)), .one (.int .i64 (((rsH xe.1).Tones_0).Timer)), .one (.int .i64 (((rsH xe.1).Tones_0).Period)), .one (.int .i64 (((rsH xe.1).Tones_0).Step)), .one (.bool (((rsH xe.1).Tones_0).Anew)), .one (.bool (((rsH xe.1).Tones_0).Swept)), .one (.int .i64 (((rsH xe.1).Tones_0).Level)), .one (.int .i64 (((rsH xe.1).Tones_0).Count)), .one (.int .i64 (((rsH xe.1).Tones_0).Line)), .one (.int .i64 (((rsH xe.1).Tones_0).Sweep)), .one (.func (.yield 1) ⟨[.int .i64 ((((rsH xe.1).Tones_0).Row) 0), .int .i64 ((((rsH xe.1).Tones_0).Row) 1), .int .i64 ((((rsH xe.1).Tones_0).Row) 2), .int .i64 ((((rsH xe.1).Tones_0).Row) 3), .int .i64 ((((rsH xe.1).Tones_0).Row) 4), .int .i64 ((((rsH xe.1).Tones_0).Row) 5), .int .i64 ((((rsH xe.1).Tones_0).Row) 6), .int .i64 ((((rsH xe.1).Tones_0).Row) 7), .int .i64 ((((rsH xe.1).Tones_0).Row) 8), .int .i64 ((((rsH xe.1).Tones_0).Row) 9), .int .i64 ((((rsH xe.1).Tones_0).Row) 10), .int .i64 ((((rsH xe.1).Tones_0).Row) 11), .int .i64 ((((rsH xe.1).Tones_0).Row) 12), .int .i64 ((((rsH xe.1).Tones_0).Row) 13), .int .i64 ((((rsH xe.1).Tones_0).Row) 14)]⟩ ⟨[.bool true]⟩), .one (.int .i64 (((rsH xe.1).Tones_1).Kind)), .one (.bool (((rsH xe.1).Tones_1).On)), .ints .i64 4 (((rsH xe.1).Tones_1).Reg), .one (.int .i64 (((rsH xe.1).Tones_1).Length)), .one (.int .i64 (((rsH xe.1).Tones_1).Timer)), .one (.int .i64 (((rsH xe.1).Tones_1).Period)), .one (.int .i64 (((rsH xe.1).Tones_1).Step)), .one (.bool (((rsH xe.1).Tones_1).Anew)), .one (.bool (((rsH xe.1).Tones_1).Swept)), .one (.int .i64 (((rsH xe.1).Tones_1).Level)), .one (.int .i64 (((rsH xe.1).Tones_1).Count)), .one (.int .i64 (((rsH xe.1).Tones_1).Line)), .one (.int .i64 (((rsH xe.1).Tones_1).Sweep)), .one (.func (.yield 1) ⟨[.int .i64 ((((rsH xe.1).Tones_1).Row) 0), .int .i64 ((((rsH xe.1).Tones_1).Row) 1), .int .i64 ((((rsH xe.1).Tones_1).Row) 2), .int .i64 ((((rsH xe.1).Tones_1).Row) 3), .int .i64 ((((rsH xe.1).Tones_1).Row) 4), .int .i64 ((((rsH xe.1).Tones_1).Row) 5), .int .i64 ((((rsH xe.1).Tones_1).Row) 6), .int .i64 ((((rsH xe.1).Tones_1).Row) 7), .int .i64 ((((rsH xe.1).Tones_1).Row) 8), .int .i64 ((((rsH xe.1).Tones_1).Row) 9), .int .i64 ((((rsH xe.1).Tones_1).Row) 10), .int .i64 ((((rsH xe.1).Tones_1).Row) 11), .int .i64 ((((rsH xe.1).Tones_1).Row) 12), .int .i64 ((((rsH xe.1).Tones_1).Row) 13), .int .i64 ((((rsH xe.1).Tones_1).Row) 14)]⟩ ⟨[.bool true]⟩), .one (.int .i64 (((rsH xe.1).Tones_2).Kind)), .one (.bool (((rsH xe.1).Tones_2).On)), .ints .i64 4 (((rsH xe.1).Tones_2).Reg), .one (.int .i64 (((rsH xe.1).Tones_2).Length)), .one (.int .i64 (((rsH xe.1).Tones_2).Timer)), .one (.int .i64 (((rsH xe.1).Tones_2).Period)), .one (.int .i64 (((rsH xe.1).Tones_2).Step)), .one (.bool (((rsH xe.1).Tones_2).Anew)), .one (.bool (((rsH xe.1).Tones_2).Swept)), .one (.int .i64 (((rsH xe.1).Tones_2).Level)), .one (.int .i64 (((rsH xe.1).Tones_2).Count)), .one (.int .i64 (((rsH xe.1).Tones_2).Line)), .one (.int .i64 (((rsH xe.1).Tones_2).Sweep)), .one (.func (.yield 1) ⟨[.int .i64 ((((rsH xe.1).Tones_2).Row) 0), .int .i64 ((((rsH xe.1).Tones_2).Row) 1), .int .i64 ((((rsH xe.1).Tones_2).Row) 2), .int .i64 ((((rsH xe.1).Tones_2).Row) 3), .int .i64 ((((rsH xe.1).Tones_2).Row) 4), .int .i64 ((((rsH xe.1).Tones_2).Row) 5), .int .i64 ((((rsH xe.1).Tones_2).Row) 6), .int .i64 ((((rsH xe.1).Tones_2).Row) 7), .int .i64 ((((rsH xe.1).Tones_2).Row) 8), .int .i64 ((((rsH xe.1).Tones_2).Row) 9), .int .i64 ((((rsH xe.1).Tones_2).Row) 10), .int .i64 ((((rsH xe.1).Tones_2).Row) 11), .int .i64 ((((rsH xe.1).Tones_2).Row) 12), .int .i64 ((((rsH xe.1).Tones_2).Row) 13), .int .i64 ((((rsH xe.1).Tones_2).Row) 14)]⟩ ⟨[.bool true]⟩), .one (.int .i64 (((rsH xe.1).Tones_3).Kind)), .one (.bool (((rsH xe.1).Tones_3).On)), .ints .i64 4 (((rsH xe.1).Tones_3).Reg), .one (.int .i64 (((rsH xe.1).Tones_3).Length)), .one (.int .i64 (((rsH xe.1).Tones_3).Timer)), .one (.int .i64 (((rsH xe.1).Tones_3).Period)), .one (.int .i64 (((rsH xe.1).Tones_3).Step)), .one (.bool (((rsH xe.1).Tones_3).Anew)), .one (.bool (((rsH xe.1).Tones_3).Swept)), .one (.int .i64 (((rsH xe.1).Tones_3).Level)), .one (.int .i64 (((rsH xe.1).Tones_3).Count)), .one (.int .i64 (((rsH xe.1).Tones_3).Line)), .one (.int .i64 (((rsH xe.1).Tones_3).Sweep)), .one (.func (.yield 1) ⟨[.int .i64 ((((rsH xe.1).Tones_3).Row) 0), .int .i64 ((((rsH xe.1).Tones_3).Row) 1), .int .i64 ((((rsH xe.1).Tones_3).Row) 2), .int .i64 ((((rsH xe.1).Tones_3).Row) 3), .int .i64 ((((rsH xe.1).Tones_3).Row) 4), .int .i64 ((((rsH xe.1).Tones_3).Row) 5), .int .i64 ((((rsH xe.1).Tones_3).Row) 6), .int .i64 ((((rsH xe.1).Tones_3).Row) 7), .int .i64 ((((rsH xe.1).Tones_3).Row) 8), .int .i64 ((((rsH xe.1).Tones_3).Row) 9), .int .i64 ((((rsH xe.1).Tones_3).Row) 10), .int .i64 ((((rsH xe.1).Tones_3).Row) 11), .int .i64 ((((rsH xe.1).Tones_3).Row) 12), .int .i64 ((((rsH xe.1).Tones_3).Row) 13), .int .i64 ((((rsH xe.1).Tones_3).Row) 14)]⟩ ⟨[.bool true]⟩), .ints .i64 4 (((rsH xe.1).M).Reg), .one (.int .i64 (((rsH xe.1).M).Level)), .one (.int .i64 (((rsH xe.1).M).Next)), .one (.func (.yield 1) ⟨[.int .i64 ((((rsH xe.1).M).Row) 0), .int .i64 ((((rsH xe.1).M).Row) 1), .int .i64 ((((rsH xe.1).M).Row) 2), .int .i64 ((((rsH xe.1).M).Row) 3), .int .i64 ((((rsH xe.1).M).Row) 4), .int .i64 ((((rsH xe.1).M).Row) 5), .int .i64 ((((rsH xe.1).M).Row) 6), .int .i64 ((((rsH xe.1).M).Row) 7)]⟩ ⟨[.bool (((rsH xe.1).M).told)]⟩), .one (.int .i64 (((rsH xe.1).M).Bits)), .one (.bool (((rsH xe.1).M).Silent)), .one (.int .i64 (((rsH xe.1).M).Timer)), .one (.int .i64 (((rsH xe.1).M).At)), .one (.int .i64 (((rsH xe.1).M).Left)), .one (.bool (((rsH xe.1).M).IRQ)), .one (.int .i64 ((rsH xe.1).Count)), .one (.bool ((rsH xe.1).Long)), .one (.bool ((rsH xe.1).Barred)), .one (.bool ((rsH xe.1).IRQ)), .one (.int .i64 ((rsH xe.1).Cycles))], 52, false⟩)]
theorem rsClock_J6ny_p1 (xe : RSnd × Bool) (f1 : (((rsH xe.1).Count : Int) == 29829) = true) : Runs Tryd.prog 112 (bodyOf Tryd.f23 [1, 1, 1, 1, 0, 1, 0, 1, 1, 1, 0, 1, 0]) (rsClock_J6ny_T xe) (rsClock_J6ny_H xe) 1001 .normal (rsClock_J6ny_T1 xe (!((rsH xe.1).Barred))) (rsClock_J6ny_H1 xe (!((rsH xe.1).Barred))) 1001 := by
  exact runs_of_x hG hM 400 [.yes, .yes, .yes, .yes, .yes, .yes] (J f1 (J f1 (J f1 (J f1 (J f1 (J f1 trivial)))))) (by kernel_rfl)
theorem rsClock_J6ny_p2 (xe : RSnd × Bool) (f1 : (((rsH xe.1).Count : Int) == 29829) = false) : Runs Tryd.prog 112 (bodyOf Tryd.f23 [1, 1, 1, 1, 0, 1, 0, 1, 1, 1, 0, 1, 0]) (rsClock_J6ny_T xe) (rsClock_J6ny_H xe) 1001 .normal (rsClock_J6ny_T1 xe false) (rsClock_J6ny_H1 xe false) 1001 := by
  exact runs_of_x hG hM 400 [.no, .no, .no, .no, .no, .no] (J f1 (J f1 (J f1 (J f1 (J f1 (J f1 trivial)))))) (by kernel_rfl)
theorem rsClock_J6ny_runs (xe : RSnd × Bool) : Runs Tryd.prog 112 (bodyOf Tryd.f23 [1, 1, 1, 1, 0, 1, 0, 1, 1, 1, 0, 1, 0]) (rsClock_J6ny_T xe) (rsClock_J6ny_H xe) 1001 .normal (rsClock_J6ny_T1 xe (rsClock_J6ny xe)) (rsClock_J6ny_H1 xe (rsClock_J6ny xe)) 1001 := by
  rcases bt (((rsH xe.1).Count : Int) == 29829) with f1 | f1
  ·
    rw [show rsClock_J6ny xe = (!((rsH xe.1).Barred)) from by unfold rsClock_J6ny; rw [if_pos f1]]
    exact rsClock_J6ny_p1 xe f1
  ·
    rw [show rsClock_J6ny xe = false from by unfold rsClock_J6ny; rw [if_neg (nt f1)]]
    exact rsClock_J6ny_p2 xe f1
def rsClock_J7ny (xe : RSnd × Bool) (xf : RSnd) : RSnd :=
  if (rsClock_J6ny xe) = true then
    ({ xf with IRQ := true } : RSnd)
  else
    xf
def rsClock_J7ny_T (xe : RSnd × Bool) (xf : RSnd) : Tm := [(0, .pointer (some ⟨1000, 0, none⟩)), (47, .bool (rsClock_J6ny xe))]
def rsClock_J7ny_H (xe : RSnd × Bool) (xf : RSnd) : Heap := [(1000, RSnd.blk xf)]
def rsClock_J7ny_T1 (xe : RSnd × Bool) (xf : RSnd) (r_ : RSnd) : Tm := [(0, .pointer (some ⟨1000, 0, none⟩))]
def rsClock_J7ny_H1 (xe : RSnd × Bool) (xf : RSnd) (r_ : RSnd) : Heap := [(1000, RSnd.blk r_)]
theorem rsClock_J7ny_p1 (xe : RSnd × Bool) (xf : RSnd) (f1 : (rsClock_J6ny xe) = true) : Runs Tryd.prog 112 (bodyOf Tryd.f23 [1, 1, 1, 1, 0, 1, 0, 1, 1, 1, 0, 1, 1]) (rsClock_J7ny_T xe xf) (rsClock_J7ny_H xe xf) 1001 .normal (rsClock_J7ny_T1 xe xf ({ xf with IRQ := true } : RSnd)) (rsClock_J7ny_H1 xe xf ({ xf with IRQ := true } : RSnd)) 1001 := by
  exact runs_of_x hG hM 400 [.yes] (J f1 trivial) (by kernel_rfl)
theorem rsClock_J7ny_p2 (xe : RSnd × Bool) (xf : RSnd) (f1 : (rsClock_J6ny xe) = false) : Runs Tryd.prog 112 (bodyOf Tryd.f23 [1, 1, 1, 1, 0, 1, 0, 1, 1, 1, 0, 1, 1]) (rsClock_J7ny_T xe xf) (rsClock_J7ny_H xe xf) 1001 .normal (rsClock_J7ny_T1 xe xf xf) (rsClock_J7ny_H1 xe xf xf) 1001 := by
  exact runs_of_x hG hM 400 [.no] (J f1 trivial) (by kernel_rfl)
theorem rsClock_J7ny_runs (xe : RSnd × Bool) (xf : RSnd) : Runs Tryd.prog 112 (bodyOf Tryd.f23 [1, 1, 1, 1, 0, 1, 0, 1, 1, 1, 0, 1, 1]) (rsClock_J7ny_T xe xf) (rsClock_J7ny_H xe xf) 1001 .normal (rsClock_J7ny_T1 xe xf (rsClock_J7ny xe xf)) (rsClock_J7ny_H1 xe xf (rsClock_J7ny xe xf)) 1001 := by
  rcases bt (rsClock_J6ny xe) with f1 | f1
  ·
    rw [show rsClock_J7ny xe xf = ({ xf with IRQ := true } : RSnd) from by unfold rsClock_J7ny; rw [if_pos f1]]
    exact rsClock_J7ny_p1 xe xf f1
  ·
    rw [show rsClock_J7ny xe xf = xf from by unfold rsClock_J7ny; rw [if_neg (nt f1)]]
    exact rsClock_J7ny_p2 xe xf f1
def rsClock_J6nn (xf : RSnd × Bool) : RSnd :=
  if xf.2 = true then
    ({ xf.1 with Count := 0 } : RSnd)
  else
    xf.1
def rsClock_J6nn_T (xf : RSnd × Bool) : Tm := [(0, .pointer (some ⟨1000, 0, none⟩)), (51, .bool xf.2)]
def rsClock_J6nn_H (xf : RSnd × Bool) : Heap := [(1000, RSnd.blk xf.1)]
def rsClock_J6nn_T1 (xf : RSnd × Bool) (r_ : RSnd) : Tm := [(0, .pointer (some ⟨1000, 0, none⟩))]
def rsClock_J6nn_H1 (xf : RSnd × Bool) (r_ : RSnd) : Heap := [(1000, RSnd.blk r_)]
theorem rsClock_J6nn_p1 (xf : RSnd × Bool) (f1 : xf.2 = true) : Runs Tryd.prog 112 (bodyOf Tryd.f23 [1, 1, 1, 1, 0, 1, 0, 1, 1, 1, 1, 1]) (rsClock_J6nn_T xf) (rsClock_J6nn_H xf) 1001 .normal (rsClock_J6nn_T1 xf ({ xf.1 with Count := 0 } : RSnd)) (rsClock_J6nn_H1 xf ({ xf.1 with Count := 0 } : RSnd)) 1001 := by
  exact runs_of_x hG hM 400 [.yes] (J f1 trivial) (by kernel_rfl)
theorem rsClock_J6nn_p2 (xf : RSnd × Bool) (f1 : xf.2 = false) : Runs Tryd.prog 112 (bodyOf Tryd.f23 [1, 1, 1, 1, 0, 1, 0, 1, 1, 1, 1, 1]) (rsClock_J6nn_T xf) (rsClock_J6nn_H xf) 1001 .normal (rsClock_J6nn_T1 xf xf.1) (rsClock_J6nn_H1 xf xf.1) 1001 := by
  exact runs_of_x hG hM 400 [.no] (J f1 trivial) (by kernel_rfl)
theorem rsClock_J6nn_runs (xf : RSnd × Bool) : Runs Tryd.prog 112 (bodyOf Tryd.f23 [1, 1, 1, 1, 0, 1, 0, 1, 1, 1, 1, 1]) (rsClock_J6nn_T xf) (rsClock_J6nn_H xf) 1001 .normal (rsClock_J6nn_T1 xf (rsClock_J6nn xf)) (rsClock_J6nn_H1 xf (rsClock_J6nn xf)) 1001 := by
  rcases bt xf.2 with f1 | f1
  ·
    rw [show rsClock_J6nn xf = ({ xf.1 with Count := 0 } : RSnd) from by unfold rsClock_J6nn; rw [if_pos f1]]
    exact rsClock_J6nn_p1 xf f1
  ·
    rw [show rsClock_J6nn xf = xf.1 from by unfold rsClock_J6nn; rw [if_neg (nt f1)]]
    exact rsClock_J6nn_p2 xf f1
def rsClock_J5n (x : RSnd) (xe : RSnd × Bool) : RSnd :=
  if xe.2 = true then
    (rsClock_J7ny xe (rsH xe.1))
  else
    (rsClock_J6nn (xe.1, ((i64.wrap (x.Count + 1)) == (i64.wrap ((rsClock_J1 x) + 1)))))
def rsClock_J5n_T (x : RSnd) (xe : RSnd × Bool) : Tm := [(0, .pointer (some ⟨1000, 0, none⟩)), (2, .int .i64 (rsClock_J1 x)), (24, .int .i64 (i64.wrap (x.Count + 1))), (30, .bool xe.2)]
def rsClock_J5n_H (x : RSnd) (xe : RSnd × Bool) : Heap := [(1000, RSnd.blk xe.1)]
def rsClock_J5n_T1 (x : RSnd) (xe : RSnd × Bool) (r_ : RSnd) : Tm := [(0, .pointer (some ⟨1000, 0, none⟩))]
def rsClock_J5n_H1 (x : RSnd) (xe : RSnd × Bool) (r_ : RSnd) : Heap := [(1000, RSnd.blk r_)]
theorem rsClock_J5n_p1 (x : RSnd) (xe : RSnd × Bool) (v1e : Good xe.1.Tones_0) (v2e : Good xe.1.Tones_1) (v3e : Good xe.1.Tones_2) (v4e : Good xe.1.Tones_3) (e1 : xe.2 = true) : Runs Tryd.prog 112 (bodyOf Tryd.f23 [1, 1, 1, 1, 0, 1, 0, 1, 1, 1]) (rsClock_J5n_T x xe) (rsClock_J5n_H x xe) 1001 .normal (rsClock_J5n_T1 x xe (rsClock_J7ny xe (rsH xe.1))) (rsClock_J5n_H1 x xe (rsClock_J7ny xe (rsH xe.1))) 1001 := by
  exact runs_of_x hG hM 400 [.yes, .call [(1000, 1000)] [] 1001 (.tuple ⟨[]⟩) [(1000, RSnd.blk (rsH xe.1))], .segk 0 12 [0] [1000] .normal (rsClock_J6ny_T1 xe (rsClock_J6ny xe)) (rsClock_J6ny_H1 xe (rsClock_J6ny xe)) 1001, .segk 2 0 [0, 47] [1000] .normal (rsClock_J7ny_T1 xe (rsH xe.1) (rsClock_J7ny xe (rsH xe.1))) (rsClock_J7ny_H1 xe (rsH xe.1) (rsClock_J7ny xe (rsH xe.1))) 1001] (J e1 (J (rsH_ok xe.1 v1e v2e v3e v4e) (J (rsClock_J6ny_runs xe) (J (rsClock_J7ny_runs xe (rsH xe.1)) trivial)))) (by kernel_rfl)
theorem rsClock_J5n_p2 (x : RSnd) (xe : RSnd × Bool) (v1e : Good xe.1.Tones_0) (v2e : Good xe.1.Tones_1) (v3e : Good xe.1.Tones_2) (v4e : Good xe.1.Tones_3) (e1 : xe.2 = false) : Runs Tryd.prog 112 (bodyOf Tryd.f23 [1, 1, 1, 1, 0, 1, 0, 1, 1, 1]) (rsClock_J5n_T x xe) (rsClock_J5n_H x xe) 1001 .normal (rsClock_J5n_T1 x xe (rsClock_J6nn (xe.1, ((i64.wrap (x.Count + 1)) == (i64.wrap ((rsClock_J1 x) + 1)))))) (rsClock_J5n_H1 x xe (rsClock_J6nn (xe.1, ((i64.wrap (x.Count + 1)) == (i64.wrap ((rsClock_J1 x) + 1)))))) 1001 := by
  exact runs_of_x hG hM 400 [.no, .segk 2 0 [0, 51] [1000] .normal (rsClock_J6nn_T1 (xe.1, ((i64.wrap (x.Count + 1)) == (i64.wrap ((rsClock_J1 x) + 1)))) (rsClock_J6nn (xe.1, ((i64.wrap (x.Count + 1)) == (i64.wrap ((rsClock_J1 x) + 1)))))) (rsClock_J6nn_H1 (xe.1, ((i64.wrap (x.Count + 1)) == (i64.wrap ((rsClock_J1 x) + 1)))) (rsClock_J6nn (xe.1, ((i64.wrap (x.Count + 1)) == (i64.wrap ((rsClock_J1 x) + 1)))))) 1001] (J e1 (J (rsClock_J6nn_runs (xe.1, ((i64.wrap (x.Count + 1)) == (i64.wrap ((rsClock_J1 x) + 1))))) trivial)) (by kernel_rfl)
theorem rsClock_J5n_runs (x : RSnd) (xe : RSnd × Bool) (v1e : Good xe.1.Tones_0) (v2e : Good xe.1.Tones_1) (v3e : Good xe.1.Tones_2) (v4e : Good xe.1.Tones_3) : Runs Tryd.prog 112 (bodyOf Tryd.f23 [1, 1, 1, 1, 0, 1, 0, 1, 1, 1]) (rsClock_J5n_T x xe) (rsClock_J5n_H x xe) 1001 .normal (rsClock_J5n_T1 x xe (rsClock_J5n x xe)) (rsClock_J5n_H1 x xe (rsClock_J5n x xe)) 1001 := by
  rcases bt xe.2 with e1 | e1
  ·
    rw [show rsClock_J5n x xe = (rsClock_J7ny xe (rsH xe.1)) from by unfold rsClock_J5n; rw [if_pos e1]]
    exact rsClock_J5n_p1 x xe v1e v2e v3e v4e e1
  ·
    rw [show rsClock_J5n x xe = (rsClock_J6nn (xe.1, ((i64.wrap (x.Count + 1)) == (i64.wrap ((rsClock_J1 x) + 1))))) from by unfold rsClock_J5n; rw [if_neg (nt e1)]]
    exact rsClock_J5n_p2 x xe v1e v2e v3e v4e e1
def rsClock_J3 (x : RSnd) (xd : RSnd × Bool) : RSnd :=
  if xd.2 = true then
    (rsQ xd.1)
  else
    (rsClock_J5n x (xd.1, (rsClock_J4n x ((i64.wrap (x.Count + 1)) == 14913))))
def rsClock_J3_T (x : RSnd) (xd : RSnd × Bool) : Tm := [(0, .pointer (some ⟨1000, 0, none⟩)), (2, .int .i64 (rsClock_J1 x)), (24, .int .i64 (i64.wrap (x.Count + 1))), (25, .bool xd.2)]
def rsClock_J3_H (x : RSnd) (xd : RSnd × Bool) : Heap := [(1000, RSnd.blk xd.1)]
def rsClock_J3_T1 (x : RSnd) (xd : RSnd × Bool) (r_ : RSnd) : Tm := [(0, .pointer (some ⟨1000, 0, none⟩))]
def rsClock_J3_H1 (x : RSnd) (xd : RSnd × Bool) (r_ : RSnd) : Heap := [(1000, RSnd.blk r_)]
theorem rsClock_J3_p1 (x : RSnd) (xd : RSnd × Bool) (v1d : Good xd.1.Tones_0) (v2d : Good xd.1.Tones_1) (v3d : Good xd.1.Tones_2) (v4d : Good xd.1.Tones_3) (d1 : xd.2 = true) : Runs Tryd.prog 112 (bodyOf Tryd.f23 [1, 1, 1, 1, 0, 1, 0, 1]) (rsClock_J3_T x xd) (rsClock_J3_H x xd) 1001 .normal (rsClock_J3_T1 x xd (rsQ xd.1)) (rsClock_J3_H1 x xd (rsQ xd.1)) 1001 := by
  exact runs_of_x hG hM 400 [.yes, .call [(1000, 1000)] [] 1001 (.tuple ⟨[]⟩) [(1000, RSnd.blk (rsQ xd.1))]] (J d1 (J (rsQ_ok xd.1) trivial)) (by kernel_rfl)
theorem rsClock_J3_p2 (x : RSnd) (xd : RSnd × Bool) (v1d : Good xd.1.Tones_0) (v2d : Good xd.1.Tones_1) (v3d : Good xd.1.Tones_2) (v4d : Good xd.1.Tones_3) (d1 : xd.2 = false) : Runs Tryd.prog 112 (bodyOf Tryd.f23 [1, 1, 1, 1, 0, 1, 0, 1]) (rsClock_J3_T x xd) (rsClock_J3_H x xd) 1001 .normal (rsClock_J3_T1 x xd (rsClock_J5n x (xd.1, (rsClock_J4n x ((i64.wrap (x.Count + 1)) == 14913))))) (rsClock_J3_H1 x xd (rsClock_J5n x (xd.1, (rsClock_J4n x ((i64.wrap (x.Count + 1)) == 14913))))) 1001 := by
  exact runs_of_x hG hM 400 [.no, .segk 2 0 [0, 2, 24, 30] [] .normal (rsClock_J4n_T1 x ((i64.wrap (x.Count + 1)) == 14913) (rsClock_J4n x ((i64.wrap (x.Count + 1)) == 14913))) (rsClock_J4n_H1 x ((i64.wrap (x.Count + 1)) == 14913) (rsClock_J4n x ((i64.wrap (x.Count + 1)) == 14913))) 1001, .segk 2 0 [0, 2, 24, 30] [1000] .normal (rsClock_J5n_T1 x (xd.1, (rsClock_J4n x ((i64.wrap (x.Count + 1)) == 14913))) (rsClock_J5n x (xd.1, (rsClock_J4n x ((i64.wrap (x.Count + 1)) == 14913))))) (rsClock_J5n_H1 x (xd.1, (rsClock_J4n x ((i64.wrap (x.Count + 1)) == 14913))) (rsClock_J5n x (xd.1, (rsClock_J4n x ((i64.wrap (x.Count + 1)) == 14913))))) 1001] (J d1 (J (rsClock_J4n_runs x ((i64.wrap (x.Count + 1)) == 14913)) (J (rsClock_J5n_runs x (xd.1, (rsClock_J4n x ((i64.wrap (x.Count + 1)) == 14913))) v1d v2d v3d v4d) trivial))) (by kernel_rfl)
theorem rsClock_J3_runs (x : RSnd) (xd : RSnd × Bool) (v1d : Good xd.1.Tones_0) (v2d : Good xd.1.Tones_1) (v3d : Good xd.1.Tones_2) (v4d : Good xd.1.Tones_3) : Runs Tryd.prog 112 (bodyOf Tryd.f23 [1, 1, 1, 1, 0, 1, 0, 1]) (rsClock_J3_T x xd) (rsClock_J3_H x xd) 1001 .normal (rsClock_J3_T1 x xd (rsClock_J3 x xd)) (rsClock_J3_H1 x xd (rsClock_J3 x xd)) 1001 := by
  rcases bt xd.2 with d1 | d1
  ·
    rw [show rsClock_J3 x xd = (rsQ xd.1) from by unfold rsClock_J3; rw [if_pos d1]]
    exact rsClock_J3_p1 x xd v1d v2d v3d v4d d1
  ·
    rw [show rsClock_J3 x xd = (rsClock_J5n x (xd.1, (rsClock_J4n x ((i64.wrap (x.Count + 1)) == 14913)))) from by unfold rsClock_J3; rw [if_neg (nt d1)]]
    exact rsClock_J3_p2 x xd v1d v2d v3d v4d d1
def rsClock_J8 (xd : RSnd × Bool) : RSnd :=
  if xd.2 = true then
    ({ xd.1 with Tones_0 := ({ (rClock xd.1.Tones_0) with Reg := (stN 4 xd.1.Tones_0.Reg ((rClock xd.1.Tones_0).Reg)) } : RTone), Tones_1 := ({ (rClock xd.1.Tones_1) with Reg := (stN 4 xd.1.Tones_1.Reg ((rClock xd.1.Tones_1).Reg)) } : RTone) } : RSnd)
  else
    xd.1
def rsClock_J8_T (xd : RSnd × Bool) : Tm := [(0, .pointer (some ⟨1000, 0, none⟩)), (83, .bool xd.2)]
def rsClock_J8_H (xd : RSnd × Bool) : Heap := [(1000, RSnd.blk xd.1)]
def rsClock_J8_T1 (xd : RSnd × Bool) (r_ : RSnd) : Tm := [(0, .pointer (some ⟨1000, 0, none⟩))]
def rsClock_J8_H1 (xd : RSnd × Bool) (r_ : RSnd) : Heap := [(1000, RSnd.blk r_)]
theorem rsClock_J8_p1 (xd : RSnd × Bool) (d1 : xd.2 = true) : Runs Tryd.prog 112 (bodyOf Tryd.f23 [1, 1, 1, 1, 1, 1, 0, 1]) (rsClock_J8_T xd) (rsClock_J8_H xd) 1001 .normal (rsClock_J8_T1 xd ({ xd.1 with Tones_0 := ({ (rClock xd.1.Tones_0) with Reg := (stN 4 xd.1.Tones_0.Reg ((rClock xd.1.Tones_0).Reg)) } : RTone), Tones_1 := ({ (rClock xd.1.Tones_1) with Reg := (stN 4 xd.1.Tones_1.Reg ((rClock xd.1.Tones_1).Reg)) } : RTone) } : RSnd)) (rsClock_J8_H1 xd ({ xd.1 with Tones_0 := ({ (rClock xd.1.Tones_0) with Reg := (stN 4 xd.1.Tones_0.Reg ((rClock xd.1.Tones_0).Reg)) } : RTone), Tones_1 := ({ (rClock xd.1.Tones_1) with Reg := (stN 4 xd.1.Tones_1.Reg ((rClock xd.1.Tones_1).Reg)) } : RTone) } : RSnd)) 1001 := by
  exact runs_of_x hG hM 400 [.yes, .lit 0, .call [] [] 1000 (RTone.enc (rClock xd.1.Tones_0)) [], .lit 1, .call [] [] 1000 (RTone.enc (rClock xd.1.Tones_1)) [], .lit 0, .lit 1] (J d1 (J (Eq.refl (0 : Int)) (J (by decide : 0 < 4) (J (rClock_ok xd.1.Tones_0) (J (Eq.refl (1 : Int)) (J (by decide : 1 < 4) (J (rClock_ok xd.1.Tones_1) (J (Eq.refl (0 : Int)) (J (by decide : 0 < 4) (J (Eq.refl (1 : Int)) (J (by decide : 1 < 4) trivial))))))))))) (by kernel_rfl)
theorem rsClock_J8_p2 (xd : RSnd × Bool) (d1 : xd.2 = false) : Runs Tryd.prog 112 (bodyOf Tryd.f23 [1, 1, 1, 1, 1, 1, 0, 1]) (rsClock_J8_T xd) (rsClock_J8_H xd) 1001 .normal (rsClock_J8_T1 xd xd.1) (rsClock_J8_H1 xd xd.1) 1001 := by
  exact runs_of_x hG hM 400 [.no] (J d1 trivial) (by kernel_rfl)
theorem rsClock_J8_runs (xd : RSnd × Bool) : Runs Tryd.prog 112 (bodyOf Tryd.f23 [1, 1, 1, 1, 1, 1, 0, 1]) (rsClock_J8_T xd) (rsClock_J8_H xd) 1001 .normal (rsClock_J8_T1 xd (rsClock_J8 xd)) (rsClock_J8_H1 xd (rsClock_J8 xd)) 1001 := by
  rcases bt xd.2 with d1 | d1
  ·
    rw [show rsClock_J8 xd = ({ xd.1 with Tones_0 := ({ (rClock xd.1.Tones_0) with Reg := (stN 4 xd.1.Tones_0.Reg ((rClock xd.1.Tones_0).Reg)) } : RTone), Tones_1 := ({ (rClock xd.1.Tones_1) with Reg := (stN 4 xd.1.Tones_1.Reg ((rClock xd.1.Tones_1).Reg)) } : RTone) } : RSnd) from by unfold rsClock_J8; rw [if_pos d1]]
    exact rsClock_J8_p1 xd d1
  ·
    rw [show rsClock_J8 xd = xd.1 from by unfold rsClock_J8; rw [if_neg (nt d1)]]
    exact rsClock_J8_p2 xd d1
def rsClock (x : RSnd) : RSnd :=
  ({ (rsClock_J8 (({ (rsClock_J3 x (({ x with Count := (i64.wrap (x.Count + 1)), Cycles := (i64.wrap (x.Cycles + 1)) } : RSnd), (rsClock_J2 x ((i64.wrap (x.Count + 1)) == 7457)))) with Tones_2 := ({ (rClock ((rsClock_J3 x (({ x with Count := (i64.wrap (x.Count + 1)), Cycles := (i64.wrap (x.Cycles + 1)) } : RSnd), (rsClock_J2 x ((i64.wrap (x.Count + 1)) == 7457)))).Tones_2)) with Reg := (stN 4 (((rsClock_J3 x (({ x with Count := (i64.wrap (x.Count + 1)), Cycles := (i64.wrap (x.Cycles + 1)) } : RSnd), (rsClock_J2 x ((i64.wrap (x.Count + 1)) == 7457)))).Tones_2).Reg) ((rClock ((rsClock_J3 x (({ x with Count := (i64.wrap (x.Count + 1)), Cycles := (i64.wrap (x.Cycles + 1)) } : RSnd), (rsClock_J2 x ((i64.wrap (x.Count + 1)) == 7457)))).Tones_2)).Reg)) } : RTone), Tones_3 := ({ (rClock ((rsClock_J3 x (({ x with Count := (i64.wrap (x.Count + 1)), Cycles := (i64.wrap (x.Cycles + 1)) } : RSnd), (rsClock_J2 x ((i64.wrap (x.Count + 1)) == 7457)))).Tones_3)) with Reg := (stN 4 (((rsClock_J3 x (({ x with Count := (i64.wrap (x.Count + 1)), Cycles := (i64.wrap (x.Cycles + 1)) } : RSnd), (rsClock_J2 x ((i64.wrap (x.Count + 1)) == 7457)))).Tones_3).Reg) ((rClock ((rsClock_J3 x (({ x with Count := (i64.wrap (x.Count + 1)), Cycles := (i64.wrap (x.Cycles + 1)) } : RSnd), (rsClock_J2 x ((i64.wrap (x.Count + 1)) == 7457)))).Tones_3)).Reg)) } : RTone) } : RSnd), (((Int.tmod ((rsClock_J3 x (({ x with Count := (i64.wrap (x.Count + 1)), Cycles := (i64.wrap (x.Cycles + 1)) } : RSnd), (rsClock_J2 x ((i64.wrap (x.Count + 1)) == 7457)))).Cycles) 2) : Int) == 0))) with M := ({ (rSmp ((rsClock_J8 (({ (rsClock_J3 x (({ x with Count := (i64.wrap (x.Count + 1)), Cycles := (i64.wrap (x.Cycles + 1)) } : RSnd), (rsClock_J2 x ((i64.wrap (x.Count + 1)) == 7457)))) with Tones_2 := ({ (rClock ((rsClock_J3 x (({ x with Count := (i64.wrap (x.Count + 1)), Cycles := (i64.wrap (x.Cycles + 1)) } : RSnd), (rsClock_J2 x ((i64.wrap (x.Count + 1)) == 7457)))).Tones_2)) with Reg := (stN 4 (((rsClock_J3 x (({ x with Count := (i64.wrap (x.Count + 1)), Cycles := (i64.wrap (x.Cycles + 1)) } : RSnd), (rsClock_J2 x ((i64.wrap (x.Count + 1)) == 7457)))).Tones_2).Reg) ((rClock ((rsClock_J3 x (({ x with Count := (i64.wrap (x.Count + 1)), Cycles := (i64.wrap (x.Cycles + 1)) } : RSnd), (rsClock_J2 x ((i64.wrap (x.Count + 1)) == 7457)))).Tones_2)).Reg)) } : RTone), Tones_3 := ({ (rClock ((rsClock_J3 x (({ x with Count := (i64.wrap (x.Count + 1)), Cycles := (i64.wrap (x.Cycles + 1)) } : RSnd), (rsClock_J2 x ((i64.wrap (x.Count + 1)) == 7457)))).Tones_3)) with Reg := (stN 4 (((rsClock_J3 x (({ x with Count := (i64.wrap (x.Count + 1)), Cycles := (i64.wrap (x.Cycles + 1)) } : RSnd), (rsClock_J2 x ((i64.wrap (x.Count + 1)) == 7457)))).Tones_3).Reg) ((rClock ((rsClock_J3 x (({ x with Count := (i64.wrap (x.Count + 1)), Cycles := (i64.wrap (x.Cycles + 1)) } : RSnd), (rsClock_J2 x ((i64.wrap (x.Count + 1)) == 7457)))).Tones_3)).Reg)) } : RTone) } : RSnd), (((Int.tmod ((rsClock_J3 x (({ x with Count := (i64.wrap (x.Count + 1)), Cycles := (i64.wrap (x.Cycles + 1)) } : RSnd), (rsClock_J2 x ((i64.wrap (x.Count + 1)) == 7457)))).Cycles) 2) : Int) == 0))).M)) with Reg := (stN 4 (((rsClock_J8 (({ (rsClock_J3 x (({ x with Count := (i64.wrap (x.Count + 1)), Cycles := (i64.wrap (x.Cycles + 1)) } : RSnd), (rsClock_J2 x ((i64.wrap (x.Count + 1)) == 7457)))) with Tones_2 := ({ (rClock ((rsClock_J3 x (({ x with Count := (i64.wrap (x.Count + 1)), Cycles := (i64.wrap (x.Cycles + 1)) } : RSnd), (rsClock_J2 x ((i64.wrap (x.Count + 1)) == 7457)))).Tones_2)) with Reg := (stN 4 (((rsClock_J3 x (({ x with Count := (i64.wrap (x.Count + 1)), Cycles := (i64.wrap (x.Cycles + 1)) } : RSnd), (rsClock_J2 x ((i64.wrap (x.Count + 1)) == 7457)))).Tones_2).Reg) ((rClock ((rsClock_J3 x (({ x with Count := (i64.wrap (x.Count + 1)), Cycles := (i64.wrap (x.Cycles + 1)) } : RSnd), (rsClock_J2 x ((i64.wrap (x.Count + 1)) == 7457)))).Tones_2)).Reg)) } : RTone), Tones_3 := ({ (rClock ((rsClock_J3 x (({ x with Count := (i64.wrap (x.Count + 1)), Cycles := (i64.wrap (x.Cycles + 1)) } : RSnd), (rsClock_J2 x ((i64.wrap (x.Count + 1)) == 7457)))).Tones_3)) with Reg := (stN 4 (((rsClock_J3 x (({ x with Count := (i64.wrap (x.Count + 1)), Cycles := (i64.wrap (x.Cycles + 1)) } : RSnd), (rsClock_J2 x ((i64.wrap (x.Count + 1)) == 7457)))).Tones_3).Reg) ((rClock ((rsClock_J3 x (({ x with Count := (i64.wrap (x.Count + 1)), Cycles := (i64.wrap (x.Cycles + 1)) } : RSnd), (rsClock_J2 x ((i64.wrap (x.Count + 1)) == 7457)))).Tones_3)).Reg)) } : RTone) } : RSnd), (((Int.tmod ((rsClock_J3 x (({ x with Count := (i64.wrap (x.Count + 1)), Cycles := (i64.wrap (x.Cycles + 1)) } : RSnd), (rsClock_J2 x ((i64.wrap (x.Count + 1)) == 7457)))).Cycles) 2) : Int) == 0))).M).Reg) ((rSmp ((rsClock_J8 (({ (rsClock_J3 x (({ x with Count := (i64.wrap (x.Count + 1)), Cycles := (i64.wrap (x.Cycles + 1)) } : RSnd), (rsClock_J2 x ((i64.wrap (x.Count + 1)) == 7457)))) with Tones_2 := ({ (rClock ((rsClock_J3 x (({ x with Count := (i64.wrap (x.Count + 1)), Cycles := (i64.wrap (x.Cycles + 1)) } : RSnd), (rsClock_J2 x ((i64.wrap (x.Count + 1)) == 7457)))).Tones_2)) with Reg := (stN 4 (((rsClock_J3 x (({ x with Count := (i64.wrap (x.Count + 1)), Cycles := (i64.wrap (x.Cycles + 1)) } : RSnd), (rsClock_J2 x ((i64.wrap (x.Count + 1)) == 7457)))).Tones_2).Reg) ((rClock ((rsClock_J3 x (({ x with Count := (i64.wrap (x.Count + 1)), Cycles := (i64.wrap (x.Cycles + 1)) } : RSnd), (rsClock_J2 x ((i64.wrap (x.Count + 1)) == 7457)))).Tones_2)).Reg)) } : RTone), Tones_3 := ({ (rClock ((rsClock_J3 x (({ x with Count := (i64.wrap (x.Count + 1)), Cycles := (i64.wrap (x.Cycles + 1)) } : RSnd), (rsClock_J2 x ((i64.wrap (x.Count + 1)) == 7457)))).Tones_3)) with Reg := (stN 4 (((rsClock_J3 x (({ x with Count := (i64.wrap (x.Count + 1)), Cycles := (i64.wrap (x.Cycles + 1)) } : RSnd), (rsClock_J2 x ((i64.wrap (x.Count + 1)) == 7457)))).Tones_3).Reg) ((rClock ((rsClock_J3 x (({ x with Count := (i64.wrap (x.Count + 1)), Cycles := (i64.wrap (x.Cycles + 1)) } : RSnd), (rsClock_J2 x ((i64.wrap (x.Count + 1)) == 7457)))).Tones_3)).Reg)) } : RTone) } : RSnd), (((Int.tmod ((rsClock_J3 x (({ x with Count := (i64.wrap (x.Count + 1)), Cycles := (i64.wrap (x.Cycles + 1)) } : RSnd), (rsClock_J2 x ((i64.wrap (x.Count + 1)) == 7457)))).Cycles) 2) : Int) == 0))).M)).Reg)) } : RSmp) } : RSnd)
theorem rsClock_ok (x : RSnd) (g0 : Good x.Tones_0) (g1 : Good x.Tones_1) (g2 : Good x.Tones_2) (g3 : Good x.Tones_3) (hb : 1 ≤ x.M.Bits ∧ x.M.Bits ≤ 8) (ht : (!x.M.Silent) = true → x.M.told = true) (h0 : 0 ≤ x.M.Reg 0 ∧ x.M.Reg 0 < 256) : FnSpec Tryd.prog 23 1001 [.pointer (some ⟨1000, 0, none⟩)] [(1000, RSnd.blk x)] (.tuple ⟨[]⟩) [(1000, RSnd.blk (rsClock x))] := by
  unfold rsClock
  exact fn_of_x hG hM Tryd.func23 (by kernel_rfl) (by kernel_rfl) 400 [.segk 2 0 [0, 2, 20] [] .normal (rsClock_J1_T1 x (rsClock_J1 x)) (rsClock_J1_H1 x (rsClock_J1 x)) 1001, .segk 2 0 [0, 2, 24, 25] [] .normal (rsClock_J2_T1 x ((i64.wrap (x.Count + 1)) == 7457) (rsClock_J2 x ((i64.wrap (x.Count + 1)) == 7457))) (rsClock_J2_H1 x ((i64.wrap (x.Count + 1)) == 7457) (rsClock_J2 x ((i64.wrap (x.Count + 1)) == 7457))) 1001, .segk 2 0 [0, 2, 24, 25] [1000] .normal (rsClock_J3_T1 x (({ x with Count := (i64.wrap (x.Count + 1)), Cycles := (i64.wrap (x.Cycles + 1)) } : RSnd), (rsClock_J2 x ((i64.wrap (x.Count + 1)) == 7457))) (rsClock_J3 x (({ x with Count := (i64.wrap (x.Count + 1)), Cycles := (i64.wrap (x.Cycles + 1)) } : RSnd), (rsClock_J2 x ((i64.wrap (x.Count + 1)) == 7457))))) (rsClock_J3_H1 x (({ x with Count := (i64.wrap (x.Count + 1)), Cycles := (i64.wrap (x.Cycles + 1)) } : RSnd), (rsClock_J2 x ((i64.wrap (x.Count + 1)) == 7457))) (rsClock_J3 x (({ x with Count := (i64.wrap (x.Count + 1)), Cycles := (i64.wrap (x.Cycles + 1)) } : RSnd), (rsClock_J2 x ((i64.wrap (x.Count + 1)) == 7457))))) 1001, .lit 2, .call [] [] 1000 (RTone.enc (rClock ((rsClock_J3 x (({ x with Count := (i64.wrap (x.Count + 1)), Cycles := (i64.wrap (x.Cycles + 1)) } : RSnd), (rsClock_J2 x ((i64.wrap (x.Count + 1)) == 7457)))).Tones_2))) [], .lit 3, .call [] [] 1000 (RTone.enc (rClock ((rsClock_J3 x (({ x with Count := (i64.wrap (x.Count + 1)), Cycles := (i64.wrap (x.Cycles + 1)) } : RSnd), (rsClock_J2 x ((i64.wrap (x.Count + 1)) == 7457)))).Tones_3))) [], .lit 2, .lit 3, .segk 2 0 [0, 83] [1000] .normal (rsClock_J8_T1 (({ (rsClock_J3 x (({ x with Count := (i64.wrap (x.Count + 1)), Cycles := (i64.wrap (x.Cycles + 1)) } : RSnd), (rsClock_J2 x ((i64.wrap (x.Count + 1)) == 7457)))) with Tones_2 := ({ (rClock ((rsClock_J3 x (({ x with Count := (i64.wrap (x.Count + 1)), Cycles := (i64.wrap (x.Cycles + 1)) } : RSnd), (rsClock_J2 x ((i64.wrap (x.Count + 1)) == 7457)))).Tones_2)) with Reg := (stN 4 (((rsClock_J3 x (({ x with Count := (i64.wrap (x.Count + 1)), Cycles := (i64.wrap (x.Cycles + 1)) } : RSnd), (rsClock_J2 x ((i64.wrap (x.Count + 1)) == 7457)))).Tones_2).Reg) ((rClock ((rsClock_J3 x (({ x with Count := (i64.wrap (x.Count + 1)), Cycles := (i64.wrap (x.Cycles + 1)) } : RSnd), (rsClock_J2 x ((i64.wrap (x.Count + 1)) == 7457)))).Tones_2)).Reg)) } : RTone), Tones_3 := ({ (rClock ((rsClock_J3 x (({ x with Count := (i64.wrap (x.Count + 1)), Cycles := (i64.wrap (x.Cycles + 1)) } : RSnd), (rsClock_J2 x ((i64.wrap (x.Count + 1)) == 7457)))).Tones_3)) with Reg := (stN 4 (((rsClock_J3 x (({ x with Count := (i64.wrap (x.Count + 1)), Cycles := (i64.wrap (x.Cycles + 1)) } : RSnd), (rsClock_J2 x ((i64.wrap (x.Count + 1)) == 7457)))).Tones_3).Reg) ((rClock ((rsClock_J3 x (({ x with Count := (i64.wrap (x.Count + 1)), Cycles := (i64.wrap (x.Cycles + 1)) } : RSnd), (rsClock_J2 x ((i64.wrap (x.Count + 1)) == 7457)))).Tones_3)).Reg)) } : RTone) } : RSnd), (((Int.tmod ((rsClock_J3 x (({ x with Count := (i64.wrap (x.Count + 1)), Cycles := (i64.wrap (x.Cycles + 1)) } : RSnd), (rsClock_J2 x ((i64.wrap (x.Count + 1)) == 7457)))).Cycles) 2) : Int) == 0)) (rsClock_J8 (({ (rsClock_J3 x (({ x with Count := (i64.wrap (x.Count + 1)), Cycles := (i64.wrap (x.Cycles + 1)) } : RSnd), (rsClock_J2 x ((i64.wrap (x.Count + 1)) == 7457)))) with Tones_2 := ({ (rClock ((rsClock_J3 x (({ x with Count := (i64.wrap (x.Count + 1)), Cycles := (i64.wrap (x.Cycles + 1)) } : RSnd), (rsClock_J2 x ((i64.wrap (x.Count + 1)) == 7457)))).Tones_2)) with Reg := (stN 4 (((rsClock_J3 x (({ x with Count := (i64.wrap (x.Count + 1)), Cycles := (i64.wrap (x.Cycles + 1)) } : RSnd), (rsClock_J2 x ((i64.wrap (x.Count + 1)) == 7457)))).Tones_2).Reg) ((rClock ((rsClock_J3 x (({ x with Count := (i64.wrap (x.Count + 1)), Cycles := (i64.wrap (x.Cycles + 1)) } : RSnd), (rsClock_J2 x ((i64.wrap (x.Count + 1)) == 7457)))).Tones_2)).Reg)) } : RTone), Tones_3 := ({ (rClock ((rsClock_J3 x (({ x with Count := (i64.wrap (x.Count + 1)), Cycles := (i64.wrap (x.Cycles + 1)) } : RSnd), (rsClock_J2 x ((i64.wrap (x.Count + 1)) == 7457)))).Tones_3)) with Reg := (stN 4 (((rsClock_J3 x (({ x with Count := (i64.wrap (x.Count + 1)), Cycles := (i64.wrap (x.Cycles + 1)) } : RSnd), (rsClock_J2 x ((i64.wrap (x.Count + 1)) == 7457)))).Tones_3).Reg) ((rClock ((rsClock_J3 x (({ x with Count := (i64.wrap (x.Count + 1)), Cycles := (i64.wrap (x.Cycles + 1)) } : RSnd), (rsClock_J2 x ((i64.wrap (x.Count + 1)) == 7457)))).Tones_3)).Reg)) } : RTone) } : RSnd), (((Int.tmod ((rsClock_J3 x (({ x with Count := (i64.wrap (x.Count + 1)), Cycles := (i64.wrap (x.Cycles + 1)) } : RSnd), (rsClock_J2 x ((i64.wrap (x.Count + 1)) == 7457)))).Cycles) 2) : Int) == 0)))) (rsClock_J8_H1 (({ (rsClock_J3 x (({ x with Count := (i64.wrap (x.Count + 1)), Cycles := (i64.wrap (x.Cycles + 1)) } : RSnd), (rsClock_J2 x ((i64.wrap (x.Count + 1)) == 7457)))) with Tones_2 := ({ (rClock ((rsClock_J3 x (({ x with Count := (i64.wrap (x.Count + 1)), Cycles := (i64.wrap (x.Cycles + 1)) } : RSnd), (rsClock_J2 x ((i64.wrap (x.Count + 1)) == 7457)))).Tones_2)) with Reg := (stN 4 (((rsClock_J3 x (({ x with Count := (i64.wrap (x.Count + 1)), Cycles := (i64.wrap (x.Cycles + 1)) } : RSnd), (rsClock_J2 x ((i64.wrap (x.Count + 1)) == 7457)))).Tones_2).Reg) ((rClock ((rsClock_J3 x (({ x with Count := (i64.wrap (x.Count + 1)), Cycles := (i64.wrap (x.Cycles + 1)) } : RSnd), (rsClock_J2 x ((i64.wrap (x.Count + 1)) == 7457)))).Tones_2)).Reg)) } : RTone), Tones_3 := ({ (rClock ((rsClock_J3 x (({ x with Count := (i64.wrap (x.Count + 1)), Cycles := (i64.wrap (x.Cycles + 1)) } : RSnd), (rsClock_J2 x ((i64.wrap (x.Count + 1)) == 7457)))).Tones_3)) with Reg := (stN 4 (((rsClock_J3 x (({ x with Count := (i64.wrap (x.Count + 1)), Cycles := (i64.wrap (x.Cycles + 1)) } : RSnd), (rsClock_J2 x ((i64.wrap (x.Count + 1)) == 7457)))).Tones_3).Reg) ((rClock ((rsClock_J3 x (({ x with Count := (i64.wrap (x.Count + 1)), Cycles := (i64.wrap (x.Cycles + 1)) } : RSnd), (rsClock_J2 x ((i64.wrap (x.Count + 1)) == 7457)))).Tones_3)).Reg)) } : RTone) } : RSnd), (((Int.tmod ((rsClock_J3 x (({ x with Count := (i64.wrap (x.Count + 1)), Cycles := (i64.wrap (x.Cycles + 1)) } : RSnd), (rsClock_J2 x ((i64.wrap (x.Count + 1)) == 7457)))).Cycles) 2) : Int) == 0)) (rsClock_J8 (({ (rsClock_J3 x (({ x with Count := (i64.wrap (x.Count + 1)), Cycles := (i64.wrap (x.Cycles + 1)) } : RSnd), (rsClock_J2 x ((i64.wrap (x.Count + 1)) == 7457)))) with Tones_2 := ({ (rClock ((rsClock_J3 x (({ x with Count := (i64.wrap (x.Count + 1)), Cycles := (i64.wrap (x.Cycles + 1)) } : RSnd), (rsClock_J2 x ((i64.wrap (x.Count + 1)) == 7457)))).Tones_2)) with Reg := (stN 4 (((rsClock_J3 x (({ x with Count := (i64.wrap (x.Count + 1)), Cycles := (i64.wrap (x.Cycles + 1)) } : RSnd), (rsClock_J2 x ((i64.wrap (x.Count + 1)) == 7457)))).Tones_2).Reg) ((rClock ((rsClock_J3 x (({ x with Count := (i64.wrap (x.Count + 1)), Cycles := (i64.wrap (x.Cycles + 1)) } : RSnd), (rsClock_J2 x ((i64.wrap (x.Count + 1)) == 7457)))).Tones_2)).Reg)) } : RTone), Tones_3 := ({ (rClock ((rsClock_J3 x (({ x with Count := (i64.wrap (x.Count + 1)), Cycles := (i64.wrap (x.Cycles + 1)) } : RSnd), (rsClock_J2 x ((i64.wrap (x.Count + 1)) == 7457)))).Tones_3)) with Reg := (stN 4 (((rsClock_J3 x (({ x with Count := (i64.wrap (x.Count + 1)), Cycles := (i64.wrap (x.Cycles + 1)) } : RSnd), (rsClock_J2 x ((i64.wrap (x.Count + 1)) == 7457)))).Tones_3).Reg) ((rClock ((rsClock_J3 x (({ x with Count := (i64.wrap (x.Count + 1)), Cycles := (i64.wrap (x.Cycles + 1)) } : RSnd), (rsClock_J2 x ((i64.wrap (x.Count + 1)) == 7457)))).Tones_3)).Reg)) } : RTone) } : RSnd), (((Int.tmod ((rsClock_J3 x (({ x with Count := (i64.wrap (x.Count + 1)), Cycles := (i64.wrap (x.Cycles + 1)) } : RSnd), (rsClock_J2 x ((i64.wrap (x.Count + 1)) == 7457)))).Cycles) 2) : Int) == 0)))) 1001, .call [] [] 1000 (RSmp.enc (rSmp ((rsClock_J8 (({ (rsClock_J3 x (({ x with Count := (i64.wrap (x.Count + 1)), Cycles := (i64.wrap (x.Cycles + 1)) } : RSnd), (rsClock_J2 x ((i64.wrap (x.Count + 1)) == 7457)))) with Tones_2 := ({ (rClock ((rsClock_J3 x (({ x with Count := (i64.wrap (x.Count + 1)), Cycles := (i64.wrap (x.Cycles + 1)) } : RSnd), (rsClock_J2 x ((i64.wrap (x.Count + 1)) == 7457)))).Tones_2)) with Reg := (stN 4 (((rsClock_J3 x (({ x with Count := (i64.wrap (x.Count + 1)), Cycles := (i64.wrap (x.Cycles + 1)) } : RSnd), (rsClock_J2 x ((i64.wrap (x.Count + 1)) == 7457)))).Tones_2).Reg) ((rClock ((rsClock_J3 x (({ x with Count := (i64.wrap (x.Count + 1)), Cycles := (i64.wrap (x.Cycles + 1)) } : RSnd), (rsClock_J2 x ((i64.wrap (x.Count + 1)) == 7457)))).Tones_2)).Reg)) } : RTone), Tones_3 := ({ (rClock ((rsClock_J3 x (({ x with Count := (i64.wrap (x.Count + 1)), Cycles := (i64.wrap (x.Cycles + 1)) } : RSnd), (rsClock_J2 x ((i64.wrap (x.Count + 1)) == 7457)))).Tones_3)) with Reg := (stN 4 (((rsClock_J3 x (({ x with Count := (i64.wrap (x.Count + 1)), Cycles := (i64.wrap (x.Cycles + 1)) } : RSnd), (rsClock_J2 x ((i64.wrap (x.Count + 1)) == 7457)))).Tones_3).Reg) ((rClock ((rsClock_J3 x (({ x with Count := (i64.wrap (x.Count + 1)), Cycles := (i64.wrap (x.Cycles + 1)) } : RSnd), (rsClock_J2 x ((i64.wrap (x.Count + 1)) == 7457)))).Tones_3)).Reg)) } : RTone) } : RSnd), (((Int.tmod ((rsClock_J3 x (({ x with Count := (i64.wrap (x.Count + 1)), Cycles := (i64.wrap (x.Cycles + 1)) } : RSnd), (rsClock_J2 x ((i64.wrap (x.Count + 1)) == 7457)))).Cycles) 2) : Int) == 0))).M))) []] (J (rsClock_J1_runs x) (J (rsClock_J2_runs x ((i64.wrap (x.Count + 1)) == 7457)) (J (rsClock_J3_runs x (({ x with Count := (i64.wrap (x.Count + 1)), Cycles := (i64.wrap (x.Cycles + 1)) } : RSnd), (rsClock_J2 x ((i64.wrap (x.Count + 1)) == 7457))) g0 g1 g2 g3) (J (Eq.refl (2 : Int)) (J (by decide : 2 < 4) (J (rClock_ok ((rsClock_J3 x (({ x with Count := (i64.wrap (x.Count + 1)), Cycles := (i64.wrap (x.Cycles + 1)) } : RSnd), (rsClock_J2 x ((i64.wrap (x.Count + 1)) == 7457)))).Tones_2)) (J (Eq.refl (3 : Int)) (J (by decide : 3 < 4) (J (rClock_ok ((rsClock_J3 x (({ x with Count := (i64.wrap (x.Count + 1)), Cycles := (i64.wrap (x.Cycles + 1)) } : RSnd), (rsClock_J2 x ((i64.wrap (x.Count + 1)) == 7457)))).Tones_3)) (J (Eq.refl (2 : Int)) (J (by decide : 2 < 4) (J (Eq.refl (3 : Int)) (J (by decide : 3 < 4) (J (by decide : ((2 : Int) ≠ 0)) (J (rsClock_J8_runs (({ (rsClock_J3 x (({ x with Count := (i64.wrap (x.Count + 1)), Cycles := (i64.wrap (x.Cycles + 1)) } : RSnd), (rsClock_J2 x ((i64.wrap (x.Count + 1)) == 7457)))) with Tones_2 := ({ (rClock ((rsClock_J3 x (({ x with Count := (i64.wrap (x.Count + 1)), Cycles := (i64.wrap (x.Cycles + 1)) } : RSnd), (rsClock_J2 x ((i64.wrap (x.Count + 1)) == 7457)))).Tones_2)) with Reg := (stN 4 (((rsClock_J3 x (({ x with Count := (i64.wrap (x.Count + 1)), Cycles := (i64.wrap (x.Cycles + 1)) } : RSnd), (rsClock_J2 x ((i64.wrap (x.Count + 1)) == 7457)))).Tones_2).Reg) ((rClock ((rsClock_J3 x (({ x with Count := (i64.wrap (x.Count + 1)), Cycles := (i64.wrap (x.Cycles + 1)) } : RSnd), (rsClock_J2 x ((i64.wrap (x.Count + 1)) == 7457)))).Tones_2)).Reg)) } : RTone), Tones_3 := ({ (rClock ((rsClock_J3 x (({ x with Count := (i64.wrap (x.Count + 1)), Cycles := (i64.wrap (x.Cycles + 1)) } : RSnd), (rsClock_J2 x ((i64.wrap (x.Count + 1)) == 7457)))).Tones_3)) with Reg := (stN 4 (((rsClock_J3 x (({ x with Count := (i64.wrap (x.Count + 1)), Cycles := (i64.wrap (x.Cycles + 1)) } : RSnd), (rsClock_J2 x ((i64.wrap (x.Count + 1)) == 7457)))).Tones_3).Reg) ((rClock ((rsClock_J3 x (({ x with Count := (i64.wrap (x.Count + 1)), Cycles := (i64.wrap (x.Cycles + 1)) } : RSnd), (rsClock_J2 x ((i64.wrap (x.Count + 1)) == 7457)))).Tones_3)).Reg)) } : RTone) } : RSnd), (((Int.tmod ((rsClock_J3 x (({ x with Count := (i64.wrap (x.Count + 1)), Cycles := (i64.wrap (x.Cycles + 1)) } : RSnd), (rsClock_J2 x ((i64.wrap (x.Count + 1)) == 7457)))).Cycles) 2) : Int) == 0))) (J (rSmp_ok ((rsClock_J8 (({ (rsClock_J3 x (({ x with Count := (i64.wrap (x.Count + 1)), Cycles := (i64.wrap (x.Cycles + 1)) } : RSnd), (rsClock_J2 x ((i64.wrap (x.Count + 1)) == 7457)))) with Tones_2 := ({ (rClock ((rsClock_J3 x (({ x with Count := (i64.wrap (x.Count + 1)), Cycles := (i64.wrap (x.Cycles + 1)) } : RSnd), (rsClock_J2 x ((i64.wrap (x.Count + 1)) == 7457)))).Tones_2)) with Reg := (stN 4 (((rsClock_J3 x (({ x with Count := (i64.wrap (x.Count + 1)), Cycles := (i64.wrap (x.Cycles + 1)) } : RSnd), (rsClock_J2 x ((i64.wrap (x.Count + 1)) == 7457)))).Tones_2).Reg) ((rClock ((rsClock_J3 x (({ x with Count := (i64.wrap (x.Count + 1)), Cycles := (i64.wrap (x.Cycles + 1)) } : RSnd), (rsClock_J2 x ((i64.wrap (x.Count + 1)) == 7457)))).Tones_2)).Reg)) } : RTone), Tones_3 := ({ (rClock ((rsClock_J3 x (({ x with Count := (i64.wrap (x.Count + 1)), Cycles := (i64.wrap (x.Cycles + 1)) } : RSnd), (rsClock_J2 x ((i64.wrap (x.Count + 1)) == 7457)))).Tones_3)) with Reg := (stN 4 (((rsClock_J3 x (({ x with Count := (i64.wrap (x.Count + 1)), Cycles := (i64.wrap (x.Cycles + 1)) } : RSnd), (rsClock_J2 x ((i64.wrap (x.Count + 1)) == 7457)))).Tones_3).Reg) ((rClock ((rsClock_J3 x (({ x with Count := (i64.wrap (x.Count + 1)), Cycles := (i64.wrap (x.Cycles + 1)) } : RSnd), (rsClock_J2 x ((i64.wrap (x.Count + 1)) == 7457)))).Tones_3)).Reg)) } : RTone) } : RSnd), (((Int.tmod ((rsClock_J3 x (({ x with Count := (i64.wrap (x.Count + 1)), Cycles := (i64.wrap (x.Cycles + 1)) } : RSnd), (rsClock_J2 x ((i64.wrap (x.Count + 1)) == 7457)))).Cycles) 2) : Int) == 0))).M) (by simp only [rsClock_J2, rsClock_J1, rsClock_J3, rsClock_J4n, rsClock_J5n, rsClock_J6nn, rsClock_J7ny, rsClock_J6ny, rsClock_J8]; (repeat' split) <;> exact hb) (by simp only [rsClock_J2, rsClock_J1, rsClock_J3, rsClock_J4n, rsClock_J5n, rsClock_J6nn, rsClock_J7ny, rsClock_J6ny, rsClock_J8]; (repeat' split) <;> exact ht) (by simp only [rsClock_J2, rsClock_J1, rsClock_J3, rsClock_J4n, rsClock_J5n, rsClock_J6nn, rsClock_J7ny, rsClock_J6ny, rsClock_J8]; (repeat' split) <;> exact h0)) trivial)))))))))))))))) (by kernel_rfl)
end Go.Proofs.YtgpcfjokmonlgaaDoor
namespace Go.Proofs.YtgpcfjokmonlgaaDoor
open Go VX
open Go.IntKind (i64 u8 u16)
set_option linter.unusedVariables false
set_option linter.unusedSimpArgs false
set_option maxRecDepth 100000
def rsOut (x : RSnd) : Int :=
  (i64.wrap ((i64.wrap ((i64.wrap ((i64.wrap (752 * (i64.wrap ((rOut x.Tones_0) + (rOut x.Tones_1))))) + (i64.wrap (851 * (rOut x.Tones_2))))) + (i64.wrap (494 * (rOut x.Tones_3))))) + (i64.wrap (335 * x.M.Level))))
theorem rsOut_ok (x : RSnd) (g0 : Good x.Tones_0) (g1 : Good x.Tones_1) (g2 : Good x.Tones_2) (g3 : Good x.Tones_3) : FnSpec Tryd.prog 24 1001 [.pointer (some ⟨1000, 0, none⟩)] [(1000, (RSnd.blk x).lend)] (.int .i64 (rsOut x)) [] := by
  unfold rsOut
  exact fn_of_x hG hM Tryd.func24 (by kernel_rfl) (by kernel_rfl) 400 [.lit 0, .call [] [] 1000 (.int .i64 (rOut x.Tones_0)) [], .lit 1, .call [] [] 1000 (.int .i64 (rOut x.Tones_1)) [], .lit 2, .call [] [] 1000 (.int .i64 (rOut x.Tones_2)) [], .lit 3, .call [] [] 1000 (.int .i64 (rOut x.Tones_3)) []] (J (Eq.refl (0 : Int)) (J (by decide : 0 < 4) (J (rOut_ok x.Tones_0 g0) (J (Eq.refl (1 : Int)) (J (by decide : 1 < 4) (J (rOut_ok x.Tones_1 g1) (J (Eq.refl (2 : Int)) (J (by decide : 2 < 4) (J (rOut_ok x.Tones_2 g2) (J (Eq.refl (3 : Int)) (J (by decide : 3 < 4) (J (rOut_ok x.Tones_3 g3) trivial)))))))))))) (by kernel_rfl)
def rsGet_J1 (x : RSnd) : Int :=
  if (decide (x.Tones_0.Length > 0)) = true then
    1
  else
    0
def rsGet_J1_T (x : RSnd) : Tm := [(0, .pointer (some ⟨1000, 0, none⟩)), (2, .int .i64 0), (3, .int .i64 0), (4, .int .i64 0), (5, .int .i64 1), (6, .slice (some ⟨1001, 0, none⟩) 4 1), (7, .int .i64 4), (8, .int .i64 0), (9, .bool true), (10, .int .i64 0), (11, .pointer (some ⟨1001, 0, none⟩)), (12, .int .i64 1), (13, .pointer (some ⟨1000, 0, none⟩)), (14, .int .i64 0), (15, .pointer (some ⟨1000, 0, none⟩)), (16, .pointer (some ⟨1000, 0, none⟩)), (17, .pointer (some ⟨1000, 0, none⟩)), (18, .pointer (some ⟨1000, 6, none⟩)), (19, .int .i64 x.Tones_0.Length), (20, .bool (decide (x.Tones_0.Length > 0)))]
def rsGet_J1_H (x : RSnd) : Heap := []
def rsGet_J1_T1 (x : RSnd) (r_ : Int) : Tm := [(0, .pointer (some ⟨1000, 0, none⟩)), (2, .int .i64 0), (3, .int .i64 r_), (4, .int .i64 0), (5, .int .i64 1), (6, .slice (some ⟨1001, 0, none⟩) 4 1), (7, .int .i64 4), (8, .int .i64 0), (9, .bool true), (10, .int .i64 0), (11, .pointer (some ⟨1001, 0, none⟩)), (12, .int .i64 1), (13, .pointer (some ⟨1000, 0, none⟩)), (14, .int .i64 0), (15, .pointer (some ⟨1000, 0, none⟩)), (16, .pointer (some ⟨1000, 0, none⟩)), (17, .pointer (some ⟨1000, 0, none⟩)), (18, .pointer (some ⟨1000, 6, none⟩)), (19, .int .i64 x.Tones_0.Length), (20, .bool (decide (x.Tones_0.Length > 0)))]
def rsGet_J1_H1 (x : RSnd) (r_ : Int) : Heap := []
theorem rsGet_J1_p1 (x : RSnd) (d1 : (decide (x.Tones_0.Length > 0)) = true) : Runs Tryd.prog 50 (bodyOf Tryd.f25 [1, 1, 0, 1, 0, 0, 1, 1, 0, 0, 1, 1]) (rsGet_J1_T x) (rsGet_J1_H x) 1002 .normal (rsGet_J1_T1 x 1) (rsGet_J1_H1 x 1) 1002 := by
  exact runs_of_x hG hM 400 [.yes] (J d1 trivial) (by kernel_rfl)
theorem rsGet_J1_p2 (x : RSnd) (d1 : (decide (x.Tones_0.Length > 0)) = false) : Runs Tryd.prog 50 (bodyOf Tryd.f25 [1, 1, 0, 1, 0, 0, 1, 1, 0, 0, 1, 1]) (rsGet_J1_T x) (rsGet_J1_H x) 1002 .normal (rsGet_J1_T1 x 0) (rsGet_J1_H1 x 0) 1002 := by
  exact runs_of_x hG hM 400 [.no] (J d1 trivial) (by kernel_rfl)
theorem rsGet_J1_runs (x : RSnd) : Runs Tryd.prog 50 (bodyOf Tryd.f25 [1, 1, 0, 1, 0, 0, 1, 1, 0, 0, 1, 1]) (rsGet_J1_T x) (rsGet_J1_H x) 1002 .normal (rsGet_J1_T1 x (rsGet_J1 x)) (rsGet_J1_H1 x (rsGet_J1 x)) 1002 := by
  rcases bt (decide (x.Tones_0.Length > 0)) with d1 | d1
  ·
    rw [show rsGet_J1 x = 1 from by unfold rsGet_J1; rw [if_pos d1]]
    exact rsGet_J1_p1 x d1
  ·
    rw [show rsGet_J1 x = 0 from by unfold rsGet_J1; rw [if_neg (nt d1)]]
    exact rsGet_J1_p2 x d1
def rsGet_J2 (x : RSnd) : Int :=
  if (decide (x.Tones_1.Length > 0)) = true then
    (i64.wrap ((rsGet_J1 x) + 2))
  else
    (rsGet_J1 x)
def rsGet_J2_T (x : RSnd) : Tm := [(0, .pointer (some ⟨1000, 0, none⟩)), (2, .int .i64 0), (3, .int .i64 (rsGet_J1 x)), (4, .int .i64 1), (5, .int .i64 2), (6, .slice (some ⟨1001, 0, none⟩) 4 1), (7, .int .i64 4), (8, .int .i64 1), (9, .bool true), (10, .int .i64 1), (11, .pointer (some ⟨1001, 1, none⟩)), (12, .int .i64 2), (13, .pointer (some ⟨1000, 0, none⟩)), (14, .int .i64 1), (15, .pointer (some ⟨1000, 0, none⟩)), (16, .pointer (some ⟨1000, 0, none⟩)), (17, .pointer (some ⟨1000, 17, none⟩)), (18, .pointer (some ⟨1000, 23, none⟩)), (19, .int .i64 x.Tones_1.Length), (20, .bool (decide (x.Tones_1.Length > 0))), (24, .int .i64 1)]
def rsGet_J2_H (x : RSnd) : Heap := []
def rsGet_J2_T1 (x : RSnd) (r_ : Int) : Tm := [(0, .pointer (some ⟨1000, 0, none⟩)), (2, .int .i64 0), (3, .int .i64 r_), (4, .int .i64 1), (5, .int .i64 2), (6, .slice (some ⟨1001, 0, none⟩) 4 1), (7, .int .i64 4), (8, .int .i64 1), (9, .bool true), (10, .int .i64 1), (11, .pointer (some ⟨1001, 1, none⟩)), (12, .int .i64 2), (13, .pointer (some ⟨1000, 0, none⟩)), (14, .int .i64 1), (15, .pointer (some ⟨1000, 0, none⟩)), (16, .pointer (some ⟨1000, 0, none⟩)), (17, .pointer (some ⟨1000, 17, none⟩)), (18, .pointer (some ⟨1000, 23, none⟩)), (19, .int .i64 x.Tones_1.Length), (20, .bool (decide (x.Tones_1.Length > 0))), (24, .int .i64 1)]
def rsGet_J2_H1 (x : RSnd) (r_ : Int) : Heap := []
theorem rsGet_J2_p1 (x : RSnd) (d1 : (decide (x.Tones_1.Length > 0)) = true) : Runs Tryd.prog 50 (bodyOf Tryd.f25 [1, 1, 0, 1, 0, 0, 1, 1, 0, 0, 1, 1]) (rsGet_J2_T x) (rsGet_J2_H x) 1002 .normal (rsGet_J2_T1 x (i64.wrap ((rsGet_J1 x) + 2))) (rsGet_J2_H1 x (i64.wrap ((rsGet_J1 x) + 2))) 1002 := by
  exact runs_of_x hG hM 400 [.yes] (J d1 trivial) (by kernel_rfl)
theorem rsGet_J2_p2 (x : RSnd) (d1 : (decide (x.Tones_1.Length > 0)) = false) : Runs Tryd.prog 50 (bodyOf Tryd.f25 [1, 1, 0, 1, 0, 0, 1, 1, 0, 0, 1, 1]) (rsGet_J2_T x) (rsGet_J2_H x) 1002 .normal (rsGet_J2_T1 x (rsGet_J1 x)) (rsGet_J2_H1 x (rsGet_J1 x)) 1002 := by
  exact runs_of_x hG hM 400 [.no] (J d1 trivial) (by kernel_rfl)
theorem rsGet_J2_runs (x : RSnd) : Runs Tryd.prog 50 (bodyOf Tryd.f25 [1, 1, 0, 1, 0, 0, 1, 1, 0, 0, 1, 1]) (rsGet_J2_T x) (rsGet_J2_H x) 1002 .normal (rsGet_J2_T1 x (rsGet_J2 x)) (rsGet_J2_H1 x (rsGet_J2 x)) 1002 := by
  rcases bt (decide (x.Tones_1.Length > 0)) with d1 | d1
  ·
    rw [show rsGet_J2 x = (i64.wrap ((rsGet_J1 x) + 2)) from by unfold rsGet_J2; rw [if_pos d1]]
    exact rsGet_J2_p1 x d1
  ·
    rw [show rsGet_J2 x = (rsGet_J1 x) from by unfold rsGet_J2; rw [if_neg (nt d1)]]
    exact rsGet_J2_p2 x d1
def rsGet_J3 (x : RSnd) : Int :=
  if (decide (x.Tones_2.Length > 0)) = true then
    (i64.wrap ((rsGet_J2 x) + 4))
  else
    (rsGet_J2 x)
def rsGet_J3_T (x : RSnd) : Tm := [(0, .pointer (some ⟨1000, 0, none⟩)), (2, .int .i64 0), (3, .int .i64 (rsGet_J2 x)), (4, .int .i64 2), (5, .int .i64 4), (6, .slice (some ⟨1001, 0, none⟩) 4 1), (7, .int .i64 4), (8, .int .i64 2), (9, .bool true), (10, .int .i64 2), (11, .pointer (some ⟨1001, 2, none⟩)), (12, .int .i64 4), (13, .pointer (some ⟨1000, 0, none⟩)), (14, .int .i64 2), (15, .pointer (some ⟨1000, 0, none⟩)), (16, .pointer (some ⟨1000, 0, none⟩)), (17, .pointer (some ⟨1000, 34, none⟩)), (18, .pointer (some ⟨1000, 40, none⟩)), (19, .int .i64 x.Tones_2.Length), (20, .bool (decide (x.Tones_2.Length > 0))), (24, .int .i64 2)]
def rsGet_J3_H (x : RSnd) : Heap := []
def rsGet_J3_T1 (x : RSnd) (r_ : Int) : Tm := [(0, .pointer (some ⟨1000, 0, none⟩)), (2, .int .i64 0), (3, .int .i64 r_), (4, .int .i64 2), (5, .int .i64 4), (6, .slice (some ⟨1001, 0, none⟩) 4 1), (7, .int .i64 4), (8, .int .i64 2), (9, .bool true), (10, .int .i64 2), (11, .pointer (some ⟨1001, 2, none⟩)), (12, .int .i64 4), (13, .pointer (some ⟨1000, 0, none⟩)), (14, .int .i64 2), (15, .pointer (some ⟨1000, 0, none⟩)), (16, .pointer (some ⟨1000, 0, none⟩)), (17, .pointer (some ⟨1000, 34, none⟩)), (18, .pointer (some ⟨1000, 40, none⟩)), (19, .int .i64 x.Tones_2.Length), (20, .bool (decide (x.Tones_2.Length > 0))), (24, .int .i64 2)]
def rsGet_J3_H1 (x : RSnd) (r_ : Int) : Heap := []
theorem rsGet_J3_p1 (x : RSnd) (d1 : (decide (x.Tones_2.Length > 0)) = true) : Runs Tryd.prog 50 (bodyOf Tryd.f25 [1, 1, 0, 1, 0, 0, 1, 1, 0, 0, 1, 1]) (rsGet_J3_T x) (rsGet_J3_H x) 1002 .normal (rsGet_J3_T1 x (i64.wrap ((rsGet_J2 x) + 4))) (rsGet_J3_H1 x (i64.wrap ((rsGet_J2 x) + 4))) 1002 := by
  exact runs_of_x hG hM 400 [.yes] (J d1 trivial) (by kernel_rfl)
theorem rsGet_J3_p2 (x : RSnd) (d1 : (decide (x.Tones_2.Length > 0)) = false) : Runs Tryd.prog 50 (bodyOf Tryd.f25 [1, 1, 0, 1, 0, 0, 1, 1, 0, 0, 1, 1]) (rsGet_J3_T x) (rsGet_J3_H x) 1002 .normal (rsGet_J3_T1 x (rsGet_J2 x)) (rsGet_J3_H1 x (rsGet_J2 x)) 1002 := by
  exact runs_of_x hG hM 400 [.no] (J d1 trivial) (by kernel_rfl)
theorem rsGet_J3_runs (x : RSnd) : Runs Tryd.prog 50 (bodyOf Tryd.f25 [1, 1, 0, 1, 0, 0, 1, 1, 0, 0, 1, 1]) (rsGet_J3_T x) (rsGet_J3_H x) 1002 .normal (rsGet_J3_T1 x (rsGet_J3 x)) (rsGet_J3_H1 x (rsGet_J3 x)) 1002 := by
  rcases bt (decide (x.Tones_2.Length > 0)) with d1 | d1
  ·
    rw [show rsGet_J3 x = (i64.wrap ((rsGet_J2 x) + 4)) from by unfold rsGet_J3; rw [if_pos d1]]
    exact rsGet_J3_p1 x d1
  ·
    rw [show rsGet_J3 x = (rsGet_J2 x) from by unfold rsGet_J3; rw [if_neg (nt d1)]]
    exact rsGet_J3_p2 x d1
def rsGet_J4 (x : RSnd) : Int :=
  if (decide (x.Tones_3.Length > 0)) = true then
    (i64.wrap ((rsGet_J3 x) + 8))
  else
    (rsGet_J3 x)
def rsGet_J4_T (x : RSnd) : Tm := [(0, .pointer (some ⟨1000, 0, none⟩)), (2, .int .i64 0), (3, .int .i64 (rsGet_J3 x)), (4, .int .i64 3), (5, .int .i64 8), (6, .slice (some ⟨1001, 0, none⟩) 4 1), (7, .int .i64 4), (8, .int .i64 3), (9, .bool true), (10, .int .i64 3), (11, .pointer (some ⟨1001, 3, none⟩)), (12, .int .i64 8), (13, .pointer (some ⟨1000, 0, none⟩)), (14, .int .i64 3), (15, .pointer (some ⟨1000, 0, none⟩)), (16, .pointer (some ⟨1000, 0, none⟩)), (17, .pointer (some ⟨1000, 51, none⟩)), (18, .pointer (some ⟨1000, 57, none⟩)), (19, .int .i64 x.Tones_3.Length), (20, .bool (decide (x.Tones_3.Length > 0))), (24, .int .i64 3)]
def rsGet_J4_H (x : RSnd) : Heap := []
def rsGet_J4_T1 (x : RSnd) (r_ : Int) : Tm := [(0, .pointer (some ⟨1000, 0, none⟩)), (2, .int .i64 0), (3, .int .i64 r_), (4, .int .i64 3), (5, .int .i64 8), (6, .slice (some ⟨1001, 0, none⟩) 4 1), (7, .int .i64 4), (8, .int .i64 3), (9, .bool true), (10, .int .i64 3), (11, .pointer (some ⟨1001, 3, none⟩)), (12, .int .i64 8), (13, .pointer (some ⟨1000, 0, none⟩)), (14, .int .i64 3), (15, .pointer (some ⟨1000, 0, none⟩)), (16, .pointer (some ⟨1000, 0, none⟩)), (17, .pointer (some ⟨1000, 51, none⟩)), (18, .pointer (some ⟨1000, 57, none⟩)), (19, .int .i64 x.Tones_3.Length), (20, .bool (decide (x.Tones_3.Length > 0))), (24, .int .i64 3)]
def rsGet_J4_H1 (x : RSnd) (r_ : Int) : Heap := []
theorem rsGet_J4_p1 (x : RSnd) (d1 : (decide (x.Tones_3.Length > 0)) = true) : Runs Tryd.prog 50 (bodyOf Tryd.f25 [1, 1, 0, 1, 0, 0, 1, 1, 0, 0, 1, 1]) (rsGet_J4_T x) (rsGet_J4_H x) 1002 .normal (rsGet_J4_T1 x (i64.wrap ((rsGet_J3 x) + 8))) (rsGet_J4_H1 x (i64.wrap ((rsGet_J3 x) + 8))) 1002 := by
  exact runs_of_x hG hM 400 [.yes] (J d1 trivial) (by kernel_rfl)
theorem rsGet_J4_p2 (x : RSnd) (d1 : (decide (x.Tones_3.Length > 0)) = false) : Runs Tryd.prog 50 (bodyOf Tryd.f25 [1, 1, 0, 1, 0, 0, 1, 1, 0, 0, 1, 1]) (rsGet_J4_T x) (rsGet_J4_H x) 1002 .normal (rsGet_J4_T1 x (rsGet_J3 x)) (rsGet_J4_H1 x (rsGet_J3 x)) 1002 := by
  exact runs_of_x hG hM 400 [.no] (J d1 trivial) (by kernel_rfl)
theorem rsGet_J4_runs (x : RSnd) : Runs Tryd.prog 50 (bodyOf Tryd.f25 [1, 1, 0, 1, 0, 0, 1, 1, 0, 0, 1, 1]) (rsGet_J4_T x) (rsGet_J4_H x) 1002 .normal (rsGet_J4_T1 x (rsGet_J4 x)) (rsGet_J4_H1 x (rsGet_J4 x)) 1002 := by
  rcases bt (decide (x.Tones_3.Length > 0)) with d1 | d1
  ·
    rw [show rsGet_J4 x = (i64.wrap ((rsGet_J3 x) + 8)) from by unfold rsGet_J4; rw [if_pos d1]]
    exact rsGet_J4_p1 x d1
  ·
    rw [show rsGet_J4 x = (rsGet_J3 x) from by unfold rsGet_J4; rw [if_neg (nt d1)]]
    exact rsGet_J4_p2 x d1
def rsGet_J5 (x : RSnd) : Int :=
  if (decide (x.M.Left > 0)) = true then
    (i64.wrap ((rsGet_J4 x) + 16))
  else
    (rsGet_J4 x)
def rsGet_J5_T (x : RSnd) : Tm := [(0, .pointer (some ⟨1000, 0, none⟩)), (2, .int .i64 0), (3, .int .i64 (rsGet_J4 x)), (30, .bool (decide (x.M.Left > 0)))]
def rsGet_J5_H (x : RSnd) : Heap := []
def rsGet_J5_T1 (x : RSnd) (r_ : Int) : Tm := [(0, .pointer (some ⟨1000, 0, none⟩)), (2, .int .i64 0), (3, .int .i64 r_)]
def rsGet_J5_H1 (x : RSnd) (r_ : Int) : Heap := []
theorem rsGet_J5_p1 (x : RSnd) (d1 : (decide (x.M.Left > 0)) = true) : Runs Tryd.prog 50 (bodyOf Tryd.f25 [1, 1, 1, 0, 1]) (rsGet_J5_T x) (rsGet_J5_H x) 1002 .normal (rsGet_J5_T1 x (i64.wrap ((rsGet_J4 x) + 16))) (rsGet_J5_H1 x (i64.wrap ((rsGet_J4 x) + 16))) 1002 := by
  exact runs_of_x hG hM 400 [.yes] (J d1 trivial) (by kernel_rfl)
theorem rsGet_J5_p2 (x : RSnd) (d1 : (decide (x.M.Left > 0)) = false) : Runs Tryd.prog 50 (bodyOf Tryd.f25 [1, 1, 1, 0, 1]) (rsGet_J5_T x) (rsGet_J5_H x) 1002 .normal (rsGet_J5_T1 x (rsGet_J4 x)) (rsGet_J5_H1 x (rsGet_J4 x)) 1002 := by
  exact runs_of_x hG hM 400 [.no] (J d1 trivial) (by kernel_rfl)
theorem rsGet_J5_runs (x : RSnd) : Runs Tryd.prog 50 (bodyOf Tryd.f25 [1, 1, 1, 0, 1]) (rsGet_J5_T x) (rsGet_J5_H x) 1002 .normal (rsGet_J5_T1 x (rsGet_J5 x)) (rsGet_J5_H1 x (rsGet_J5 x)) 1002 := by
  rcases bt (decide (x.M.Left > 0)) with d1 | d1
  ·
    rw [show rsGet_J5 x = (i64.wrap ((rsGet_J4 x) + 16)) from by unfold rsGet_J5; rw [if_pos d1]]
    exact rsGet_J5_p1 x d1
  ·
    rw [show rsGet_J5 x = (rsGet_J4 x) from by unfold rsGet_J5; rw [if_neg (nt d1)]]
    exact rsGet_J5_p2 x d1
def rsGet_J6 (x : RSnd) : Int :=
  if x.IRQ = true then
    (i64.wrap ((rsGet_J5 x) + 64))
  else
    (rsGet_J5 x)
def rsGet_J6_T (x : RSnd) : Tm := [(0, .pointer (some ⟨1000, 0, none⟩)), (2, .int .i64 0), (3, .int .i64 (rsGet_J5 x)), (36, .bool x.IRQ)]
def rsGet_J6_H (x : RSnd) : Heap := []
def rsGet_J6_T1 (x : RSnd) (r_ : Int) : Tm := [(0, .pointer (some ⟨1000, 0, none⟩)), (2, .int .i64 0), (3, .int .i64 r_)]
def rsGet_J6_H1 (x : RSnd) (r_ : Int) : Heap := []
theorem rsGet_J6_p1 (x : RSnd) (d1 : x.IRQ = true) : Runs Tryd.prog 50 (bodyOf Tryd.f25 [1, 1, 1, 1, 0, 1]) (rsGet_J6_T x) (rsGet_J6_H x) 1002 .normal (rsGet_J6_T1 x (i64.wrap ((rsGet_J5 x) + 64))) (rsGet_J6_H1 x (i64.wrap ((rsGet_J5 x) + 64))) 1002 := by
  exact runs_of_x hG hM 400 [.yes] (J d1 trivial) (by kernel_rfl)
theorem rsGet_J6_p2 (x : RSnd) (d1 : x.IRQ = false) : Runs Tryd.prog 50 (bodyOf Tryd.f25 [1, 1, 1, 1, 0, 1]) (rsGet_J6_T x) (rsGet_J6_H x) 1002 .normal (rsGet_J6_T1 x (rsGet_J5 x)) (rsGet_J6_H1 x (rsGet_J5 x)) 1002 := by
  exact runs_of_x hG hM 400 [.no] (J d1 trivial) (by kernel_rfl)
theorem rsGet_J6_runs (x : RSnd) : Runs Tryd.prog 50 (bodyOf Tryd.f25 [1, 1, 1, 1, 0, 1]) (rsGet_J6_T x) (rsGet_J6_H x) 1002 .normal (rsGet_J6_T1 x (rsGet_J6 x)) (rsGet_J6_H1 x (rsGet_J6 x)) 1002 := by
  rcases bt x.IRQ with d1 | d1
  ·
    rw [show rsGet_J6 x = (i64.wrap ((rsGet_J5 x) + 64)) from by unfold rsGet_J6; rw [if_pos d1]]
    exact rsGet_J6_p1 x d1
  ·
    rw [show rsGet_J6 x = (rsGet_J5 x) from by unfold rsGet_J6; rw [if_neg (nt d1)]]
    exact rsGet_J6_p2 x d1
def rsGet_J7 (x : RSnd) : Int :=
  if x.M.IRQ = true then
    (i64.wrap ((rsGet_J6 x) + 128))
  else
    (rsGet_J6 x)
def rsGet_J7_T (x : RSnd) : Tm := [(0, .pointer (some ⟨1000, 0, none⟩)), (2, .int .i64 0), (3, .int .i64 (rsGet_J6 x)), (43, .bool x.M.IRQ)]
def rsGet_J7_H (x : RSnd) : Heap := []
def rsGet_J7_T1 (x : RSnd) (r_ : Int) : Tm := [(0, .pointer (some ⟨1000, 0, none⟩)), (2, .int .i64 0), (3, .int .i64 r_)]
def rsGet_J7_H1 (x : RSnd) (r_ : Int) : Heap := []
theorem rsGet_J7_p1 (x : RSnd) (d1 : x.M.IRQ = true) : Runs Tryd.prog 50 (bodyOf Tryd.f25 [1, 1, 1, 1, 1, 0, 1]) (rsGet_J7_T x) (rsGet_J7_H x) 1002 .normal (rsGet_J7_T1 x (i64.wrap ((rsGet_J6 x) + 128))) (rsGet_J7_H1 x (i64.wrap ((rsGet_J6 x) + 128))) 1002 := by
  exact runs_of_x hG hM 400 [.yes] (J d1 trivial) (by kernel_rfl)
theorem rsGet_J7_p2 (x : RSnd) (d1 : x.M.IRQ = false) : Runs Tryd.prog 50 (bodyOf Tryd.f25 [1, 1, 1, 1, 1, 0, 1]) (rsGet_J7_T x) (rsGet_J7_H x) 1002 .normal (rsGet_J7_T1 x (rsGet_J6 x)) (rsGet_J7_H1 x (rsGet_J6 x)) 1002 := by
  exact runs_of_x hG hM 400 [.no] (J d1 trivial) (by kernel_rfl)
theorem rsGet_J7_runs (x : RSnd) : Runs Tryd.prog 50 (bodyOf Tryd.f25 [1, 1, 1, 1, 1, 0, 1]) (rsGet_J7_T x) (rsGet_J7_H x) 1002 .normal (rsGet_J7_T1 x (rsGet_J7 x)) (rsGet_J7_H1 x (rsGet_J7 x)) 1002 := by
  rcases bt x.M.IRQ with d1 | d1
  ·
    rw [show rsGet_J7 x = (i64.wrap ((rsGet_J6 x) + 128)) from by unfold rsGet_J7; rw [if_pos d1]]
    exact rsGet_J7_p1 x d1
  ·
    rw [show rsGet_J7 x = (rsGet_J6 x) from by unfold rsGet_J7; rw [if_neg (nt d1)]]
    exact rsGet_J7_p2 x d1
def rsGet (x : RSnd) : RSnd × Int :=
  (({ x with IRQ := false } : RSnd), (rsGet_J7 x))
theorem rsGet_ok (x : RSnd) : FnSpec Tryd.prog 25 1001 [.pointer (some ⟨1000, 0, none⟩)] [(1000, RSnd.blk x)] (.int .i64 ((rsGet x).2)) [(1000, RSnd.blk ((rsGet x).1))] := by
  unfold rsGet
  exact fn_of_x hG hM Tryd.func25 (by kernel_rfl) (by kernel_rfl) 400 [.unroll, .yes, .lit 0, .lit 0, .segk 2 0 [0, 2, 3, 4, 5, 6, 7, 8, 9, 10, 11, 12, 13, 14, 15, 16, 17, 18, 19, 20] [] .normal (rsGet_J1_T1 x (rsGet_J1 x)) (rsGet_J1_H1 x (rsGet_J1 x)) 1002, .unroll, .yes, .lit 1, .lit 1, .segk 2 0 [0, 2, 3, 4, 5, 6, 7, 8, 9, 10, 11, 12, 13, 14, 15, 16, 17, 18, 19, 20, 24] [] .normal (rsGet_J2_T1 x (rsGet_J2 x)) (rsGet_J2_H1 x (rsGet_J2 x)) 1002, .unroll, .yes, .lit 2, .lit 2, .segk 2 0 [0, 2, 3, 4, 5, 6, 7, 8, 9, 10, 11, 12, 13, 14, 15, 16, 17, 18, 19, 20, 24] [] .normal (rsGet_J3_T1 x (rsGet_J3 x)) (rsGet_J3_H1 x (rsGet_J3 x)) 1002, .unroll, .yes, .lit 3, .lit 3, .segk 2 0 [0, 2, 3, 4, 5, 6, 7, 8, 9, 10, 11, 12, 13, 14, 15, 16, 17, 18, 19, 20, 24] [] .normal (rsGet_J4_T1 x (rsGet_J4 x)) (rsGet_J4_H1 x (rsGet_J4 x)) 1002, .unroll, .no, .segk 2 0 [0, 2, 3, 30] [] .normal (rsGet_J5_T1 x (rsGet_J5 x)) (rsGet_J5_H1 x (rsGet_J5 x)) 1002, .segk 2 0 [0, 2, 3, 36] [] .normal (rsGet_J6_T1 x (rsGet_J6 x)) (rsGet_J6_H1 x (rsGet_J6 x)) 1002, .segk 2 0 [0, 2, 3, 43] [] .normal (rsGet_J7_T1 x (rsGet_J7 x)) (rsGet_J7_H1 x (rsGet_J7 x)) 1002] (J T1 (J (Eq.refl (0 : Int)) (J (by decide : 0 < 4) (J (Eq.refl (0 : Int)) (J (by decide : 0 < 4) (J (rsGet_J1_runs x) (J T1 (J (Eq.refl (1 : Int)) (J (by decide : 1 < 4) (J (Eq.refl (1 : Int)) (J (by decide : 1 < 4) (J (rsGet_J2_runs x) (J T1 (J (Eq.refl (2 : Int)) (J (by decide : 2 < 4) (J (Eq.refl (2 : Int)) (J (by decide : 2 < 4) (J (rsGet_J3_runs x) (J T1 (J (Eq.refl (3 : Int)) (J (by decide : 3 < 4) (J (Eq.refl (3 : Int)) (J (by decide : 3 < 4) (J (rsGet_J4_runs x) (J T0 (J (rsGet_J5_runs x) (J (rsGet_J6_runs x) (J (rsGet_J7_runs x) trivial)))))))))))))))))))))))))))) (by kernel_rfl)
end Go.Proofs.YtgpcfjokmonlgaaDoor
namespace Go.Proofs.YtgpcfjokmonlgaaDoor
open Go VX IntWalk
open Go.IntKind (i64 u8 u16)
set_option maxRecDepth 100000
set_option linter.unusedSimpArgs false
set_option linter.unusedVariables false
theorem bOr_comm (k : IntKind) (a b : Int) : bOr k a b = bOr k b a := by unfold bOr; rw [BitVec.or_comm]
theorem not16_255 {a : Int} (h : 0 ≤ a ∧ a < 65536) : bAndNot .u16 a 255 = a / 256 * 256 := by
  rw [bAndNot_eq (k := .u16) rfl h.1 h.2 (by decide) (by decide), and16_255 h]; omega
theorem put2_eq (p b : Int) (hp : 0 ≤ p ∧ p < 65536) (hb : 0 ≤ b ∧ b < 256) : bOr .u16 (bAndNot .u16 p 255) (u16.wrap b) = p / 256 * 256 + b := by
  rw [not16_255 hp, u16_in b (by omega)]
  exact bOr_low (k := .u16) rfl 8 (by omega) (by show _ < ((65536 : Nat) : Int); omega) hb.1 (by show _ < ((256 : Nat) : Int); omega) (by show _ % ((256 : Nat) : Int) = 0; omega) (by decide)
theorem put3_eq (p b : Int) (hp : 0 ≤ p ∧ p < 65536) (hb : 0 ≤ b ∧ b < 256) : bOr .u16 (bAnd .u16 p 255) (bShl .u16 (u16.wrap (bAnd .u8 b 7)) 8) = p % 256 + b % 8 * 256 := by
  rw [and16_255 hp, and8_7 hb, u16_in (b % 8) (by omega)]
  have e : bShl .u16 (b % 8) 8 = b % 8 * 256 := by
    unfold bShl
    have : (2 : Int) ^ (min (8 : Int).toNat IntKind.u16.bits) = 256 := by decide
    rw [this, u16_in _ (by omega)]
  rw [e, bOr_comm, bOr_low (k := .u16) rfl 8 (by omega) (by show _ < ((65536 : Nat) : Int); omega) (by omega) (by show _ < ((256 : Nat) : Int); omega) (by show _ % ((256 : Nat) : Int) = 0; omega) (by decide)]
  omega
def pulse (k r0 r1 p : Int) (l : Int) : Tone :=
  { kind := k, on := true, reg := upd (upd (upd (upd (fun j => List.getD [0, 0, 0, 0] j 0) 0 r0) 1 r1) 2 (p % 256)) 3 (p / 256), length := l, period := p, timer := 0, step := 0, begins := true, level := 0, count := 0, sweep := 0, swept := true, line := 0, row := 1 }
theorem pulse_of (k : Int) (hk : k = 0 ∨ k = 1) (t0 : Tone) (ht : t0 = if k = 0 then tNew_0 else tNew_1) (r0 r1 p : Int) (hp : 0 ≤ p ∧ p < 2048) :
    tPut_3 (tPut_2 (tPut_1 (tPut_0 (tEnable t0 true) r0) r1) (u8.wrap p)) (u8.wrap (bShr .u16 p 8)) = pulse k r0 r1 p (lengthsT (p / 256 / 8).toNat) := by
  have e1 : u8.wrap p = p % 256 := IntKind.wrap_u8 p
  have e2 : u8.wrap (bShr .u16 p 8) = p / 256 := by rw [shr16_8, u8_in _ (by omega)]
  rw [e1, e2]
  have q2 := put2_eq 0 (p % 256) (by decide) (by omega)
  have q3 := put3_eq (p % 256) (p / 256) (by omega) (by omega)
  have q4 : 0 / 256 * 256 + p % 256 = p % 256 := by omega
  have q5 : p % 256 % 256 + p / 256 % 8 * 256 = p := by omega
  rw [q4] at q2
  rw [q5] at q3
  have q6 : bShr .u8 (p / 256) 3 = p / 256 / 8 := shr8_3 _
  rcases hk with rfl | rfl
  · rw [if_pos rfl] at ht; subst ht
    simp [tPut_3, tHigh, tPut_2, tPut_1, tPut_0, tEnable, tNew_0, pulse, q2, q3, q6]
  · rw [if_neg (by decide)] at ht; subst ht
    simp [tPut_3, tHigh, tPut_2, tPut_1, tPut_0, tEnable, tNew_1, pulse, q2, q3, q6]
theorem lengths_pos (n : Int) (h : 0 ≤ n ∧ n < 32) : 0 < lengthsT n.toNat ∧ lengthsT n.toNat < 256 := by
  obtain ⟨m, rfl⟩ : ∃ m : Nat, n = m := ⟨n.toNat, by omega⟩
  have hm : m < 32 := by omega
  rw [Int.toNat_natCast]
  clear h
  revert m
  decide +kernel
def dbit (d s : Int) : Bool := !((bAnd .u8 (bShl .u8 (dutiesT d.toNat) s) 128 : Int) == 0)
theorem out_pulse (t : Tone) (hk : t.kind = 0 ∨ t.kind = 1) (hl : 0 < t.length) : tOut t = if tMute t then 0 else if dbit (bShr .u8 (t.reg 0) 6) t.step then tVolume t else 0 := by
  unfold tOut dbit
  rw [if_neg (by rcases hk with h | h <;> simp [h]), if_neg (by simp; omega), if_neg (by rcases hk with h | h <;> simp [h]), if_pos (by rcases hk with h | h <;> simp [h])]
  cases hm : tMute t <;> simp
theorem target_eq (t : Tone) (hok : Tone.ok t) (hp : t.period < 2048) : tTarget t = (if t.reg 1 / 8 % 2 = 0 then t.period + t.period / 2 ^ (t.reg 1 % 8).toNat else if t.kind = 0 then t.period - min (t.period / 2 ^ (t.reg 1 % 8).toNat + 1) t.period else t.period - min (t.period / 2 ^ (t.reg 1 % 8).toNat) t.period) := by
  have h1 := hok.reg 1
  have h2 := hok.period
  unfold rng at h1 h2
  have e1 : bAnd .u8 (t.reg 1) 7 = t.reg 1 % 8 := and8_7 h1
  have e2 : bAnd .u8 (t.reg 1) 8 = t.reg 1 / 8 % 2 * 8 := and8_8 h1
  have e3 : bShr .u16 t.period (t.reg 1 % 8) = t.period / 2 ^ (t.reg 1 % 8).toNat := by
    have := shr8 (k := .u16) (a := t.period) (t.reg 1 % 8).toNat (by show _ ≤ 16; omega)
    rwa [Int.toNat_of_nonneg (by omega)] at this
  have h3 : 0 ≤ t.period / 2 ^ (t.reg 1 % 8).toNat := Int.ediv_nonneg h2.1 (Int.le_of_lt (Int.pow_pos (by decide)))
  have h4 : t.period / 2 ^ (t.reg 1 % 8).toNat ≤ t.period := Int.ediv_le_self _ h2.1
  unfold tTarget
  rw [e1, e2, e3]
  generalize t.period / 2 ^ (t.reg 1 % 8).toNat = q at *
  by_cases c1 : t.reg 1 / 8 % 2 = 0
  · rw [if_pos (by simp [c1]), if_pos c1, u16_in _ (by omega)]
  · rw [if_neg (by simp; omega), if_neg c1]
    by_cases c2 : t.kind = 0
    · rw [if_pos (by simp [c2]), if_pos c2, u16_in (q + 1) (by omega)]
      split <;> rw [u16_in _ (by omega)] <;> omega
    · rw [if_neg (by simp [c2]), if_neg c2]
      split <;> rw [u16_in _ (by omega)] <;> omega
end Go.Proofs.YtgpcfjokmonlgaaDoor
namespace Go.Proofs.YtgpcfjokmonlgaaDoor
open Go VX IntWalk
set_option maxRecDepth 100000
set_option linter.unusedSimpArgs false
set_option linter.unusedVariables false
def stp (tap r : Nat) : Nat := r / 2 + (r % 2 + r / 2 ^ tap % 2) % 2 * 16384
theorem stp_lt {tap r : Nat} (h : r < 32768) : stp tap r < 32768 := by
  unfold stp
  have : (r % 2 + r / 2 ^ tap % 2) % 2 < 2 := Nat.mod_lt _ (by decide)
  omega
theorem xor_mod2 (a b : Nat) : (a ^^^ b) % 2 = (a + b) % 2 := by
  have h := @Nat.xor_mod_two_eq_one a b
  have ha := Nat.mod_two_eq_zero_or_one a
  have hb := Nat.mod_two_eq_zero_or_one b
  have hx := Nat.mod_two_eq_zero_or_one (a ^^^ b)
  rcases ha with ha | ha <;> rcases hb with hb | hb <;> rcases hx with hx | hx <;> simp [ha, hb, hx] at h <;> omega
theorem row_eq (tap : Nat) (ht : tap = 1 ∨ tap = 6) (r : Nat) (hr : r < 32768) :
    bOr .u16 (bShr .u16 (r : Int) 1) (bShl .u16 (bAnd .u16 (bXor .u16 (r : Int) (bShr .u16 (r : Int) (tap : Int))) 1) 14) = (stp tap r : Nat) := by
  have hs : bShr .u16 (r : Int) (tap : Int) = ((r / 2 ^ tap : Nat) : Int) := by
    rw [shr8 (k := .u16) tap (by rcases ht with rfl | rfl <;> decide)]; norm_cast
  have hd : r / 2 ^ tap < 32768 := Nat.lt_of_le_of_lt (Nat.div_le_self _ _) hr
  have hx : r ^^^ (r / 2 ^ tap) < 2 ^ 15 := Nat.xor_lt_two_pow hr hd
  have hx' : r ^^^ (r / 2 ^ tap) < 32768 := hx
  have h1 : bShr .u16 (r : Int) 1 = ((r / 2 : Nat) : Int) := by rw [shr16_1]; norm_cast
  rw [h1, hs, xor_nat (k := .u16) rfl (show r < 65536 by omega) (show r / 2 ^ tap < 65536 by omega), and16_1 (by omega)]
  have e2 : (((r ^^^ (r / 2 ^ tap) : Nat) : Int) % 2) = (((r + r / 2 ^ tap) % 2 : Nat) : Int) := by
    rw [← xor_mod2]; norm_cast
  rw [e2]
  have e3 : (r % 2 + r / 2 ^ tap % 2) % 2 = (r + r / 2 ^ tap) % 2 := by omega
  unfold stp
  rw [e3]
  have hc : (r + r / 2 ^ tap) % 2 < 2 := Nat.mod_lt _ (by decide)
  generalize (r + r / 2 ^ tap) % 2 = c at hc ⊢
  have e4 : bShl .u16 (c : Int) 14 = ((c * 16384 : Nat) : Int) := by
    unfold bShl
    have : (2 : Int) ^ (min (14 : Int).toNat IntKind.u16.bits) = 16384 := by decide
    rw [this, u16_in _ (by omega)]; omega
  have hcm : bOr .u16 ((r / 2 : Nat) : Int) ((c * 16384 : Nat) : Int) = bOr .u16 ((c * 16384 : Nat) : Int) ((r / 2 : Nat) : Int) := by unfold bOr; rw [BitVec.or_comm]
  rw [e4, hcm, bOr_low (k := .u16) rfl 14 (by omega) (by show _ < ((65536 : Nat) : Int); omega) (by omega) (by show _ < ((16384 : Nat) : Int); omega) (by show _ % ((16384 : Nat) : Int) = 0; omega) (by decide)]
  omega
end Go.Proofs.YtgpcfjokmonlgaaDoor
namespace Go.Proofs.YtgpcfjokmonlgaaDoor
open Go VX IntWalk
open Go.IntKind (i64 u8 u16)
set_option maxRecDepth 100000
set_option linter.unusedSimpArgs false
set_option linter.unusedVariables false
def CH (r : Nat → Int) : Nat → Int := upd (upd (upd (upd (fun _ => 0) 0 (r 0)) 1 (r 1)) 2 (r 2)) 3 (r 3)
def rowF (r : Int) : Nat → Int := fun j => List.getD [r % 2, r / 2 % 2, r / 4 % 2, r / 8 % 2, r / 16 % 2, r / 32 % 2, r / 64 % 2, r / 128 % 2, r / 256 % 2, r / 512 % 2, r / 1024 % 2, r / 2048 % 2, r / 4096 % 2, r / 8192 % 2, r / 16384 % 2] j 0
def emb (t : Tone) : RTone :=
  { Kind := t.kind, On := t.on, Reg := CH t.reg, Length := t.length, Timer := t.timer, Period := t.period, Step := t.step, Anew := t.begins, Swept := t.swept, Level := t.level, Count := t.count, Line := t.line, Sweep := t.sweep, Row := rowF t.row }
structure Inv (t : Tone) : Prop where
  ok : Tone.ok t
  kind : 0 ≤ t.kind ∧ t.kind ≤ 3
  per : t.kind ≠ 3 → t.period < 2048
  noi : t.kind = 3 → t.period = noisesT (t.reg 2 % 16).toNat - 1
  stp : t.step < 32
  stp8 : t.kind ≠ 2 → t.step < 8
  row : t.row < 32768
theorem emb_good {t : Tone} (h : Inv t) : Good (emb t) := by
  have hr := h.ok.reg
  have hp := h.ok.period
  have hs := h.ok.step
  have h1 := h.stp
  have h2 := h.stp8
  unfold rng at hp hs
  refine ⟨fun j => ?_, hp, ⟨hs.1, h1⟩, ?_⟩
  · show 0 ≤ CH t.reg j ∧ CH t.reg j < 256
    have q : ∀ k, 0 ≤ t.reg k ∧ t.reg k < 256 := fun k => by have := hr k; unfold rng at this; exact this
    unfold CH upd
    cases Nat.beq j 3 <;> cases Nat.beq j 2 <;> cases Nat.beq j 1 <;> cases Nat.beq j 0 <;> first | exact q _ | exact ⟨Int.le_refl 0, (by decide : (0 : Int) < 256)⟩
  · by_cases hk : t.kind = 2
    · exact .inl hk
    · exact .inr (h2 hk)
theorem box_CH (r : Nat → Int) : (fun j => List.getD [CH r 0, CH r 1, CH r 2, CH r 3] j 0) = CH r := by
  funext j
  match j with
  | 0 => rfl
  | 1 => rfl
  | 2 => rfl
  | 3 => rfl
  | j + 4 =>
    have e : ∀ k, k < 4 → Nat.beq (j + 4) k = false := fun k hk => by cases h : Nat.beq (j + 4) k with | false => rfl | true => have := Nat.eq_of_beq_eq_true h; omega
    show (0 : Int) = CH r (j + 4)
    unfold CH upd
    rw [e 3 (by decide), e 2 (by decide), e 1 (by decide), e 0 (by decide)]; rfl
theorem box_emb (t : Tone) : ({ emb t with Reg := (fun j => List.getD [((emb t).Reg 0), ((emb t).Reg 1), ((emb t).Reg 2), ((emb t).Reg 3)] j 0) } : RTone) = emb t := by
  have := box_CH t.reg
  show ({ emb t with Reg := (fun j => List.getD [CH t.reg 0, CH t.reg 1, CH t.reg 2, CH t.reg 3] j 0) } : RTone) = emb t
  rw [this]
  rfl
theorem emb_enable (t : Tone) (on : Bool) : rEnable (emb t) on = emb (tEnable t on) := by
  unfold rEnable tEnable
  cases on <;> rfl
theorem emb_quarter {t : Tone} (h : Inv t) : rQuarter (emb t) = emb (tQuarter t) := by
  have hr := h.ok.reg 0
  have hl := h.ok.line
  have hc := h.ok.count
  have hv := h.ok.level
  have e1 : bAnd .u8 (t.reg 0) 128 = t.reg 0 / 128 % 2 * 128 := and8_128 hr
  have e2 : bAndNot .u8 (t.reg 0) 128 = t.reg 0 % 128 := not8_128 hr
  have e3 : bAnd .u8 (t.reg 0) 15 = t.reg 0 % 16 := and8_15 hr
  have e4 : bAnd .u8 (t.reg 0) 32 = t.reg 0 / 32 % 2 * 32 := and8_32 hr
  unfold rng at hr hl hc hv
  have t1 : Int.tmod (t.reg 0) 128 = t.reg 0 % 128 := Int.tmod_eq_emod_of_nonneg hr.1
  have t2 : Int.tmod (t.reg 0) 16 = t.reg 0 % 16 := Int.tmod_eq_emod_of_nonneg hr.1
  have t3 : Int.tmod (i64.wrap (Int.tdiv (t.reg 0) 32)) 2 = t.reg 0 / 32 % 2 := by
    rw [Int.tdiv_eq_ediv_of_nonneg hr.1, i64_in _ (by omega), Int.tmod_eq_emod_of_nonneg (by omega)]
  have w1 : i64.wrap (t.line - 1) = t.line - 1 := i64_in _ (by omega)
  have w2 : i64.wrap (t.count - 1) = t.count - 1 := i64_in _ (by omega)
  have w3 : i64.wrap (t.level - 1) = t.level - 1 := i64_in _ (by omega)
  have u1 : 0 < t.line → u8.wrap (t.line - 1) = t.line - 1 := fun h => u8_in _ (by omega)
  have u2 : 0 < t.count → u8.wrap (t.count - 1) = t.count - 1 := fun h => u8_in _ (by omega)
  have u3 : 0 < t.level → u8.wrap (t.level - 1) = t.level - 1 := fun h => u8_in _ (by omega)
  have f0 : (emb t).Reg 0 = t.reg 0 := rfl
  have fk : (emb t).Kind = t.kind := rfl
  have fa : (emb t).Anew = t.begins := rfl
  have fl : (emb t).Line = t.line := rfl
  have fc : (emb t).Count = t.count := rfl
  have fv : (emb t).Level = t.level := rfl
  unfold rQuarter tQuarter
  rw [f0, fk, fa, fl, fc, fv, e1, e2, e3, e4, t1, t2, t3, w1, w2, w3]
  by_cases k2 : t.kind = 2
  · have c2 : (t.kind == 2) = true := by simpa using k2
    simp only [c2, ↓reduceIte]
    by_cases hb : t.begins = true
    · simp only [hb, ↓reduceIte]
      by_cases h128 : t.reg 0 < 128
      · have c3 : decide (t.reg 0 < 128) = true := by simpa using h128
        have c4 : (t.reg 0 / 128 % 2 * 128 != 0) = false := by simp; omega
        simp only [c3, c4, ↓reduceIte]; rfl
      · have c3 : decide (t.reg 0 < 128) = false := by simpa using h128
        have c4 : (t.reg 0 / 128 % 2 * 128 != 0) = true := by simp; omega
        simp only [c3, c4, ↓reduceIte, Bool.false_eq_true]
        (first | rfl | (simp [emb, hb]; done) | (simp [emb, hb]; rfl))
    · have hb' : t.begins = false := by simpa using hb
      simp only [hb', ↓reduceIte, Bool.false_eq_true]
      by_cases hz : 0 < t.line
      · have c5 : decide (t.line > 0) = true := by simpa using hz
        have hm : (if 0 > t.line - 1 then 0 else t.line - 1) = t.line - 1 := by rw [if_neg (by omega)]
        simp only [c5, hm, u1 hz, ↓reduceIte]
        split <;> (first | rfl | (simp [emb, hb']; done) | (simp [emb, hb']; rfl))
      · have c5 : decide (t.line > 0) = false := by simpa using hz
        have hm : (if 0 > t.line - 1 then 0 else t.line - 1) = t.line := by rw [if_pos (by omega)]; omega
        simp only [c5, hm, ↓reduceIte, Bool.false_eq_true]
        split <;> (first | rfl | (simp [emb, hb']; done) | (simp [emb, hb']; rfl))
  · have c2 : (t.kind == 2) = false := by simpa using k2
    simp only [c2, ↓reduceIte, Bool.false_eq_true]
    by_cases hb : t.begins = true
    · simp only [hb, ↓reduceIte]; rfl
    · have hb' : t.begins = false := by simpa using hb
      simp only [hb', ↓reduceIte, Bool.false_eq_true]
      by_cases hz : 0 < t.count
      · have c5 : decide (t.count - 1 ≥ 0) = true := by simp; omega
        have c6 : decide (t.count > 0) = true := by simpa using hz
        simp only [c5, c6, u2 hz, ↓reduceIte]; rfl
      · have c5 : decide (t.count - 1 ≥ 0) = false := by simp; omega
        have c6 : decide (t.count > 0) = false := by simpa using hz
        simp only [c5, c6, ↓reduceIte, Bool.false_eq_true]
        by_cases hy : 0 < t.level
        · have c7 : decide (t.level - 1 < 0) = false := by simp; omega
          have c8 : decide (t.level > 0) = true := by simpa using hy
          simp only [c7, c8, u3 hy, ↓reduceIte, Bool.false_eq_true]; rfl
        · have c7 : decide (t.level - 1 < 0) = true := by simp; omega
          have c8 : decide (t.level > 0) = false := by simpa using hy
          have hl0 : t.level = 0 := by omega
          simp only [c7, c8, ↓reduceIte, Bool.false_eq_true]
          by_cases h32 : t.reg 0 / 32 % 2 = 1
          · rw [h32]; rfl
          · have h32' : t.reg 0 / 32 % 2 = 0 := by omega
            rw [h32']
            (first | rfl | (simp [emb, hl0]; done) | (simp [emb, hl0]; rfl))
theorem emb_target {t : Tone} (h : Inv t) (hk : t.kind ≠ 3) : rTarget (emb t) = tTarget t := by
  rw [target_eq t h.ok (h.per hk)]
  have f1 : (emb t).Reg 1 = t.reg 1 := rfl
  have fk : (emb t).Kind = t.kind := rfl
  have fp : (emb t).Period = t.period := rfl
  have hp := h.ok.period
  unfold rng at hp
  unfold rTarget
  rw [f1, fk, fp]
  have hq0 : 0 ≤ t.period / 2 ^ (t.reg 1 % 8).toNat := Int.ediv_nonneg hp.1 (Int.le_of_lt (Int.pow_pos (by decide)))
  generalize t.period / 2 ^ (t.reg 1 % 8).toNat = q at *
  split
  · rfl
  · split <;> omega
theorem emb_mute {t : Tone} (h : Inv t) (hk : t.kind ≠ 3) : rMute (emb t) = tMute t := by
  unfold rMute tMute
  rw [emb_target h hk]
  have fp : (emb t).Period = t.period := rfl
  rw [fp]
end Go.Proofs.YtgpcfjokmonlgaaDoor
namespace Go.Proofs.YtgpcfjokmonlgaaDoor
open Go VX IntWalk
open Go.IntKind (i64 u8 u16)
set_option maxRecDepth 100000
set_option linter.unusedSimpArgs false
set_option linter.unusedVariables false
theorem rMute_len {x : RTone} (n : Int) : rMute ({ x with Length := n } : RTone) = rMute x := rfl
theorem rTarget_len {x : RTone} (n : Int) : rTarget ({ x with Length := n } : RTone) = rTarget x := rfl
theorem tMute_len {t : Tone} (n : Int) : tMute ({ t with length := n } : Tone) = tMute t := rfl
theorem tTarget_len {t : Tone} (n : Int) : tTarget ({ t with length := n } : Tone) = tTarget t := rfl
theorem emb_half {t : Tone} (h : Inv t) : rHalf (emb t) = emb (tHalf t) := by
  have hr := h.ok.reg 0
  have hs := h.ok.reg 1
  have hl := h.ok.length
  have hw := h.ok.sweep
  have e1 : bAnd .u8 (t.reg 0) 128 = t.reg 0 / 128 % 2 * 128 := and8_128 hr
  have e2 : bAnd .u8 (t.reg 0) 32 = t.reg 0 / 32 % 2 * 32 := and8_32 hr
  have e3 : bAnd .u8 (t.reg 1) 128 = t.reg 1 / 128 % 2 * 128 := and8_128 hs
  have e4 : bAnd .u8 (t.reg 1) 7 = t.reg 1 % 8 := and8_7 hs
  have e5 : bAnd .u8 (bShr .u8 (t.reg 1) 4) 7 = t.reg 1 / 16 % 8 := by rw [shr8_4]; exact and8_7 (by unfold rng at hs; omega)
  unfold rng at hr hs hl hw
  have t1 : Int.tmod (t.reg 1) 8 = t.reg 1 % 8 := Int.tmod_eq_emod_of_nonneg hs.1
  have t2 : Int.tmod (i64.wrap (Int.tdiv (t.reg 1) 16)) 8 = t.reg 1 / 16 % 8 := by
    rw [Int.tdiv_eq_ediv_of_nonneg hs.1, i64_in _ (by omega), Int.tmod_eq_emod_of_nonneg (by omega)]
  have t3 : Int.tmod (i64.wrap (Int.tdiv (t.reg 0) 32)) 2 = t.reg 0 / 32 % 2 := by
    rw [Int.tdiv_eq_ediv_of_nonneg hr.1, i64_in _ (by omega), Int.tmod_eq_emod_of_nonneg (by omega)]
  have w1 : i64.wrap (t.length - 1) = t.length - 1 := i64_in _ (by omega)
  have w2 : i64.wrap (t.sweep - 1) = t.sweep - 1 := i64_in _ (by omega)
  have u1 : 0 < t.length → u8.wrap (t.length - 1) = t.length - 1 := fun h => u8_in _ (by omega)
  have u2 : ¬ t.sweep = 0 → u8.wrap (t.sweep - 1) = t.sweep - 1 := fun h => u8_in _ (by omega)
  have f0 : (emb t).Reg 0 = t.reg 0 := rfl
  have f1 : (emb t).Reg 1 = t.reg 1 := rfl
  have f2 : (emb t).Reg 2 = t.reg 2 := rfl
  have f3 : (emb t).Reg 3 = t.reg 3 := rfl
  have fk : (emb t).Kind = t.kind := rfl
  have fl : (emb t).Length = t.length := rfl
  have fs : (emb t).Sweep = t.sweep := rfl
  have fw : (emb t).Swept = t.swept := rfl
  unfold rHalf tHalf
  simp only [rMute_len, rTarget_len, tMute_len, tTarget_len]
  simp only [f0, f1, f2, f3, fk, fl, fs, fw, e1, e2, e3, e4, e5, t1, t2, t3, w1, w2]
  have hm : (if 0 > t.length - 1 then 0 else t.length - 1) = if 0 < t.length then t.length - 1 else t.length := by split <;> split <;> omega
  simp only [hm]
  by_cases k2 : t.kind = 2
  · have c1 : (t.kind == 2) = true := by simpa using k2
    have c2 : decide (t.kind > 1) = true := by simp; omega
    simp only [c1, c2, ↓reduceIte]
    by_cases hh : t.reg 0 < 128
    · have c3 : (!decide (t.reg 0 ≥ 128)) = true := by simp; omega
      have c4 : (t.reg 0 / 128 % 2 * 128 == 0) = true := by simp; omega
      simp only [c3, c4, ↓reduceIte]
      by_cases hz : 0 < t.length
      · have c5 : decide (t.length > 0) = true := by simpa using hz
        simp only [c5, hz, u1 hz, ↓reduceIte, decide_true]; rfl
      · have c5 : decide (t.length > 0) = false := by simpa using hz
        simp only [c5, hz, ↓reduceIte, Bool.false_eq_true, decide_false]; rfl
    · have c3 : (!decide (t.reg 0 ≥ 128)) = false := by simp; omega
      have c4 : (t.reg 0 / 128 % 2 * 128 == 0) = false := by simp; omega
      simp only [c3, c4, ↓reduceIte, Bool.false_eq_true]
      split <;> rfl
  · have c1 : (t.kind == 2) = false := by simpa using k2
    simp only [c1, ↓reduceIte, Bool.false_eq_true]
    have held : ∀ (L : Int), ({ emb t with Reg := CH t.reg, Length := L } : RTone) = emb ({ t with length := L } : Tone) := fun L => rfl
    by_cases k3 : t.kind = 3
    · have c2 : decide (t.kind > 1) = true := by simp; omega
      simp only [c2, ↓reduceIte]
      by_cases hh : t.reg 0 / 32 % 2 = 1
      · have c3 : (!(t.reg 0 / 32 % 2 == 1)) = false := by simp; exact hh
        have c4 : (t.reg 0 / 32 % 2 * 32 == 0) = false := by simp; omega
        simp only [c3, c4, ↓reduceIte, Bool.false_eq_true]
        split <;> rfl
      · have c3 : (!(t.reg 0 / 32 % 2 == 1)) = true := by simp; exact hh
        have c4 : (t.reg 0 / 32 % 2 * 32 == 0) = true := by simp; omega
        simp only [c3, c4, ↓reduceIte]
        by_cases hz : 0 < t.length
        · have c5 : decide (t.length > 0) = true := by simpa using hz
          simp only [c5, hz, u1 hz, ↓reduceIte, decide_true]; rfl
        · have c5 : decide (t.length > 0) = false := by simpa using hz
          simp only [c5, hz, ↓reduceIte, Bool.false_eq_true, decide_false]; rfl
    · have c2 : decide (t.kind > 1) = false := by have := h.kind; simp; omega
      simp only [c2, ↓reduceIte, Bool.false_eq_true]
      rw [emb_mute h k3, emb_target h k3]
      have c7 : decide (t.reg 1 % 8 > 0) = (t.reg 1 % 8 != 0) := by
        by_cases hq : t.reg 1 % 8 = 0
        · rw [hq]; rfl
        · have a1 : decide (t.reg 1 % 8 > 0) = true := by simp; omega
          have a2 : (t.reg 1 % 8 != 0) = true := by simpa using hq
          rw [a1, a2]
      have c8 : decide (t.reg 1 ≥ 128) = (t.reg 1 / 128 % 2 * 128 != 0) := by
        by_cases hq : t.reg 1 < 128
        · have a1 : decide (t.reg 1 ≥ 128) = false := by simp; omega
          have a2 : (t.reg 1 / 128 % 2 * 128 != 0) = false := by simp; omega
          rw [a1, a2]
        · have a1 : decide (t.reg 1 ≥ 128) = true := by simp; omega
          have a2 : (t.reg 1 / 128 % 2 * 128 != 0) = true := by simp; omega
          rw [a1, a2]
      simp only [c7, c8]
      by_cases hh : t.reg 0 / 32 % 2 = 1
      · have c3 : (!(t.reg 0 / 32 % 2 == 1)) = false := by simp; exact hh
        have c4 : (t.reg 0 / 32 % 2 * 32 == 0) = false := by simp; omega
        simp only [c3, c4, ↓reduceIte, Bool.false_eq_true]
        by_cases hz : 0 < t.length
        all_goals
          first
            | (have c5 : decide (t.length > 0) = true := by simpa using hz
               simp only [c5, ↓reduceIte])
            | (have c5 : decide (t.length > 0) = false := by simpa using hz
               simp only [c5, ↓reduceIte, Bool.false_eq_true])
          by_cases hsw : t.sweep = 0
          · have c6 : (t.sweep == 0) = true := by simpa using hsw
            simp only [c6, ↓reduceIte]
            (repeat' split) <;> rfl
          · have c6 : (t.sweep == 0) = false := by simpa using hsw
            simp only [c6, u2 hsw, ↓reduceIte, Bool.false_eq_true]
            cases hp : t.swept <;> simp only [↓reduceIte, Bool.false_eq_true] <;> first | rfl | (simp [emb, hp]; rfl)
      · have c3 : (!(t.reg 0 / 32 % 2 == 1)) = true := by simp; exact hh
        have c4 : (t.reg 0 / 32 % 2 * 32 == 0) = true := by simp; omega
        simp only [c3, c4, ↓reduceIte]
        by_cases hz : 0 < t.length
        all_goals
          first
            | (have c5 : decide (t.length > 0) = true := by simpa using hz
               simp only [c5, hz, u1 hz, ↓reduceIte, decide_true])
            | (have c5 : decide (t.length > 0) = false := by simpa using hz
               simp only [c5, hz, ↓reduceIte, Bool.false_eq_true, decide_false])
          by_cases hsw : t.sweep = 0
          · have c6 : (t.sweep == 0) = true := by simpa using hsw
            simp only [c6, ↓reduceIte]
            (repeat' split) <;> rfl
          · have c6 : (t.sweep == 0) = false := by simpa using hsw
            simp only [c6, u2 hsw, ↓reduceIte, Bool.false_eq_true]
            cases hp : t.swept <;> simp only [↓reduceIte, Bool.false_eq_true] <;> first | rfl | (simp [emb, hp]; rfl)
theorem bit_stp (tap r : Nat) (j : Nat) (hj : j < 14) : stp tap r / 2 ^ j % 2 = r / 2 ^ (j + 1) % 2 := by
  unfold stp
  have e : 16384 = 2 ^ (j + 1) * 2 ^ (13 - j) := by
    have e1 : j + 1 + (13 - j) = 14 := by omega
    rw [← Nat.pow_add, e1]
  generalize (r % 2 + r / 2 ^ tap % 2) % 2 = c
  have e2 : c * 16384 = 2 ^ j * (2 * (2 ^ (13 - j) * c)) := by rw [e, Nat.pow_succ]; simp only [Nat.mul_assoc, Nat.mul_comm, Nat.mul_left_comm]
  rw [e2, Nat.add_mul_div_left _ _ (Nat.pow_pos (by decide)), Nat.div_div_eq_div_mul, Nat.mul_comm 2 (2 ^ j), ← Nat.pow_succ]
  exact Nat.add_mul_mod_self_left _ _ _
theorem top_stp (tap r : Nat) (hr : r < 32768) : stp tap r / 16384 % 2 = (r % 2 + r / 2 ^ tap % 2) % 2 := by
  unfold stp
  have hc : (r % 2 + r / 2 ^ tap % 2) % 2 < 2 := Nat.mod_lt _ (by decide)
  generalize (r % 2 + r / 2 ^ tap % 2) % 2 = c at hc ⊢
  omega
theorem rowF_stp (tap : Nat) (ht : tap = 1 ∨ tap = 6) (r : Nat) (hr : r < 32768) :
    (fun j => List.getD [rowF r 1, rowF r 2, rowF r 3, rowF r 4, rowF r 5, rowF r 6, rowF r 7, rowF r 8, rowF r 9, rowF r 10, rowF r 11, rowF r 12, rowF r 13, rowF r 14, Int.tmod (i64.wrap (rowF r 0 + rowF r tap)) 2] j 0) = rowF ((stp tap r : Nat) : Int) := by
  have b : ∀ j, j < 14 → (((stp tap r : Nat) : Int) / ((2 ^ j : Nat) : Int) % 2) = ((r : Int) / ((2 ^ (j + 1) : Nat) : Int) % 2) := by
    intro j hj
    have := bit_stp tap r j hj
    have e1 : (((stp tap r : Nat) : Int) / ((2 ^ j : Nat) : Int) % 2) = ((stp tap r / 2 ^ j % 2 : Nat) : Int) := by norm_cast
    have e2 : ((r : Int) / ((2 ^ (j + 1) : Nat) : Int) % 2) = ((r / 2 ^ (j + 1) % 2 : Nat) : Int) := by norm_cast
    rw [e1, e2, this]
  have b0 := b 0 (by decide)
  have b1 := b 1 (by decide)
  have b2 := b 2 (by decide)
  have b3 := b 3 (by decide)
  have b4 := b 4 (by decide)
  have b5 := b 5 (by decide)
  have b6 := b 6 (by decide)
  have b7 := b 7 (by decide)
  have b8 := b 8 (by decide)
  have b9 := b 9 (by decide)
  have b10 := b 10 (by decide)
  have b11 := b 11 (by decide)
  have b12 := b 12 (by decide)
  have b13 := b 13 (by decide)
  have b14 : ((stp tap r : Nat) : Int) / 16384 % 2 = Int.tmod (i64.wrap (rowF r 0 + rowF r tap)) 2 := by
    have hn := top_stp tap r hr
    have e1 : rowF r tap = ((r / 2 ^ tap % 2 : Nat) : Int) := by
      rcases ht with rfl | rfl
      · show (r : Int) / 2 % 2 = _; norm_cast
      · show (r : Int) / 64 % 2 = _; norm_cast
    have e0 : rowF r 0 = ((r % 2 : Nat) : Int) := by show (r : Int) % 2 = _; norm_cast
    have hc : ((stp tap r : Nat) : Int) / 16384 % 2 = ((stp tap r / 16384 % 2 : Nat) : Int) := by norm_cast
    rw [hc, hn, e0, e1, i64_in _ (by omega), Int.tmod_eq_emod_of_nonneg (by omega)]
    norm_cast
  have c0 : ((stp tap r : Nat) : Int) % 2 = (r : Int) / 2 % 2 := by simpa using b0
  funext j
  show List.getD [(r : Int) / 2 % 2, (r : Int) / 4 % 2, (r : Int) / 8 % 2, (r : Int) / 16 % 2, (r : Int) / 32 % 2, (r : Int) / 64 % 2, (r : Int) / 128 % 2, (r : Int) / 256 % 2, (r : Int) / 512 % 2, (r : Int) / 1024 % 2, (r : Int) / 2048 % 2, (r : Int) / 4096 % 2, (r : Int) / 8192 % 2, (r : Int) / 16384 % 2, Int.tmod (i64.wrap (rowF r 0 + rowF r tap)) 2] j 0 = List.getD [((stp tap r : Nat) : Int) % 2, ((stp tap r : Nat) : Int) / 2 % 2, ((stp tap r : Nat) : Int) / 4 % 2, ((stp tap r : Nat) : Int) / 8 % 2, ((stp tap r : Nat) : Int) / 16 % 2, ((stp tap r : Nat) : Int) / 32 % 2, ((stp tap r : Nat) : Int) / 64 % 2, ((stp tap r : Nat) : Int) / 128 % 2, ((stp tap r : Nat) : Int) / 256 % 2, ((stp tap r : Nat) : Int) / 512 % 2, ((stp tap r : Nat) : Int) / 1024 % 2, ((stp tap r : Nat) : Int) / 2048 % 2, ((stp tap r : Nat) : Int) / 4096 % 2, ((stp tap r : Nat) : Int) / 8192 % 2, ((stp tap r : Nat) : Int) / 16384 % 2] j 0
  rw [b14, c0]
  have d1 : ((stp tap r : Nat) : Int) / 2 % 2 = (r : Int) / 4 % 2 := b1
  have d2 : ((stp tap r : Nat) : Int) / 4 % 2 = (r : Int) / 8 % 2 := b2
  have d3 : ((stp tap r : Nat) : Int) / 8 % 2 = (r : Int) / 16 % 2 := b3
  have d4 : ((stp tap r : Nat) : Int) / 16 % 2 = (r : Int) / 32 % 2 := b4
  have d5 : ((stp tap r : Nat) : Int) / 32 % 2 = (r : Int) / 64 % 2 := b5
  have d6 : ((stp tap r : Nat) : Int) / 64 % 2 = (r : Int) / 128 % 2 := b6
  have d7 : ((stp tap r : Nat) : Int) / 128 % 2 = (r : Int) / 256 % 2 := b7
  have d8 : ((stp tap r : Nat) : Int) / 256 % 2 = (r : Int) / 512 % 2 := b8
  have d9 : ((stp tap r : Nat) : Int) / 512 % 2 = (r : Int) / 1024 % 2 := b9
  have d10 : ((stp tap r : Nat) : Int) / 1024 % 2 = (r : Int) / 2048 % 2 := b10
  have d11 : ((stp tap r : Nat) : Int) / 2048 % 2 = (r : Int) / 4096 % 2 := b11
  have d12 : ((stp tap r : Nat) : Int) / 4096 % 2 = (r : Int) / 8192 % 2 := b12
  have d13 : ((stp tap r : Nat) : Int) / 8192 % 2 = (r : Int) / 16384 % 2 := b13
  rw [d1, d2, d3, d4, d5, d6, d7, d8, d9, d10, d11, d12, d13]
theorem emb_clock {t : Tone} (h : Inv t) : rClock (emb t) = emb (tClock t) := by
  have hr := h.ok.reg 2
  have ht := h.ok.timer
  have hs := h.ok.step
  have hw := h.ok.row
  have e1 : bAnd .u8 (t.reg 2) 128 = t.reg 2 / 128 % 2 * 128 := and8_128 hr
  unfold rng at hr ht hs hw
  have w1 : i64.wrap (t.timer - 1) = t.timer - 1 := i64_in _ (by omega)
  have u1 : 0 < t.timer → u16.wrap (t.timer - 1) = t.timer - 1 := fun h => u16_in _ (by omega)
  have hst := h.stp
  have w2 : i64.wrap (t.step + 1) = t.step + 1 := i64_in _ (by omega)
  have u2 : u8.wrap (t.step + 1) = t.step + 1 := u8_in _ (by omega)
  have f2 : (emb t).Reg 2 = t.reg 2 := rfl
  have fk : (emb t).Kind = t.kind := rfl
  have fl : (emb t).Length = t.length := rfl
  have fi : (emb t).Line = t.line := rfl
  have ft : (emb t).Timer = t.timer := rfl
  have fs : (emb t).Step = t.step := rfl
  unfold rClock tClock
  simp only [f2, fk, fl, fi, ft, fs, e1, w1, w2, u2]
  by_cases hz : 0 < t.timer
  · have c5 : decide (t.timer > 0) = true := by simpa using hz
    simp only [c5, u1 hz, ↓reduceIte]; rfl
  · have c5 : decide (t.timer > 0) = false := by simpa using hz
    simp only [c5, ↓reduceIte, Bool.false_eq_true]
    by_cases k2 : t.kind = 2
    · have c1 : (t.kind == 2) = true := by simpa using k2
      simp only [c1, ↓reduceIte]
      split
      · split <;> rfl
      · rfl
    · have c1 : (t.kind == 2) = false := by simpa using k2
      simp only [c1, ↓reduceIte, Bool.false_eq_true]
      by_cases k3 : t.kind = 3
      · have c2 : (t.kind == 3) = true := by simpa using k3
        simp only [c2, ↓reduceIte]
        obtain ⟨r, hrow⟩ := Int.eq_ofNat_of_zero_le hw.1
        have hr32 : r < 32768 := by have := h.row; omega
        by_cases h128 : t.reg 2 < 128
        · have c3 : decide (t.reg 2 ≥ 128) = false := by simp; omega
          have c4 : (t.reg 2 / 128 % 2 * 128 != 0) = false := by simp; omega
          simp only [c3, c4, ↓reduceIte, Bool.false_eq_true]
          have q := row_eq 1 (.inl rfl) r hr32
          rw [show ((1 : Nat) : Int) = 1 from rfl] at q
          rw [hrow, q]
          have q2 := rowF_stp 1 (.inl rfl) r hr32
          have fr : (emb t).Row = rowF r := by show rowF t.row = _; rw [hrow]
          rw [fr, q2]; rfl
        · have c3 : decide (t.reg 2 ≥ 128) = true := by simp; omega
          have c4 : (t.reg 2 / 128 % 2 * 128 != 0) = true := by simp; omega
          simp only [c3, c4, ↓reduceIte]
          have q := row_eq 6 (.inr rfl) r hr32
          rw [show ((6 : Nat) : Int) = 6 from rfl] at q
          rw [hrow, q]
          have q2 := rowF_stp 6 (.inr rfl) r hr32
          have fr : (emb t).Row = rowF r := by show rowF t.row = _; rw [hrow]
          rw [fr, q2]; rfl
      · have c2 : (t.kind == 3) = false := by simpa using k3
        simp only [c2, ↓reduceIte, Bool.false_eq_true]; rfl
end Go.Proofs.YtgpcfjokmonlgaaDoor
namespace Go.Proofs.YtgpcfjokmonlgaaDoor
open Go VX IntWalk
open Go.IntKind (i64 u8 u16)
set_option maxRecDepth 100000
set_option linter.unusedSimpArgs false
set_option linter.unusedVariables false
def rOutS (s : ByteArray) (x : RTone) : Int :=
  if ((x.Kind : Int) == 2) = true then
    if (decide ((x.Step : Int) < 16)) = true then
      (i64.wrap (15 - x.Step))
    else
      (i64.wrap (x.Step - 16))
  else
    if ((x.Kind : Int) == 3) = true then
      if (decide ((x.Length : Int) > 0)) = true then
        if (!(((x.Row 0) : Int) == 0)) = true then
          0
        else
          if (((Int.tmod (i64.wrap (Int.tdiv (x.Reg 0) 16)) 2) : Int) == 1) = true then
            (Int.tmod (x.Reg 0) 16)
          else
            x.Level
      else
        0
    else
      if (decide ((x.Length : Int) > 0)) = true then
        if (!(rMute x)) = true then
          if (!(((strAt s (Int.toNat x.Step)) : Int) == 49)) = true then
            0
          else
            if (((Int.tmod (i64.wrap (Int.tdiv (x.Reg 0) 16)) 2) : Int) == 1) = true then
              (Int.tmod (x.Reg 0) 16)
            else
              x.Level
        else
          0
      else
        0
def strD (d : Nat) : ByteArray := [⟨#[48, 49, 48, 48, 48, 48, 48, 48]⟩, ⟨#[48, 49, 49, 48, 48, 48, 48, 48]⟩, ⟨#[48, 49, 49, 49, 49, 48, 48, 48]⟩, ⟨#[49, 48, 48, 49, 49, 49, 49, 49]⟩].getD d ⟨#[]⟩
theorem str_bit : ∀ (d : Fin 4) (s : Fin 8), ((strAt (strD d.val) s.val : Int) == 49) = dbit (d.val : Int) (s.val : Int) := by decide +kernel
theorem emb_outS {t : Tone} (h : Inv t) (d : Int) (hd : d = t.reg 0 / 64) : rOutS (strD d.toNat) (emb t) = tOut t := by
  have hr := h.ok.reg 0
  have hs := h.ok.step
  have hl := h.ok.length
  have hw := h.ok.row
  have e1 : bAnd .u8 (t.reg 0) 16 = t.reg 0 / 16 % 2 * 16 := and8_16 hr
  have e2 : bAnd .u8 (t.reg 0) 15 = t.reg 0 % 16 := and8_15 hr
  have e3 : bShr .u8 (t.reg 0) 6 = t.reg 0 / 64 := shr8_6 _
  unfold rng at hr hs hl hw
  have hst := h.stp
  have e4 : bAnd .u16 t.row 1 = t.row % 2 := and16_1 (by omega)
  have t1 : Int.tmod (t.reg 0) 16 = t.reg 0 % 16 := Int.tmod_eq_emod_of_nonneg hr.1
  have t2 : Int.tmod (i64.wrap (Int.tdiv (t.reg 0) 16)) 2 = t.reg 0 / 16 % 2 := by
    rw [Int.tdiv_eq_ediv_of_nonneg hr.1, i64_in _ (by omega), Int.tmod_eq_emod_of_nonneg (by omega)]
  have vol : tVolume t = if t.reg 0 / 16 % 2 == 1 then t.reg 0 % 16 else t.level := by
    unfold tVolume
    rw [e1, e2]
    by_cases hv : t.reg 0 / 16 % 2 = 1
    · rw [hv]; rfl
    · have hv' : t.reg 0 / 16 % 2 = 0 := by omega
      rw [hv']; rfl
  have f0 : (emb t).Reg 0 = t.reg 0 := rfl
  have fk : (emb t).Kind = t.kind := rfl
  have fl : (emb t).Length = t.length := rfl
  have fs : (emb t).Step = t.step := rfl
  have fv : (emb t).Level = t.level := rfl
  have fr : (emb t).Row 0 = t.row % 2 := rfl
  unfold rOutS
  simp only [f0, fk, fl, fs, fv, fr, t1, t2]
  by_cases k2 : t.kind = 2
  · have c1 : (t.kind == 2) = true := by simpa using k2
    unfold tOut
    simp only [c1, ↓reduceIte]
    by_cases h16 : t.step < 16
    · have c2 : decide (t.step < 16) = true := by simpa using h16
      simp only [c2, ↓reduceIte]
      rw [i64_in _ (by omega), u8_in _ (by omega)]
    · have c2 : decide (t.step < 16) = false := by simpa using h16
      simp only [c2, ↓reduceIte, Bool.false_eq_true]
      rw [i64_in _ (by omega), u8_in _ (by omega)]
  · have c1 : (t.kind == 2) = false := by simpa using k2
    by_cases hz : 0 < t.length
    · have c5 : decide (t.length > 0) = true := by simpa using hz
      have c6 : (t.length == 0) = false := by simp; omega
      by_cases k3 : t.kind = 3
      · have c3 : (t.kind == 3) = true := by simpa using k3
        have c4 : (t.kind != 3) = false := by rw [k3]; rfl
        unfold tOut
        simp only [c1, c3, c4, c5, c6, e4, ↓reduceIte, Bool.false_eq_true]
        have c7 : (!(t.row % 2 == 0)) = (t.row % 2 != 0) := rfl
        rw [c7, vol]
      · have c3 : (t.kind == 3) = false := by simpa using k3
        simp only [c1, c3, c5, ↓reduceIte, Bool.false_eq_true]
        rw [out_pulse t (by have := h.kind; omega) hz, emb_mute h k3, e3, ← hd, vol]
        have hs8 := h.stp8 k2
        have hb := str_bit ⟨d.toNat, by omega⟩ ⟨t.step.toNat, by omega⟩
        simp only at hb
        rw [Int.toNat_of_nonneg (by omega), Int.toNat_of_nonneg (by omega)] at hb
        rw [hb]
        cases tMute t <;> cases dbit d t.step <;> simp
    · have c5 : decide (t.length > 0) = false := by simpa using hz
      have c6 : (t.length == 0) = true := by simp; omega
      unfold tOut
      simp only [c1, c5, c6, ↓reduceIte, Bool.false_eq_true]
      split <;> rfl
theorem emb_out {t : Tone} (h : Inv t) : rOut (emb t) = tOut t := by
  have hr := h.ok.reg 0
  unfold rng at hr
  have f0 : (emb t).Reg 0 = t.reg 0 := rfl
  have H := emb_outS h _ rfl
  unfold rOut
  rw [f0]
  obtain e | e | e | e : t.reg 0 / 64 = 0 ∨ t.reg 0 / 64 = 1 ∨ t.reg 0 / 64 = 2 ∨ t.reg 0 / 64 = 3 := by omega
  all_goals (rw [e] at H ⊢; exact H)
theorem tOut_rng {t : Tone} (h : Inv t) : 0 ≤ tOut t ∧ tOut t < 256 := tOut_w t h.ok
theorem length_alike (b : Int) (hb : 0 ≤ b ∧ b < 256) : rLength (i64.wrap (Int.tdiv b 8)) = lengthsT (Int.toNat (bShr .u8 b 3)) := by
  rw [Int.tdiv_eq_ediv_of_nonneg hb.1, i64_in _ (by omega), shr8_3]
  have : ∀ m : Fin 32, rLength (m.val : Int) = lengthsT (m.val : Int).toNat := by decide +kernel
  have := this ⟨(b / 8).toNat, by omega⟩
  simp only at this
  rwa [Int.toNat_of_nonneg (by omega)] at this
theorem slow_alike (n : Int) (hn : 0 ≤ n ∧ n < 16) : rSlow n = noisesT n.toNat - 1 ∧ 0 < noisesT n.toNat ∧ noisesT n.toNat < 65536 := by
  have : ∀ m : Fin 16, rSlow (m.val : Int) = noisesT (m.val : Int).toNat - 1 ∧ 0 < noisesT (m.val : Int).toNat ∧ noisesT (m.val : Int).toNat < 65536 := by decide +kernel
  have := this ⟨n.toNat, by omega⟩
  simp only at this
  rwa [Int.toNat_of_nonneg hn.1] at this
theorem emb_put {t : Tone} (h : Inv t) (reg b : Int) (hreg : 0 ≤ reg ∧ reg < 256) (hb : 0 ≤ b ∧ b < 256) : rPut (emb t) reg b = emb (tPut t reg b) := by
  have hp := h.ok.period
  have hr2 := h.ok.reg 2
  unfold rng at hp hr2
  have fk : (emb t).Kind = t.kind := rfl
  have fo : (emb t).On = t.on := rfl
  have fp : (emb t).Period = t.period := rfl
  have w1 : i64.wrap reg = reg := i64_in _ (by omega)
  unfold rPut tPut
  rw [w1, length_alike b hb]
  simp only [fk, fo, fp]
  by_cases h4 : 3 < reg
  · have c1 : decide (reg > 3) = true := by simpa using h4
    have c2 : decide (reg ≥ 4) = true := by simp; omega
    simp only [c1, c2, ↓reduceIte]; rfl
  · have c1 : decide (reg > 3) = false := by simpa using h4
    have c2 : decide (reg ≥ 4) = false := by simp; omega
    simp only [c1, c2, ↓reduceIte, Bool.false_eq_true]
    have q1 : i64.wrap (i64.wrap (Int.tdiv t.period 256) * 256) = t.period / 256 * 256 := by
      rw [Int.tdiv_eq_ediv_of_nonneg hp.1, i64_in (t.period / 256) (by omega), i64_in _ (by omega)]
    have q2 : i64.wrap (t.period / 256 * 256 + b) = t.period / 256 * 256 + b := i64_in _ (by omega)
    have q3 : Int.tmod b 8 = b % 8 := Int.tmod_eq_emod_of_nonneg hb.1
    have q4 : i64.wrap (b % 8 * 256) = b % 8 * 256 := i64_in _ (by omega)
    have q5 : Int.tmod t.period 256 = t.period % 256 := Int.tmod_eq_emod_of_nonneg hp.1
    have q6 : i64.wrap (t.period % 256 + b % 8 * 256) = t.period % 256 + b % 8 * 256 := i64_in _ (by omega)
    have p2 := put2_eq t.period b (by omega) hb
    have p3 := put3_eq t.period b (by omega) hb
    simp only [q1, q2, q3, q4, q5, q6]
    have other : t.kind = 3 → ∀ v, v = t.reg 2 → rSlow (Int.tmod v 16) = t.period := by
      rintro k3 v rfl
      rw [Int.tmod_eq_emod_of_nonneg hr2.1, (slow_alike _ (by omega)).1, h.noi k3]
    have e3 : reg = 0 ∨ reg = 1 ∨ reg = 2 ∨ reg = 3 := by omega
    rcases e3 with rfl | rfl | rfl | rfl
    · by_cases k3 : t.kind = 3
      · have c3 : (t.kind == 3) = true := by simpa using k3
        simp only [c3, ↓reduceIte, show ((0 : Int) == 1) = false from rfl, show ((0 : Int) == 2) = false from rfl, show ((0 : Int) == 3) = false from rfl, Bool.false_eq_true]
        rw [other k3 (upd (emb t).Reg (Int.toNat 0) b 2) rfl]; rfl
      · have c3 : (t.kind == 3) = false := by simpa using k3
        simp only [c3, ↓reduceIte, show ((0 : Int) == 1) = false from rfl, show ((0 : Int) == 2) = false from rfl, show ((0 : Int) == 3) = false from rfl, Bool.false_eq_true]; rfl
    · by_cases k3 : t.kind = 3
      · have c3 : (t.kind == 3) = true := by simpa using k3
        simp only [c3, ↓reduceIte, show ((1 : Int) == 1) = true from rfl, show ((1 : Int) == 2) = false from rfl, show ((1 : Int) == 3) = false from rfl, Bool.false_eq_true]
        rw [other k3 (upd (emb t).Reg (Int.toNat 1) b 2) rfl]; rfl
      · have c3 : (t.kind == 3) = false := by simpa using k3
        simp only [c3, ↓reduceIte, show ((1 : Int) == 1) = true from rfl, show ((1 : Int) == 2) = false from rfl, show ((1 : Int) == 3) = false from rfl, Bool.false_eq_true]; rfl
    · by_cases k3 : t.kind = 3
      · have c3 : (t.kind == 3) = true := by simpa using k3
        simp only [c3, ↓reduceIte, show ((2 : Int) == 1) = false from rfl, show ((2 : Int) == 2) = true from rfl, show ((2 : Int) == 3) = false from rfl, Bool.false_eq_true]
        have hv : (upd (emb t).Reg (Int.toNat 2) b) 2 = b := rfl
        have hsl := slow_alike (b % 16) (by omega)
        have h15 : bAnd .u8 b 15 = b % 16 := and8_15 ⟨hb.1, hb.2⟩
        rw [hv, Int.tmod_eq_emod_of_nonneg hb.1, hsl.1, h15, u16_in _ (by omega)]; rfl
      · have c3 : (t.kind == 3) = false := by simpa using k3
        simp only [c3, ↓reduceIte, show ((2 : Int) == 1) = false from rfl, show ((2 : Int) == 2) = true from rfl, show ((2 : Int) == 3) = false from rfl, Bool.false_eq_true]
        rw [p2]; rfl
    · simp only [↓reduceIte, show ((3 : Int) == 1) = false from rfl, show ((3 : Int) == 2) = false from rfl, show ((3 : Int) == 3) = true from rfl, Bool.false_eq_true]
      unfold tHigh
      simp only [p3]
      by_cases k3 : t.kind = 3
      · have c3 : (t.kind == 3) = true := by simpa using k3
        have c4 : (t.kind != 3) = false := by rw [k3]; rfl
        have c5 : decide (t.kind < 2) = false := by simp; omega
        have c6 : decide (t.kind ≤ 1) = false := by simp; omega
        simp only [c3, c4, c5, c6, ↓reduceIte, Bool.false_eq_true]
        rw [other k3 (upd (emb t).Reg (Int.toNat 3) b 2) rfl]
        cases ho : t.on <;> simp only [↓reduceIte, Bool.false_eq_true] <;> rfl
      · have c3 : (t.kind == 3) = false := by simpa using k3
        have c4 : (t.kind != 3) = true := by simpa using k3
        have c7 : decide (t.kind < 2) = decide (t.kind ≤ 1) := by
          by_cases hk : t.kind < 2
          · have a1 : decide (t.kind < 2) = true := by simpa using hk
            have a2 : decide (t.kind ≤ 1) = true := by simp; omega
            rw [a1, a2]
          · have a1 : decide (t.kind < 2) = false := by simpa using hk
            have a2 : decide (t.kind ≤ 1) = false := by simp; omega
            rw [a1, a2]
        simp only [c3, c4, c7, ↓reduceIte, Bool.false_eq_true]
        cases ho : t.on <;> cases hk : decide (t.kind ≤ 1) <;> simp only [↓reduceIte, Bool.false_eq_true] <;> rfl
end Go.Proofs.YtgpcfjokmonlgaaDoor
namespace Go.Proofs.YtgpcfjokmonlgaaDoor
open Go VX IntWalk
open Go.IntKind (i64 u8 u16)
set_option maxRecDepth 100000
set_option linter.unusedSimpArgs false
set_option linter.unusedVariables false
theorem inv_enable {t : Tone} (h : Inv t) (on : Bool) : Inv (tEnable t on) := by
  have hok := tEnable_w t on h.ok
  have e : (tEnable t on).kind = t.kind ∧ (tEnable t on).reg = t.reg ∧ (tEnable t on).period = t.period ∧ (tEnable t on).step = t.step ∧ (tEnable t on).row = t.row := by
    unfold tEnable; split <;> exact ⟨rfl, rfl, rfl, rfl, rfl⟩
  obtain ⟨e1, e2, e3, e4, e5⟩ := e
  exact ⟨hok, by rw [e1]; exact h.kind, by rw [e1, e3]; exact h.per, by rw [e1, e2, e3]; exact h.noi, by rw [e4]; exact h.stp, by rw [e1, e4]; exact h.stp8, by rw [e5]; exact h.row⟩
theorem inv_quarter {t : Tone} (h : Inv t) : Inv (tQuarter t) := by
  have hok := tQuarter_w t h.ok
  have e : (tQuarter t).kind = t.kind ∧ (tQuarter t).reg = t.reg ∧ (tQuarter t).period = t.period ∧ (tQuarter t).step = t.step ∧ (tQuarter t).row = t.row := by
    unfold tQuarter; (repeat' split) <;> exact ⟨rfl, rfl, rfl, rfl, rfl⟩
  obtain ⟨e1, e2, e3, e4, e5⟩ := e
  exact ⟨hok, by rw [e1]; exact h.kind, by rw [e1, e3]; exact h.per, by rw [e1, e2, e3]; exact h.noi, by rw [e4]; exact h.stp, by rw [e1, e4]; exact h.stp8, by rw [e5]; exact h.row⟩
theorem mute_target {t : Tone} (h : (!(tMute t)) = true) : tTarget t ≤ 2047 := by
  unfold tMute at h
  split at h
  · simp at h
  · simpa using h
theorem kind_le {t : Tone} (h : ¬ decide (t.kind > 1) = true) : t.kind ≠ 3 := by
  intro hc
  rw [hc] at h
  exact h (by decide)
theorem ite_ind {P : Tone → Prop} {c : Prop} [Decidable c] {a b : Tone} (ha : c → P a) (hb : ¬ c → P b) : P (if c then a else b) := by
  by_cases h : c
  · rw [if_pos h]; exact ha h
  · rw [if_neg h]; exact hb h
structure RowP (s : Tone) : Prop where
  lt : s.row < 32768
def HalfP (t s : Tone) : Prop := s.kind = t.kind ∧ s.reg = t.reg ∧ s.step = t.step ∧ s.row = t.row ∧ (s.period = t.period ∨ (t.kind ≠ 3 ∧ s.period ≤ 2047))
theorem half_p (t : Tone) : HalfP t (tHalf t) := by
  unfold tHalf
  repeat' (refine ite_ind (P := HalfP t) (fun _ => ?_) (fun _ => ?_))
  all_goals first
    | exact ⟨rfl, rfl, rfl, rfl, .inl rfl⟩
    | exact ⟨rfl, rfl, rfl, rfl, .inr ⟨kind_le (by assumption), mute_target (by assumption)⟩⟩
theorem inv_half {t : Tone} (h : Inv t) : Inv (tHalf t) := by
  have hok := tHalf_w t h.ok
  have e := half_p t
  unfold HalfP at e
  obtain ⟨e1, e2, e4, e5, e3⟩ := e
  refine ⟨hok, by rw [e1]; exact h.kind, ?_, ?_, by rw [e4]; exact h.stp, by rw [e1, e4]; exact h.stp8, by rw [e5]; exact h.row⟩
  · rw [e1]
    intro hk
    have := h.per hk
    rcases e3 with e3 | ⟨_, e3⟩ <;> omega
  · rw [e1, e2]
    intro hk
    rcases e3 with e3 | ⟨e3, _⟩
    · rw [e3]; exact h.noi hk
    · exact absurd hk e3
theorem inv_clock {t : Tone} (h : Inv t) : Inv (tClock t) := by
  have hok := tClock_w t h.ok
  have hs := h.ok.step
  have hw := h.ok.row
  unfold rng at hs hw
  have hst := h.stp
  have hrow := h.row
  have u2 : u8.wrap (t.step + 1) = t.step + 1 := u8_in _ (by omega)
  have q32 : Int.tmod (t.step + 1) 32 = (t.step + 1) % 32 := Int.tmod_eq_emod_of_nonneg (by omega)
  have q8 : Int.tmod (t.step + 1) 8 = (t.step + 1) % 8 := Int.tmod_eq_emod_of_nonneg (by omega)
  have e : (tClock t).kind = t.kind ∧ (tClock t).reg = t.reg ∧ (tClock t).period = t.period := by
    unfold tClock; (repeat' split) <;> exact ⟨rfl, rfl, rfl⟩
  have es : (tClock t).step = t.step ∨ (t.kind = 2 ∧ (tClock t).step = (t.step + 1) % 32) ∨ (tClock t).step = (t.step + 1) % 8 := by
    unfold tClock
    rw [u2, q32, q8]
    by_cases h0 : decide (t.timer > 0) = true
    · rw [if_pos h0]; exact .inl rfl
    · rw [if_neg h0]
      by_cases k2 : (t.kind == 2) = true
      · rw [if_pos k2]
        have k2' : t.kind = 2 := by simpa using k2
        (repeat' split) <;> first | exact .inl rfl | exact .inr (.inl ⟨k2', rfl⟩)
      · rw [if_neg k2]
        (repeat' split) <;> first | exact .inl rfl | exact .inr (.inr rfl)
  have er : (tClock t).row < 32768 := by
    obtain ⟨r, hr⟩ := Int.eq_ofNat_of_zero_le hw.1
    have hr32 : r < 32768 := by omega
    have r1 := row_eq 1 (.inl rfl) r hr32
    have r6 := row_eq 6 (.inr rfl) r hr32
    rw [show ((1 : Nat) : Int) = 1 from rfl] at r1
    rw [show ((6 : Nat) : Int) = 6 from rfl] at r6
    have l1 := stp_lt (tap := 1) hr32
    have l6 := stp_lt (tap := 6) hr32
    have k1 : ((stp 1 r : Nat) : Int) < 32768 := by omega
    have k6 : ((stp 6 r : Nat) : Int) < 32768 := by omega
    rw [← r1, ← hr] at k1
    rw [← r6, ← hr] at k6
    have hP : RowP (tClock t) := by
      unfold tClock
      repeat' (refine ite_ind (P := RowP) (fun _ => ?_) (fun _ => ?_))
      · exact ⟨hrow⟩
      · exact ⟨hrow⟩
      · exact ⟨hrow⟩
      · exact ⟨hrow⟩
      · exact ⟨k6⟩
      · exact ⟨k1⟩
      · exact ⟨hrow⟩
    exact hP.lt
  obtain ⟨e1, e2, e3⟩ := e
  refine ⟨hok, by rw [e1]; exact h.kind, by rw [e1, e3]; exact h.per, by rw [e1, e2, e3]; exact h.noi, ?_, ?_, er⟩
  · rcases es with es | ⟨_, es⟩ | es <;> omega
  · rw [e1]
    intro hk
    have := h.stp8 hk
    rcases es with es | ⟨hc, _⟩ | es
    · omega
    · exact absurd hc hk
    · omega
theorem inv_put {t : Tone} (h : Inv t) (reg b : Int) (hreg : 0 ≤ reg ∧ reg < 256) (hb : 0 ≤ b ∧ b < 256) : Inv (tPut t reg b) := by
  have hok := tPut_w t reg b h.ok hreg hb
  have hp := h.ok.period
  unfold rng at hp
  have w1 : i64.wrap reg = reg := i64_in _ (by omega)
  have p2 := put2_eq t.period b (by omega) hb
  have p3 := put3_eq t.period b (by omega) hb
  have u2 : ∀ k, upd t.reg k b 2 = if k = 2 then b else t.reg 2 := by
    intro k
    unfold upd
    by_cases hk : k = 2
    · subst hk; rfl
    · have : Nat.beq 2 k = false := by cases hc : Nat.beq 2 k with | false => rfl | true => exact absurd (Nat.eq_of_beq_eq_true hc).symm hk
      rw [this, if_neg hk]; rfl
  have hb16 : bAnd .u8 b 15 = b % 16 := and8_15 ⟨hb.1, hb.2⟩
  have hsl := slow_alike (b % 16) (by omega)
  have hn : u16.wrap ((noisesT (Int.toNat (b % 16))) - 1) = noisesT (b % 16).toNat - 1 := u16_in _ (by omega)
  by_cases h4 : 3 < reg
  · have : tPut t reg b = t := by
      unfold tPut
      rw [w1, if_pos (by simp; omega)]
    rw [this]; exact h
  · have e3 : reg = 0 ∨ reg = 1 ∨ reg = 2 ∨ reg = 3 := by omega
    have hk := h.kind
    have hs := h.stp
    have hs8 := h.stp8
    have hr := h.row
    rcases e3 with rfl | rfl | rfl | rfl
    · have e : tPut t 0 b = ({ t with reg := upd t.reg 0 b } : Tone) := rfl
      rw [e] at hok ⊢
      exact ⟨hok, hk, h.per, fun k3 => (h.noi k3), hs, hs8, hr⟩
    · have e : tPut t 1 b = ({ t with reg := upd t.reg 1 b, swept := true } : Tone) := rfl
      rw [e] at hok ⊢
      exact ⟨hok, hk, h.per, fun k3 => (h.noi k3), hs, hs8, hr⟩
    · by_cases k3 : t.kind = 3
      · have e : tPut t 2 b = ({ t with reg := upd t.reg 2 b, period := noisesT (b % 16).toNat - 1 } : Tone) := by
          unfold tPut
          rw [w1, hb16, hn, if_neg (by decide), if_neg (by decide), if_pos (by decide), if_pos (by simpa using k3)]; rfl
        rw [e] at hok ⊢
        exact ⟨hok, hk, fun hc => absurd k3 hc, fun _ => rfl, hs, hs8, hr⟩
      · have e : tPut t 2 b = ({ t with reg := upd t.reg 2 b, period := t.period / 256 * 256 + b } : Tone) := by
          unfold tPut
          rw [w1, p2, if_neg (by decide), if_neg (by decide), if_pos (by decide), if_neg (by simpa using k3)]; rfl
        rw [e] at hok ⊢
        have := h.per k3
        exact ⟨hok, hk, fun hc => by show t.period / 256 * 256 + b < 2048; omega, fun hc => absurd hc k3, hs, hs8, hr⟩
    · have e : tPut t 3 b = tHigh ({ t with reg := upd t.reg 3 b } : Tone) b := rfl
      rw [e] at hok ⊢
      have ek : (tHigh ({ t with reg := upd t.reg 3 b } : Tone) b).kind = t.kind ∧ (tHigh ({ t with reg := upd t.reg 3 b } : Tone) b).reg = upd t.reg 3 b ∧ (tHigh ({ t with reg := upd t.reg 3 b } : Tone) b).row = t.row ∧ ((tHigh ({ t with reg := upd t.reg 3 b } : Tone) b).step = t.step ∨ (tHigh ({ t with reg := upd t.reg 3 b } : Tone) b).step = 0) ∧ ((t.kind = 3 ∧ (tHigh ({ t with reg := upd t.reg 3 b } : Tone) b).period = t.period) ∨ (t.kind ≠ 3 ∧ (tHigh ({ t with reg := upd t.reg 3 b } : Tone) b).period = t.period % 256 + b % 8 * 256)) := by
        unfold tHigh
        simp only [p3]
        by_cases k3 : t.kind = 3
        · have c3 : (t.kind != 3) = false := by rw [k3]; rfl
          simp only [c3, Bool.false_eq_true, ↓reduceIte]
          (repeat' split) <;> first | exact ⟨rfl, rfl, rfl, .inr rfl, .inl ⟨k3, rfl⟩⟩ | exact ⟨rfl, rfl, rfl, .inl rfl, .inl ⟨k3, rfl⟩⟩
        · have c3 : (t.kind != 3) = true := by simpa using k3
          simp only [c3, ↓reduceIte]
          (repeat' split) <;> first | exact ⟨rfl, rfl, rfl, .inr rfl, .inr ⟨k3, rfl⟩⟩ | exact ⟨rfl, rfl, rfl, .inl rfl, .inr ⟨k3, rfl⟩⟩
      obtain ⟨e1, e2, e5, e4, ep⟩ := ek
      have hst0 := h.ok.step
      unfold rng at hst0
      refine ⟨hok, by rw [e1]; exact hk, ?_, ?_, ?_, ?_, by rw [e5]; exact hr⟩
      · rw [e1]
        intro hc
        rcases ep with ⟨k3, _⟩ | ⟨_, ep⟩
        · exact absurd k3 hc
        · rw [ep]; omega
      · rw [e1, e2]
        intro hc
        rcases ep with ⟨_, ep⟩ | ⟨k3, _⟩
        · rw [ep]; exact h.noi hc
        · exact absurd hc k3
      · rcases e4 with e4 | e4 <;> rw [e4] <;> omega
      · rw [e1]
        intro hc
        have := hs8 hc
        rcases e4 with e4 | e4 <;> rw [e4] <;> omega
theorem new_0 : rNew_0 = emb tNew_0 ∧ Inv tNew_0 := by
  have e1 : CH tNew_0.reg = rNew_0.Reg := by
    funext j
    rfl
  have e2 : rowF tNew_0.row = rNew_0.Row := by
    funext j
    rfl
  refine ⟨?_, ⟨tNew_0_w, by decide, fun _ => by decide, fun h => absurd h (by decide), by decide, fun _ => by decide, by decide⟩⟩
  unfold emb
  rw [e1, e2]
  rfl
theorem new_1 : rNew_1 = emb tNew_1 ∧ Inv tNew_1 := by
  have e1 : CH tNew_1.reg = rNew_1.Reg := by
    funext j
    rfl
  have e2 : rowF tNew_1.row = rNew_1.Row := by
    funext j
    rfl
  refine ⟨?_, ⟨tNew_1_w, by decide, fun _ => by decide, fun h => absurd h (by decide), by decide, fun _ => by decide, by decide⟩⟩
  unfold emb
  rw [e1, e2]
  rfl
theorem new_2 : rNew_2 = emb tNew_2 ∧ Inv tNew_2 := by
  have e1 : CH tNew_2.reg = rNew_2.Reg := by
    funext j
    rfl
  have e2 : rowF tNew_2.row = rNew_2.Row := by
    funext j
    rfl
  refine ⟨?_, ⟨tNew_2_w, by decide, fun _ => by decide, fun h => absurd h (by decide), by decide, fun _ => by decide, by decide⟩⟩
  unfold emb
  rw [e1, e2]
  rfl
theorem new_3 : rNew_3 = emb tNew_3 ∧ Inv tNew_3 := by
  have e1 : CH tNew_3.reg = rNew_3.Reg := by
    funext j
    rfl
  have e2 : rowF tNew_3.row = rNew_3.Row := by
    funext j
    rfl
  refine ⟨?_, ⟨tNew_3_w, by decide, fun _ => by decide, fun h => by decide, by decide, fun _ => by decide, by decide⟩⟩
  unfold emb
  rw [e1, e2]
  rfl
end Go.Proofs.YtgpcfjokmonlgaaDoor
namespace Go.Proofs.YtgpcfjokmonlgaaDoor
open Go VX
set_option linter.unusedVariables false
set_option linter.unusedSimpArgs false
set_option maxRecDepth 100000
def rsPut_0 (x : RSnd) (b : Int) : RSnd :=
  ({ x with Tones_0 := ({ (rPut x.Tones_0 0 b) with Reg := (stN 4 x.Tones_0.Reg ((rPut x.Tones_0 0 b).Reg)) } : RTone) } : RSnd)
theorem rsPut_0_ok (x : RSnd) (b : Int) (g0 : Good x.Tones_0) (g1 : Good x.Tones_1) (g2 : Good x.Tones_2) (g3 : Good x.Tones_3) (hb : 0 ≤ b ∧ b < 256) : FnSpec Tryd.prog 22 1001 [.pointer (some ⟨1000, 0, none⟩), .int .i64 16384, .int .i64 b] [(1000, RSnd.blk x)] (.tuple ⟨[]⟩) [(1000, RSnd.blk (rsPut_0 x b))] := by
  unfold rsPut_0
  exact fn_of_x hG hM Tryd.func22 (by kernel_rfl) (by kernel_rfl) 400 [.yes, .yes, .yes, .yes, .lit 0, .call [] [] 1000 (RTone.enc (rPut x.Tones_0 0 b)) [], .lit 0, .no, .no, .no, .no, .no, .no, .no, .no] (J T1 (J T1 (J T1 (J T1 (J (by decide : ((4 : Int) ≠ 0)) (J (Eq.refl (0 : Int)) (J (by decide : 0 < 4) (J (by decide : ((4 : Int) ≠ 0)) (J (rPut_ok x.Tones_0 0 b (by decide) hb g0) (J (Eq.refl (0 : Int)) (J (by decide : 0 < 4) (J T0 (J T0 (J T0 (J T0 (J T0 (J T0 (J T0 (J T0 trivial))))))))))))))))))) (by kernel_rfl)
def rsPut_1 (x : RSnd) (b : Int) : RSnd :=
  ({ x with Tones_0 := ({ (rPut x.Tones_0 1 b) with Reg := (stN 4 x.Tones_0.Reg ((rPut x.Tones_0 1 b).Reg)) } : RTone) } : RSnd)
theorem rsPut_1_ok (x : RSnd) (b : Int) (g0 : Good x.Tones_0) (g1 : Good x.Tones_1) (g2 : Good x.Tones_2) (g3 : Good x.Tones_3) (hb : 0 ≤ b ∧ b < 256) : FnSpec Tryd.prog 22 1001 [.pointer (some ⟨1000, 0, none⟩), .int .i64 16385, .int .i64 b] [(1000, RSnd.blk x)] (.tuple ⟨[]⟩) [(1000, RSnd.blk (rsPut_1 x b))] := by
  unfold rsPut_1
  exact fn_of_x hG hM Tryd.func22 (by kernel_rfl) (by kernel_rfl) 400 [.yes, .yes, .yes, .yes, .lit 0, .call [] [] 1000 (RTone.enc (rPut x.Tones_0 1 b)) [], .lit 0, .no, .no, .no, .no, .no, .no, .no, .no] (J T1 (J T1 (J T1 (J T1 (J (by decide : ((4 : Int) ≠ 0)) (J (Eq.refl (0 : Int)) (J (by decide : 0 < 4) (J (by decide : ((4 : Int) ≠ 0)) (J (rPut_ok x.Tones_0 1 b (by decide) hb g0) (J (Eq.refl (0 : Int)) (J (by decide : 0 < 4) (J T0 (J T0 (J T0 (J T0 (J T0 (J T0 (J T0 (J T0 trivial))))))))))))))))))) (by kernel_rfl)
def rsPut_2 (x : RSnd) (b : Int) : RSnd :=
  ({ x with Tones_0 := ({ (rPut x.Tones_0 2 b) with Reg := (stN 4 x.Tones_0.Reg ((rPut x.Tones_0 2 b).Reg)) } : RTone) } : RSnd)
theorem rsPut_2_ok (x : RSnd) (b : Int) (g0 : Good x.Tones_0) (g1 : Good x.Tones_1) (g2 : Good x.Tones_2) (g3 : Good x.Tones_3) (hb : 0 ≤ b ∧ b < 256) : FnSpec Tryd.prog 22 1001 [.pointer (some ⟨1000, 0, none⟩), .int .i64 16386, .int .i64 b] [(1000, RSnd.blk x)] (.tuple ⟨[]⟩) [(1000, RSnd.blk (rsPut_2 x b))] := by
  unfold rsPut_2
  exact fn_of_x hG hM Tryd.func22 (by kernel_rfl) (by kernel_rfl) 400 [.yes, .yes, .yes, .yes, .lit 0, .call [] [] 1000 (RTone.enc (rPut x.Tones_0 2 b)) [], .lit 0, .no, .no, .no, .no, .no, .no, .no, .no] (J T1 (J T1 (J T1 (J T1 (J (by decide : ((4 : Int) ≠ 0)) (J (Eq.refl (0 : Int)) (J (by decide : 0 < 4) (J (by decide : ((4 : Int) ≠ 0)) (J (rPut_ok x.Tones_0 2 b (by decide) hb g0) (J (Eq.refl (0 : Int)) (J (by decide : 0 < 4) (J T0 (J T0 (J T0 (J T0 (J T0 (J T0 (J T0 (J T0 trivial))))))))))))))))))) (by kernel_rfl)
def rsPut_3 (x : RSnd) (b : Int) : RSnd :=
  ({ x with Tones_0 := ({ (rPut x.Tones_0 3 b) with Reg := (stN 4 x.Tones_0.Reg ((rPut x.Tones_0 3 b).Reg)) } : RTone) } : RSnd)
theorem rsPut_3_ok (x : RSnd) (b : Int) (g0 : Good x.Tones_0) (g1 : Good x.Tones_1) (g2 : Good x.Tones_2) (g3 : Good x.Tones_3) (hb : 0 ≤ b ∧ b < 256) : FnSpec Tryd.prog 22 1001 [.pointer (some ⟨1000, 0, none⟩), .int .i64 16387, .int .i64 b] [(1000, RSnd.blk x)] (.tuple ⟨[]⟩) [(1000, RSnd.blk (rsPut_3 x b))] := by
  unfold rsPut_3
  exact fn_of_x hG hM Tryd.func22 (by kernel_rfl) (by kernel_rfl) 400 [.yes, .yes, .yes, .yes, .lit 0, .call [] [] 1000 (RTone.enc (rPut x.Tones_0 3 b)) [], .lit 0, .no, .no, .no, .no, .no, .no, .no, .no] (J T1 (J T1 (J T1 (J T1 (J (by decide : ((4 : Int) ≠ 0)) (J (Eq.refl (0 : Int)) (J (by decide : 0 < 4) (J (by decide : ((4 : Int) ≠ 0)) (J (rPut_ok x.Tones_0 3 b (by decide) hb g0) (J (Eq.refl (0 : Int)) (J (by decide : 0 < 4) (J T0 (J T0 (J T0 (J T0 (J T0 (J T0 (J T0 (J T0 trivial))))))))))))))))))) (by kernel_rfl)
def rsPut_4 (x : RSnd) (b : Int) : RSnd :=
  ({ x with Tones_1 := ({ (rPut x.Tones_1 0 b) with Reg := (stN 4 x.Tones_1.Reg ((rPut x.Tones_1 0 b).Reg)) } : RTone) } : RSnd)
theorem rsPut_4_ok (x : RSnd) (b : Int) (g0 : Good x.Tones_0) (g1 : Good x.Tones_1) (g2 : Good x.Tones_2) (g3 : Good x.Tones_3) (hb : 0 ≤ b ∧ b < 256) : FnSpec Tryd.prog 22 1001 [.pointer (some ⟨1000, 0, none⟩), .int .i64 16388, .int .i64 b] [(1000, RSnd.blk x)] (.tuple ⟨[]⟩) [(1000, RSnd.blk (rsPut_4 x b))] := by
  unfold rsPut_4
  exact fn_of_x hG hM Tryd.func22 (by kernel_rfl) (by kernel_rfl) 400 [.yes, .yes, .yes, .yes, .lit 1, .call [] [] 1000 (RTone.enc (rPut x.Tones_1 0 b)) [], .lit 1, .no, .no, .no, .no, .no, .no, .no, .no] (J T1 (J T1 (J T1 (J T1 (J (by decide : ((4 : Int) ≠ 0)) (J (Eq.refl (1 : Int)) (J (by decide : 1 < 4) (J (by decide : ((4 : Int) ≠ 0)) (J (rPut_ok x.Tones_1 0 b (by decide) hb g1) (J (Eq.refl (1 : Int)) (J (by decide : 1 < 4) (J T0 (J T0 (J T0 (J T0 (J T0 (J T0 (J T0 (J T0 trivial))))))))))))))))))) (by kernel_rfl)
def rsPut_5 (x : RSnd) (b : Int) : RSnd :=
  ({ x with Tones_1 := ({ (rPut x.Tones_1 1 b) with Reg := (stN 4 x.Tones_1.Reg ((rPut x.Tones_1 1 b).Reg)) } : RTone) } : RSnd)
theorem rsPut_5_ok (x : RSnd) (b : Int) (g0 : Good x.Tones_0) (g1 : Good x.Tones_1) (g2 : Good x.Tones_2) (g3 : Good x.Tones_3) (hb : 0 ≤ b ∧ b < 256) : FnSpec Tryd.prog 22 1001 [.pointer (some ⟨1000, 0, none⟩), .int .i64 16389, .int .i64 b] [(1000, RSnd.blk x)] (.tuple ⟨[]⟩) [(1000, RSnd.blk (rsPut_5 x b))] := by
  unfold rsPut_5
  exact fn_of_x hG hM Tryd.func22 (by kernel_rfl) (by kernel_rfl) 400 [.yes, .yes, .yes, .yes, .lit 1, .call [] [] 1000 (RTone.enc (rPut x.Tones_1 1 b)) [], .lit 1, .no, .no, .no, .no, .no, .no, .no, .no] (J T1 (J T1 (J T1 (J T1 (J (by decide : ((4 : Int) ≠ 0)) (J (Eq.refl (1 : Int)) (J (by decide : 1 < 4) (J (by decide : ((4 : Int) ≠ 0)) (J (rPut_ok x.Tones_1 1 b (by decide) hb g1) (J (Eq.refl (1 : Int)) (J (by decide : 1 < 4) (J T0 (J T0 (J T0 (J T0 (J T0 (J T0 (J T0 (J T0 trivial))))))))))))))))))) (by kernel_rfl)
def rsPut_6 (x : RSnd) (b : Int) : RSnd :=
  ({ x with Tones_1 := ({ (rPut x.Tones_1 2 b) with Reg := (stN 4 x.Tones_1.Reg ((rPut x.Tones_1 2 b).Reg)) } : RTone) } : RSnd)
theorem rsPut_6_ok (x : RSnd) (b : Int) (g0 : Good x.Tones_0) (g1 : Good x.Tones_1) (g2 : Good x.Tones_2) (g3 : Good x.Tones_3) (hb : 0 ≤ b ∧ b < 256) : FnSpec Tryd.prog 22 1001 [.pointer (some ⟨1000, 0, none⟩), .int .i64 16390, .int .i64 b] [(1000, RSnd.blk x)] (.tuple ⟨[]⟩) [(1000, RSnd.blk (rsPut_6 x b))] := by
  unfold rsPut_6
  exact fn_of_x hG hM Tryd.func22 (by kernel_rfl) (by kernel_rfl) 400 [.yes, .yes, .yes, .yes, .lit 1, .call [] [] 1000 (RTone.enc (rPut x.Tones_1 2 b)) [], .lit 1, .no, .no, .no, .no, .no, .no, .no, .no] (J T1 (J T1 (J T1 (J T1 (J (by decide : ((4 : Int) ≠ 0)) (J (Eq.refl (1 : Int)) (J (by decide : 1 < 4) (J (by decide : ((4 : Int) ≠ 0)) (J (rPut_ok x.Tones_1 2 b (by decide) hb g1) (J (Eq.refl (1 : Int)) (J (by decide : 1 < 4) (J T0 (J T0 (J T0 (J T0 (J T0 (J T0 (J T0 (J T0 trivial))))))))))))))))))) (by kernel_rfl)
def rsPut_7 (x : RSnd) (b : Int) : RSnd :=
  ({ x with Tones_1 := ({ (rPut x.Tones_1 3 b) with Reg := (stN 4 x.Tones_1.Reg ((rPut x.Tones_1 3 b).Reg)) } : RTone) } : RSnd)
theorem rsPut_7_ok (x : RSnd) (b : Int) (g0 : Good x.Tones_0) (g1 : Good x.Tones_1) (g2 : Good x.Tones_2) (g3 : Good x.Tones_3) (hb : 0 ≤ b ∧ b < 256) : FnSpec Tryd.prog 22 1001 [.pointer (some ⟨1000, 0, none⟩), .int .i64 16391, .int .i64 b] [(1000, RSnd.blk x)] (.tuple ⟨[]⟩) [(1000, RSnd.blk (rsPut_7 x b))] := by
  unfold rsPut_7
  exact fn_of_x hG hM Tryd.func22 (by kernel_rfl) (by kernel_rfl) 400 [.yes, .yes, .yes, .yes, .lit 1, .call [] [] 1000 (RTone.enc (rPut x.Tones_1 3 b)) [], .lit 1, .no, .no, .no, .no, .no, .no, .no, .no] (J T1 (J T1 (J T1 (J T1 (J (by decide : ((4 : Int) ≠ 0)) (J (Eq.refl (1 : Int)) (J (by decide : 1 < 4) (J (by decide : ((4 : Int) ≠ 0)) (J (rPut_ok x.Tones_1 3 b (by decide) hb g1) (J (Eq.refl (1 : Int)) (J (by decide : 1 < 4) (J T0 (J T0 (J T0 (J T0 (J T0 (J T0 (J T0 (J T0 trivial))))))))))))))))))) (by kernel_rfl)
def rsPut_8 (x : RSnd) (b : Int) : RSnd :=
  ({ x with Tones_2 := ({ (rPut x.Tones_2 0 b) with Reg := (stN 4 x.Tones_2.Reg ((rPut x.Tones_2 0 b).Reg)) } : RTone) } : RSnd)
theorem rsPut_8_ok (x : RSnd) (b : Int) (g0 : Good x.Tones_0) (g1 : Good x.Tones_1) (g2 : Good x.Tones_2) (g3 : Good x.Tones_3) (hb : 0 ≤ b ∧ b < 256) : FnSpec Tryd.prog 22 1001 [.pointer (some ⟨1000, 0, none⟩), .int .i64 16392, .int .i64 b] [(1000, RSnd.blk x)] (.tuple ⟨[]⟩) [(1000, RSnd.blk (rsPut_8 x b))] := by
  unfold rsPut_8
  exact fn_of_x hG hM Tryd.func22 (by kernel_rfl) (by kernel_rfl) 400 [.yes, .yes, .yes, .yes, .lit 2, .call [] [] 1000 (RTone.enc (rPut x.Tones_2 0 b)) [], .lit 2, .no, .no, .no, .no, .no, .no, .no, .no] (J T1 (J T1 (J T1 (J T1 (J (by decide : ((4 : Int) ≠ 0)) (J (Eq.refl (2 : Int)) (J (by decide : 2 < 4) (J (by decide : ((4 : Int) ≠ 0)) (J (rPut_ok x.Tones_2 0 b (by decide) hb g2) (J (Eq.refl (2 : Int)) (J (by decide : 2 < 4) (J T0 (J T0 (J T0 (J T0 (J T0 (J T0 (J T0 (J T0 trivial))))))))))))))))))) (by kernel_rfl)
def rsPut_9 (x : RSnd) (b : Int) : RSnd :=
  ({ x with Tones_2 := ({ (rPut x.Tones_2 1 b) with Reg := (stN 4 x.Tones_2.Reg ((rPut x.Tones_2 1 b).Reg)) } : RTone) } : RSnd)
theorem rsPut_9_ok (x : RSnd) (b : Int) (g0 : Good x.Tones_0) (g1 : Good x.Tones_1) (g2 : Good x.Tones_2) (g3 : Good x.Tones_3) (hb : 0 ≤ b ∧ b < 256) : FnSpec Tryd.prog 22 1001 [.pointer (some ⟨1000, 0, none⟩), .int .i64 16393, .int .i64 b] [(1000, RSnd.blk x)] (.tuple ⟨[]⟩) [(1000, RSnd.blk (rsPut_9 x b))] := by
  unfold rsPut_9
  exact fn_of_x hG hM Tryd.func22 (by kernel_rfl) (by kernel_rfl) 400 [.yes, .yes, .yes, .yes, .lit 2, .call [] [] 1000 (RTone.enc (rPut x.Tones_2 1 b)) [], .lit 2, .no, .no, .no, .no, .no, .no, .no, .no] (J T1 (J T1 (J T1 (J T1 (J (by decide : ((4 : Int) ≠ 0)) (J (Eq.refl (2 : Int)) (J (by decide : 2 < 4) (J (by decide : ((4 : Int) ≠ 0)) (J (rPut_ok x.Tones_2 1 b (by decide) hb g2) (J (Eq.refl (2 : Int)) (J (by decide : 2 < 4) (J T0 (J T0 (J T0 (J T0 (J T0 (J T0 (J T0 (J T0 trivial))))))))))))))))))) (by kernel_rfl)
def rsPut_10 (x : RSnd) (b : Int) : RSnd :=
  ({ x with Tones_2 := ({ (rPut x.Tones_2 2 b) with Reg := (stN 4 x.Tones_2.Reg ((rPut x.Tones_2 2 b).Reg)) } : RTone) } : RSnd)
theorem rsPut_10_ok (x : RSnd) (b : Int) (g0 : Good x.Tones_0) (g1 : Good x.Tones_1) (g2 : Good x.Tones_2) (g3 : Good x.Tones_3) (hb : 0 ≤ b ∧ b < 256) : FnSpec Tryd.prog 22 1001 [.pointer (some ⟨1000, 0, none⟩), .int .i64 16394, .int .i64 b] [(1000, RSnd.blk x)] (.tuple ⟨[]⟩) [(1000, RSnd.blk (rsPut_10 x b))] := by
  unfold rsPut_10
  exact fn_of_x hG hM Tryd.func22 (by kernel_rfl) (by kernel_rfl) 400 [.yes, .yes, .yes, .yes, .lit 2, .call [] [] 1000 (RTone.enc (rPut x.Tones_2 2 b)) [], .lit 2, .no, .no, .no, .no, .no, .no, .no, .no] (J T1 (J T1 (J T1 (J T1 (J (by decide : ((4 : Int) ≠ 0)) (J (Eq.refl (2 : Int)) (J (by decide : 2 < 4) (J (by decide : ((4 : Int) ≠ 0)) (J (rPut_ok x.Tones_2 2 b (by decide) hb g2) (J (Eq.refl (2 : Int)) (J (by decide : 2 < 4) (J T0 (J T0 (J T0 (J T0 (J T0 (J T0 (J T0 (J T0 trivial))))))))))))))))))) (by kernel_rfl)
def rsPut_11 (x : RSnd) (b : Int) : RSnd :=
  ({ x with Tones_2 := ({ (rPut x.Tones_2 3 b) with Reg := (stN 4 x.Tones_2.Reg ((rPut x.Tones_2 3 b).Reg)) } : RTone) } : RSnd)
theorem rsPut_11_ok (x : RSnd) (b : Int) (g0 : Good x.Tones_0) (g1 : Good x.Tones_1) (g2 : Good x.Tones_2) (g3 : Good x.Tones_3) (hb : 0 ≤ b ∧ b < 256) : FnSpec Tryd.prog 22 1001 [.pointer (some ⟨1000, 0, none⟩), .int .i64 16395, .int .i64 b] [(1000, RSnd.blk x)] (.tuple ⟨[]⟩) [(1000, RSnd.blk (rsPut_11 x b))] := by
  unfold rsPut_11
  exact fn_of_x hG hM Tryd.func22 (by kernel_rfl) (by kernel_rfl) 400 [.yes, .yes, .yes, .yes, .lit 2, .call [] [] 1000 (RTone.enc (rPut x.Tones_2 3 b)) [], .lit 2, .no, .no, .no, .no, .no, .no, .no, .no] (J T1 (J T1 (J T1 (J T1 (J (by decide : ((4 : Int) ≠ 0)) (J (Eq.refl (2 : Int)) (J (by decide : 2 < 4) (J (by decide : ((4 : Int) ≠ 0)) (J (rPut_ok x.Tones_2 3 b (by decide) hb g2) (J (Eq.refl (2 : Int)) (J (by decide : 2 < 4) (J T0 (J T0 (J T0 (J T0 (J T0 (J T0 (J T0 (J T0 trivial))))))))))))))))))) (by kernel_rfl)
def rsPut_12 (x : RSnd) (b : Int) : RSnd :=
  ({ x with Tones_3 := ({ (rPut x.Tones_3 0 b) with Reg := (stN 4 x.Tones_3.Reg ((rPut x.Tones_3 0 b).Reg)) } : RTone) } : RSnd)
theorem rsPut_12_ok (x : RSnd) (b : Int) (g0 : Good x.Tones_0) (g1 : Good x.Tones_1) (g2 : Good x.Tones_2) (g3 : Good x.Tones_3) (hb : 0 ≤ b ∧ b < 256) : FnSpec Tryd.prog 22 1001 [.pointer (some ⟨1000, 0, none⟩), .int .i64 16396, .int .i64 b] [(1000, RSnd.blk x)] (.tuple ⟨[]⟩) [(1000, RSnd.blk (rsPut_12 x b))] := by
  unfold rsPut_12
  exact fn_of_x hG hM Tryd.func22 (by kernel_rfl) (by kernel_rfl) 400 [.yes, .yes, .yes, .yes, .lit 3, .call [] [] 1000 (RTone.enc (rPut x.Tones_3 0 b)) [], .lit 3, .no, .no, .no, .no, .no, .no, .no, .no] (J T1 (J T1 (J T1 (J T1 (J (by decide : ((4 : Int) ≠ 0)) (J (Eq.refl (3 : Int)) (J (by decide : 3 < 4) (J (by decide : ((4 : Int) ≠ 0)) (J (rPut_ok x.Tones_3 0 b (by decide) hb g3) (J (Eq.refl (3 : Int)) (J (by decide : 3 < 4) (J T0 (J T0 (J T0 (J T0 (J T0 (J T0 (J T0 (J T0 trivial))))))))))))))))))) (by kernel_rfl)
def rsPut_13 (x : RSnd) (b : Int) : RSnd :=
  ({ x with Tones_3 := ({ (rPut x.Tones_3 1 b) with Reg := (stN 4 x.Tones_3.Reg ((rPut x.Tones_3 1 b).Reg)) } : RTone) } : RSnd)
theorem rsPut_13_ok (x : RSnd) (b : Int) (g0 : Good x.Tones_0) (g1 : Good x.Tones_1) (g2 : Good x.Tones_2) (g3 : Good x.Tones_3) (hb : 0 ≤ b ∧ b < 256) : FnSpec Tryd.prog 22 1001 [.pointer (some ⟨1000, 0, none⟩), .int .i64 16397, .int .i64 b] [(1000, RSnd.blk x)] (.tuple ⟨[]⟩) [(1000, RSnd.blk (rsPut_13 x b))] := by
  unfold rsPut_13
  exact fn_of_x hG hM Tryd.func22 (by kernel_rfl) (by kernel_rfl) 400 [.yes, .yes, .yes, .yes, .lit 3, .call [] [] 1000 (RTone.enc (rPut x.Tones_3 1 b)) [], .lit 3, .no, .no, .no, .no, .no, .no, .no, .no] (J T1 (J T1 (J T1 (J T1 (J (by decide : ((4 : Int) ≠ 0)) (J (Eq.refl (3 : Int)) (J (by decide : 3 < 4) (J (by decide : ((4 : Int) ≠ 0)) (J (rPut_ok x.Tones_3 1 b (by decide) hb g3) (J (Eq.refl (3 : Int)) (J (by decide : 3 < 4) (J T0 (J T0 (J T0 (J T0 (J T0 (J T0 (J T0 (J T0 trivial))))))))))))))))))) (by kernel_rfl)
def rsPut_14 (x : RSnd) (b : Int) : RSnd :=
  ({ x with Tones_3 := ({ (rPut x.Tones_3 2 b) with Reg := (stN 4 x.Tones_3.Reg ((rPut x.Tones_3 2 b).Reg)) } : RTone) } : RSnd)
theorem rsPut_14_ok (x : RSnd) (b : Int) (g0 : Good x.Tones_0) (g1 : Good x.Tones_1) (g2 : Good x.Tones_2) (g3 : Good x.Tones_3) (hb : 0 ≤ b ∧ b < 256) : FnSpec Tryd.prog 22 1001 [.pointer (some ⟨1000, 0, none⟩), .int .i64 16398, .int .i64 b] [(1000, RSnd.blk x)] (.tuple ⟨[]⟩) [(1000, RSnd.blk (rsPut_14 x b))] := by
  unfold rsPut_14
  exact fn_of_x hG hM Tryd.func22 (by kernel_rfl) (by kernel_rfl) 400 [.yes, .yes, .yes, .yes, .lit 3, .call [] [] 1000 (RTone.enc (rPut x.Tones_3 2 b)) [], .lit 3, .no, .no, .no, .no, .no, .no, .no, .no] (J T1 (J T1 (J T1 (J T1 (J (by decide : ((4 : Int) ≠ 0)) (J (Eq.refl (3 : Int)) (J (by decide : 3 < 4) (J (by decide : ((4 : Int) ≠ 0)) (J (rPut_ok x.Tones_3 2 b (by decide) hb g3) (J (Eq.refl (3 : Int)) (J (by decide : 3 < 4) (J T0 (J T0 (J T0 (J T0 (J T0 (J T0 (J T0 (J T0 trivial))))))))))))))))))) (by kernel_rfl)
def rsPut_15 (x : RSnd) (b : Int) : RSnd :=
  ({ x with Tones_3 := ({ (rPut x.Tones_3 3 b) with Reg := (stN 4 x.Tones_3.Reg ((rPut x.Tones_3 3 b).Reg)) } : RTone) } : RSnd)
theorem rsPut_15_ok (x : RSnd) (b : Int) (g0 : Good x.Tones_0) (g1 : Good x.Tones_1) (g2 : Good x.Tones_2) (g3 : Good x.Tones_3) (hb : 0 ≤ b ∧ b < 256) : FnSpec Tryd.prog 22 1001 [.pointer (some ⟨1000, 0, none⟩), .int .i64 16399, .int .i64 b] [(1000, RSnd.blk x)] (.tuple ⟨[]⟩) [(1000, RSnd.blk (rsPut_15 x b))] := by
  unfold rsPut_15
  exact fn_of_x hG hM Tryd.func22 (by kernel_rfl) (by kernel_rfl) 400 [.yes, .yes, .yes, .yes, .lit 3, .call [] [] 1000 (RTone.enc (rPut x.Tones_3 3 b)) [], .lit 3, .no, .no, .no, .no, .no, .no, .no, .no] (J T1 (J T1 (J T1 (J T1 (J (by decide : ((4 : Int) ≠ 0)) (J (Eq.refl (3 : Int)) (J (by decide : 3 < 4) (J (by decide : ((4 : Int) ≠ 0)) (J (rPut_ok x.Tones_3 3 b (by decide) hb g3) (J (Eq.refl (3 : Int)) (J (by decide : 3 < 4) (J T0 (J T0 (J T0 (J T0 (J T0 (J T0 (J T0 (J T0 trivial))))))))))))))))))) (by kernel_rfl)
end Go.Proofs.YtgpcfjokmonlgaaDoor
namespace Go.Proofs.YtgpcfjokmonlgaaDoor
open Go VX
set_option linter.unusedVariables false
set_option linter.unusedSimpArgs false
set_option maxRecDepth 100000
def rsPuts : List (RSnd → Int → RSnd) := [rsPut_0, rsPut_1, rsPut_2, rsPut_3, rsPut_4, rsPut_5, rsPut_6, rsPut_7, rsPut_8, rsPut_9, rsPut_10, rsPut_11, rsPut_12, rsPut_13, rsPut_14, rsPut_15, rsPut_16, rsPut_17, rsPut_18, rsPut_19, (fun x _ => x), rsPut_21, (fun x _ => x), rsPut_23]
def rsPut (x : RSnd) (at_ b : Int) : RSnd := if 16384 ≤ at_ ∧ at_ ≤ 16407 then (rsPuts.getD (at_ - 16384).toNat fun x _ => x) x b else x
theorem rsPut_ok (x : RSnd) (at_ : Int) (b : Int) (g0 : Good x.Tones_0) (g1 : Good x.Tones_1) (g2 : Good x.Tones_2) (g3 : Good x.Tones_3) (ha : 0 ≤ at_ ∧ at_ < 65536) (hb : 0 ≤ b ∧ b < 256) : FnSpec Tryd.prog 22 1001 [.pointer (some ⟨1000, 0, none⟩), .int .i64 at_, .int .i64 b] [(1000, RSnd.blk x)] (.tuple ⟨[]⟩) [(1000, RSnd.blk (rsPut x at_ b))] := by
  by_cases h1 : at_ < 16384
  · have e : rsPut x at_ b = x := by unfold rsPut; rw [if_neg (by omega)]
    rw [e]
    exact rsPut_lo_ok x at_ b (by simp; omega) (by simp; omega) (by simp; omega) (by simp; omega) (by simp; omega) (by simp; omega)
  by_cases h2 : at_ > 16407
  · have e : rsPut x at_ b = x := by unfold rsPut; rw [if_neg (by omega)]
    rw [e]
    exact rsPut_hi_ok x at_ b (by simp; omega) (by simp; omega) (by simp; omega) (by simp; omega) (by simp; omega) (by simp; omega) (by simp; omega) (by simp; omega)
  obtain h | h | h | h | h | h | h | h | h | h | h | h | h | h | h | h | h | h | h | h | h | h | h | h := (show at_ = 16384 ∨ at_ = 16385 ∨ at_ = 16386 ∨ at_ = 16387 ∨ at_ = 16388 ∨ at_ = 16389 ∨ at_ = 16390 ∨ at_ = 16391 ∨ at_ = 16392 ∨ at_ = 16393 ∨ at_ = 16394 ∨ at_ = 16395 ∨ at_ = 16396 ∨ at_ = 16397 ∨ at_ = 16398 ∨ at_ = 16399 ∨ at_ = 16400 ∨ at_ = 16401 ∨ at_ = 16402 ∨ at_ = 16403 ∨ at_ = 16404 ∨ at_ = 16405 ∨ at_ = 16406 ∨ at_ = 16407 by omega)
  · subst h; exact rsPut_0_ok x b g0 g1 g2 g3 hb
  · subst h; exact rsPut_1_ok x b g0 g1 g2 g3 hb
  · subst h; exact rsPut_2_ok x b g0 g1 g2 g3 hb
  · subst h; exact rsPut_3_ok x b g0 g1 g2 g3 hb
  · subst h; exact rsPut_4_ok x b g0 g1 g2 g3 hb
  · subst h; exact rsPut_5_ok x b g0 g1 g2 g3 hb
  · subst h; exact rsPut_6_ok x b g0 g1 g2 g3 hb
  · subst h; exact rsPut_7_ok x b g0 g1 g2 g3 hb
  · subst h; exact rsPut_8_ok x b g0 g1 g2 g3 hb
  · subst h; exact rsPut_9_ok x b g0 g1 g2 g3 hb
  · subst h; exact rsPut_10_ok x b g0 g1 g2 g3 hb
  · subst h; exact rsPut_11_ok x b g0 g1 g2 g3 hb
  · subst h; exact rsPut_12_ok x b g0 g1 g2 g3 hb
  · subst h; exact rsPut_13_ok x b g0 g1 g2 g3 hb
  · subst h; exact rsPut_14_ok x b g0 g1 g2 g3 hb
  · subst h; exact rsPut_15_ok x b g0 g1 g2 g3 hb
  · subst h; exact rsPut_16_ok x b hb
  · subst h; exact rsPut_17_ok x b hb
  · subst h; exact rsPut_18_ok x b hb
  · subst h; exact rsPut_19_ok x b hb
  · subst h; exact rsPut_20_ok x b hb
  · subst h; exact rsPut_21_ok x b hb
  · subst h; exact rsPut_22_ok x b hb
  · subst h; exact rsPut_23_ok x b g0 g1 g2 g3 hb
end Go.Proofs.YtgpcfjokmonlgaaDoor
namespace Go.Proofs.YtgpcfjokmonlgaaDoor
open Go VX
open Go.IntKind (i64 u8 u16)
set_option linter.unusedVariables false
set_option linter.unusedSimpArgs false
set_option maxRecDepth 100000
def lLike (s : Snd) (x : RSnd) : Bool :=
  if (!((sAsks s).2 == (rsAsks x))) = true then
    false
  else
    if (sAsks s).2 = true then
      if ((i64.wrap ((sAsks s).1)) != x.M.At) = true then
        false
      else
        if (!((sAsks s).2)) = true then
          if (((sAsks s).1 : Int) != 0) = true then
            false
          else
            if ((sOut s) == (rsOut x)) = true then
              if x.IRQ = true then
                ((sIRQ s) == true)
              else
                ((sIRQ s) == x.M.IRQ)
            else
              false
        else
          if ((sOut s) == (rsOut x)) = true then
            if x.IRQ = true then
              ((sIRQ s) == true)
            else
              ((sIRQ s) == x.M.IRQ)
          else
            false
    else
      if (!((sAsks s).2)) = true then
        if (((sAsks s).1 : Int) != 0) = true then
          false
        else
          if ((sOut s) == (rsOut x)) = true then
            if x.IRQ = true then
              ((sIRQ s) == true)
            else
              ((sIRQ s) == x.M.IRQ)
          else
            false
      else
        if ((sOut s) == (rsOut x)) = true then
          if x.IRQ = true then
            ((sIRQ s) == true)
          else
            ((sIRQ s) == x.M.IRQ)
        else
          false
theorem lLike_ok (s : Snd) (x : RSnd) (w_s : Snd.ok s) (g0 : Good x.Tones_0) (g1 : Good x.Tones_1) (g2 : Good x.Tones_2) (g3 : Good x.Tones_3) : FnSpec Tryd.prog 21 1006 [.pointer (some ⟨1000, 0, none⟩), .pointer (some ⟨1005, 0, none⟩)] ([tb3] ++ (Snd.H0 s) ++ [(1005, RSnd.blk x)]) (.bool (lLike s x)) ((Snd.H0 s) ++ [(1005, RSnd.blk x)]) := by
  unfold lLike
  rcases bt (!((sAsks s).2 == (rsAsks x))) with c1 | c1
  · rw [if_pos c1]
    exact fn_of_x hG hM Tryd.func21 (by kernel_rfl) (by kernel_rfl) 400 [.callr [(1000, 1000), (1001, 1001), (1002, 1002), (1003, 1003), (1004, 1004)] [1000, 1001, 1002, 1003, 1004] [] 1005 (.tuple ⟨[.int .u16 ((sAsks s).1), .bool ((sAsks s).2)]⟩) [], .callr [(1005, 1000)] [1005] [] 1001 (.bool (rsAsks x)) [], .yes, .yes, .yes, .yes, .yes, .yes, .yes, .yes, .yes, .yes] (J (sAsks_ok s) (J (rsAsks_ok x) (J c1 (J c1 (J c1 (J c1 (J T1 (J T1 (J T1 (J T1 (J T1 (J T1 trivial)))))))))))) (by kernel_rfl)
  · rw [if_neg (nt c1)]
    rcases bt ((sAsks s).2) with c2 | c2
    · rw [if_pos c2]
      rcases bt ((i64.wrap ((sAsks s).1)) != x.M.At) with c3 | c3
      · rw [if_pos c3]
        exact fn_of_x hG hM Tryd.func21 (by kernel_rfl) (by kernel_rfl) 400 [.callr [(1000, 1000), (1001, 1001), (1002, 1002), (1003, 1003), (1004, 1004)] [1000, 1001, 1002, 1003, 1004] [] 1005 (.tuple ⟨[.int .u16 ((sAsks s).1), .bool ((sAsks s).2)]⟩) [], .callr [(1005, 1000)] [1005] [] 1001 (.bool (rsAsks x)) [], .no, .no, .yes, .yes, .yes, .yes, .yes, .yes, .yes, .yes, .no, .yes, .no, .yes, .yes, .yes, .yes, .yes, .yes] (J (sAsks_ok s) (J (rsAsks_ok x) (J c1 (J c1 (J c2 (J c2 (J c2 (J c2 (J c2 (J c2 (J c2 (J c2 (J c1 (J c2 (J c1 (J c3 (J c3 (J c3 (J c3 (J c3 (J T1 trivial))))))))))))))))))))) (by kernel_rfl)
      · rw [if_neg (nt c3)]
        rcases bt (!((sAsks s).2)) with c4 | c4
        · rw [if_pos c4]
          rcases bt (((sAsks s).1 : Int) != 0) with c5 | c5
          · rw [if_pos c5]
            exact fn_of_x hG hM Tryd.func21 (by kernel_rfl) (by kernel_rfl) 400 [.callr [(1000, 1000), (1001, 1001), (1002, 1002), (1003, 1003), (1004, 1004)] [1000, 1001, 1002, 1003, 1004] [] 1005 (.tuple ⟨[.int .u16 ((sAsks s).1), .bool ((sAsks s).2)]⟩) [], .callr [(1005, 1000)] [1005] [] 1001 (.bool (rsAsks x)) [], .no, .no, .yes, .yes, .yes, .yes, .yes, .yes, .yes, .yes, .no, .yes, .no, .no, .no, .no, .yes, .yes, .no, .yes, .no, .yes] (J (sAsks_ok s) (J (rsAsks_ok x) (J c1 (J c1 (J c2 (J c2 (J c2 (J c2 (J c2 (J c2 (J c2 (J c2 (J c1 (J c2 (J c1 (J c3 (J c3 (J c3 (J c4 (J c4 (J c3 (J c4 (J c3 (J c5 trivial)))))))))))))))))))))))) (by kernel_rfl)
          · rw [if_neg (nt c5)]
            rcases bt ((sOut s) == (rsOut x)) with c6 | c6
            · rw [if_pos c6]
              rcases bt x.IRQ with c7 | c7
              · rw [if_pos c7]
                exact fn_of_x hG hM Tryd.func21 (by kernel_rfl) (by kernel_rfl) 400 [.callr [(1000, 1000), (1001, 1001), (1002, 1002), (1003, 1003), (1004, 1004)] [1000, 1001, 1002, 1003, 1004] [] 1005 (.tuple ⟨[.int .u16 ((sAsks s).1), .bool ((sAsks s).2)]⟩) [], .callr [(1005, 1000)] [1005] [] 1001 (.bool (rsAsks x)) [], .no, .no, .yes, .yes, .yes, .yes, .yes, .yes, .yes, .yes, .no, .yes, .no, .no, .no, .no, .yes, .yes, .no, .yes, .no, .no, .callr [(3, 3), (1000, 1000), (1001, 1001), (1002, 1002), (1003, 1003), (1004, 1004)] [1000, 1001, 1002, 1003, 1004] [] 1005 (.int .i64 (sOut s)) [], .callr [(1005, 1000)] [1005] [] 1001 (.int .i64 (rsOut x)) [], .yes, .yes, .callr [(1000, 1000), (1001, 1001), (1002, 1002), (1003, 1003), (1004, 1004)] [1000, 1001, 1002, 1003, 1004] [] 1005 (.bool (sIRQ s)) [], .yes, .yes, .yes, .yes, .yes, .yes, .yes, .yes, .yes, .yes, .yes, .yes, .yes, .yes] (J (sAsks_ok s) (J (rsAsks_ok x) (J c1 (J c1 (J c2 (J c2 (J c2 (J c2 (J c2 (J c2 (J c2 (J c2 (J c1 (J c2 (J c1 (J c3 (J c3 (J c3 (J c4 (J c4 (J c3 (J c4 (J c3 (J c5 (J (sOut_ok s w_s) (J (rsOut_ok x g0 g1 g2 g3) (J c6 (J c6 (J (sIRQ_ok s) (J c6 (J c6 (J c6 (J c6 (J c6 (J c7 (J c7 (J c7 (J c7 (J c7 (J c6 (J c7 (J c6 (J c6 trivial))))))))))))))))))))))))))))))))))))))))))) (by kernel_rfl)
              · rw [if_neg (nt c7)]
                exact fn_of_x hG hM Tryd.func21 (by kernel_rfl) (by kernel_rfl) 400 [.callr [(1000, 1000), (1001, 1001), (1002, 1002), (1003, 1003), (1004, 1004)] [1000, 1001, 1002, 1003, 1004] [] 1005 (.tuple ⟨[.int .u16 ((sAsks s).1), .bool ((sAsks s).2)]⟩) [], .callr [(1005, 1000)] [1005] [] 1001 (.bool (rsAsks x)) [], .no, .no, .yes, .yes, .yes, .yes, .yes, .yes, .yes, .yes, .no, .yes, .no, .no, .no, .no, .yes, .yes, .no, .yes, .no, .no, .callr [(3, 3), (1000, 1000), (1001, 1001), (1002, 1002), (1003, 1003), (1004, 1004)] [1000, 1001, 1002, 1003, 1004] [] 1005 (.int .i64 (sOut s)) [], .callr [(1005, 1000)] [1005] [] 1001 (.int .i64 (rsOut x)) [], .yes, .yes, .callr [(1000, 1000), (1001, 1001), (1002, 1002), (1003, 1003), (1004, 1004)] [1000, 1001, 1002, 1003, 1004] [] 1005 (.bool (sIRQ s)) [], .yes, .yes, .yes, .yes, .yes, .no, .no, .no, .no, .no, .yes, .no, .yes, .yes] (J (sAsks_ok s) (J (rsAsks_ok x) (J c1 (J c1 (J c2 (J c2 (J c2 (J c2 (J c2 (J c2 (J c2 (J c2 (J c1 (J c2 (J c1 (J c3 (J c3 (J c3 (J c4 (J c4 (J c3 (J c4 (J c3 (J c5 (J (sOut_ok s w_s) (J (rsOut_ok x g0 g1 g2 g3) (J c6 (J c6 (J (sIRQ_ok s) (J c6 (J c6 (J c6 (J c6 (J c6 (J c7 (J c7 (J c7 (J c7 (J c7 (J c6 (J c7 (J c6 (J c6 trivial))))))))))))))))))))))))))))))))))))))))))) (by kernel_rfl)
            · rw [if_neg (nt c6)]
              exact fn_of_x hG hM Tryd.func21 (by kernel_rfl) (by kernel_rfl) 400 [.callr [(1000, 1000), (1001, 1001), (1002, 1002), (1003, 1003), (1004, 1004)] [1000, 1001, 1002, 1003, 1004] [] 1005 (.tuple ⟨[.int .u16 ((sAsks s).1), .bool ((sAsks s).2)]⟩) [], .callr [(1005, 1000)] [1005] [] 1001 (.bool (rsAsks x)) [], .no, .no, .yes, .yes, .yes, .yes, .yes, .yes, .yes, .yes, .no, .yes, .no, .no, .no, .no, .yes, .yes, .no, .yes, .no, .no, .callr [(3, 3), (1000, 1000), (1001, 1001), (1002, 1002), (1003, 1003), (1004, 1004)] [1000, 1001, 1002, 1003, 1004] [] 1005 (.int .i64 (sOut s)) [], .callr [(1005, 1000)] [1005] [] 1001 (.int .i64 (rsOut x)) [], .no, .no, .no, .no, .no, .no, .no, .no, .no, .no] (J (sAsks_ok s) (J (rsAsks_ok x) (J c1 (J c1 (J c2 (J c2 (J c2 (J c2 (J c2 (J c2 (J c2 (J c2 (J c1 (J c2 (J c1 (J c3 (J c3 (J c3 (J c4 (J c4 (J c3 (J c4 (J c3 (J c5 (J (sOut_ok s w_s) (J (rsOut_ok x g0 g1 g2 g3) (J c6 (J c6 (J c6 (J c6 (J c6 (J c6 (J c6 (J c6 (J c6 (J c6 trivial)))))))))))))))))))))))))))))))))))) (by kernel_rfl)
        · rw [if_neg (nt c4)]
          rcases bt ((sOut s) == (rsOut x)) with c5 | c5
          · rw [if_pos c5]
            rcases bt x.IRQ with c6 | c6
            · rw [if_pos c6]
              exact fn_of_x hG hM Tryd.func21 (by kernel_rfl) (by kernel_rfl) 400 [.callr [(1000, 1000), (1001, 1001), (1002, 1002), (1003, 1003), (1004, 1004)] [1000, 1001, 1002, 1003, 1004] [] 1005 (.tuple ⟨[.int .u16 ((sAsks s).1), .bool ((sAsks s).2)]⟩) [], .callr [(1005, 1000)] [1005] [] 1001 (.bool (rsAsks x)) [], .no, .no, .yes, .yes, .yes, .yes, .yes, .yes, .yes, .yes, .no, .yes, .no, .no, .no, .no, .no, .no, .no, .no, .no, .no, .callr [(3, 3), (1000, 1000), (1001, 1001), (1002, 1002), (1003, 1003), (1004, 1004)] [1000, 1001, 1002, 1003, 1004] [] 1005 (.int .i64 (sOut s)) [], .callr [(1005, 1000)] [1005] [] 1001 (.int .i64 (rsOut x)) [], .yes, .yes, .callr [(1000, 1000), (1001, 1001), (1002, 1002), (1003, 1003), (1004, 1004)] [1000, 1001, 1002, 1003, 1004] [] 1005 (.bool (sIRQ s)) [], .yes, .yes, .yes, .yes, .yes, .yes, .yes, .yes, .yes, .yes, .yes, .yes, .yes, .yes] (J (sAsks_ok s) (J (rsAsks_ok x) (J c1 (J c1 (J c2 (J c2 (J c2 (J c2 (J c2 (J c2 (J c2 (J c2 (J c1 (J c2 (J c1 (J c3 (J c3 (J c3 (J c4 (J c4 (J c3 (J c4 (J c3 (J T0 (J (sOut_ok s w_s) (J (rsOut_ok x g0 g1 g2 g3) (J c5 (J c5 (J (sIRQ_ok s) (J c5 (J c5 (J c5 (J c5 (J c5 (J c6 (J c6 (J c6 (J c6 (J c6 (J c5 (J c6 (J c5 (J c5 trivial))))))))))))))))))))))))))))))))))))))))))) (by kernel_rfl)
            · rw [if_neg (nt c6)]
              exact fn_of_x hG hM Tryd.func21 (by kernel_rfl) (by kernel_rfl) 400 [.callr [(1000, 1000), (1001, 1001), (1002, 1002), (1003, 1003), (1004, 1004)] [1000, 1001, 1002, 1003, 1004] [] 1005 (.tuple ⟨[.int .u16 ((sAsks s).1), .bool ((sAsks s).2)]⟩) [], .callr [(1005, 1000)] [1005] [] 1001 (.bool (rsAsks x)) [], .no, .no, .yes, .yes, .yes, .yes, .yes, .yes, .yes, .yes, .no, .yes, .no, .no, .no, .no, .no, .no, .no, .no, .no, .no, .callr [(3, 3), (1000, 1000), (1001, 1001), (1002, 1002), (1003, 1003), (1004, 1004)] [1000, 1001, 1002, 1003, 1004] [] 1005 (.int .i64 (sOut s)) [], .callr [(1005, 1000)] [1005] [] 1001 (.int .i64 (rsOut x)) [], .yes, .yes, .callr [(1000, 1000), (1001, 1001), (1002, 1002), (1003, 1003), (1004, 1004)] [1000, 1001, 1002, 1003, 1004] [] 1005 (.bool (sIRQ s)) [], .yes, .yes, .yes, .yes, .yes, .no, .no, .no, .no, .no, .yes, .no, .yes, .yes] (J (sAsks_ok s) (J (rsAsks_ok x) (J c1 (J c1 (J c2 (J c2 (J c2 (J c2 (J c2 (J c2 (J c2 (J c2 (J c1 (J c2 (J c1 (J c3 (J c3 (J c3 (J c4 (J c4 (J c3 (J c4 (J c3 (J T0 (J (sOut_ok s w_s) (J (rsOut_ok x g0 g1 g2 g3) (J c5 (J c5 (J (sIRQ_ok s) (J c5 (J c5 (J c5 (J c5 (J c5 (J c6 (J c6 (J c6 (J c6 (J c6 (J c5 (J c6 (J c5 (J c5 trivial))))))))))))))))))))))))))))))))))))))))))) (by kernel_rfl)
          · rw [if_neg (nt c5)]
            exact fn_of_x hG hM Tryd.func21 (by kernel_rfl) (by kernel_rfl) 400 [.callr [(1000, 1000), (1001, 1001), (1002, 1002), (1003, 1003), (1004, 1004)] [1000, 1001, 1002, 1003, 1004] [] 1005 (.tuple ⟨[.int .u16 ((sAsks s).1), .bool ((sAsks s).2)]⟩) [], .callr [(1005, 1000)] [1005] [] 1001 (.bool (rsAsks x)) [], .no, .no, .yes, .yes, .yes, .yes, .yes, .yes, .yes, .yes, .no, .yes, .no, .no, .no, .no, .no, .no, .no, .no, .no, .no, .callr [(3, 3), (1000, 1000), (1001, 1001), (1002, 1002), (1003, 1003), (1004, 1004)] [1000, 1001, 1002, 1003, 1004] [] 1005 (.int .i64 (sOut s)) [], .callr [(1005, 1000)] [1005] [] 1001 (.int .i64 (rsOut x)) [], .no, .no, .no, .no, .no, .no, .no, .no, .no, .no] (J (sAsks_ok s) (J (rsAsks_ok x) (J c1 (J c1 (J c2 (J c2 (J c2 (J c2 (J c2 (J c2 (J c2 (J c2 (J c1 (J c2 (J c1 (J c3 (J c3 (J c3 (J c4 (J c4 (J c3 (J c4 (J c3 (J T0 (J (sOut_ok s w_s) (J (rsOut_ok x g0 g1 g2 g3) (J c5 (J c5 (J c5 (J c5 (J c5 (J c5 (J c5 (J c5 (J c5 (J c5 trivial)))))))))))))))))))))))))))))))))))) (by kernel_rfl)
    · rw [if_neg (nt c2)]
      rcases bt (!((sAsks s).2)) with c3 | c3
      · rw [if_pos c3]
        rcases bt (((sAsks s).1 : Int) != 0) with c4 | c4
        · rw [if_pos c4]
          exact fn_of_x hG hM Tryd.func21 (by kernel_rfl) (by kernel_rfl) 400 [.callr [(1000, 1000), (1001, 1001), (1002, 1002), (1003, 1003), (1004, 1004)] [1000, 1001, 1002, 1003, 1004] [] 1005 (.tuple ⟨[.int .u16 ((sAsks s).1), .bool ((sAsks s).2)]⟩) [], .callr [(1005, 1000)] [1005] [] 1001 (.bool (rsAsks x)) [], .no, .no, .no, .no, .no, .no, .no, .no, .no, .no, .no, .no, .no, .no, .no, .no, .yes, .yes, .no, .yes, .no, .yes] (J (sAsks_ok s) (J (rsAsks_ok x) (J c1 (J c1 (J c2 (J c2 (J c2 (J c2 (J c2 (J c2 (J c2 (J c2 (J c1 (J c2 (J c1 (J T0 (J T0 (J T0 (J c3 (J c3 (J T0 (J c3 (J T0 (J c4 trivial)))))))))))))))))))))))) (by kernel_rfl)
        · rw [if_neg (nt c4)]
          rcases bt ((sOut s) == (rsOut x)) with c5 | c5
          · rw [if_pos c5]
            rcases bt x.IRQ with c6 | c6
            · rw [if_pos c6]
              exact fn_of_x hG hM Tryd.func21 (by kernel_rfl) (by kernel_rfl) 400 [.callr [(1000, 1000), (1001, 1001), (1002, 1002), (1003, 1003), (1004, 1004)] [1000, 1001, 1002, 1003, 1004] [] 1005 (.tuple ⟨[.int .u16 ((sAsks s).1), .bool ((sAsks s).2)]⟩) [], .callr [(1005, 1000)] [1005] [] 1001 (.bool (rsAsks x)) [], .no, .no, .no, .no, .no, .no, .no, .no, .no, .no, .no, .no, .no, .no, .no, .no, .yes, .yes, .no, .yes, .no, .no, .callr [(3, 3), (1000, 1000), (1001, 1001), (1002, 1002), (1003, 1003), (1004, 1004)] [1000, 1001, 1002, 1003, 1004] [] 1005 (.int .i64 (sOut s)) [], .callr [(1005, 1000)] [1005] [] 1001 (.int .i64 (rsOut x)) [], .yes, .yes, .callr [(1000, 1000), (1001, 1001), (1002, 1002), (1003, 1003), (1004, 1004)] [1000, 1001, 1002, 1003, 1004] [] 1005 (.bool (sIRQ s)) [], .yes, .yes, .yes, .yes, .yes, .yes, .yes, .yes, .yes, .yes, .yes, .yes, .yes, .yes] (J (sAsks_ok s) (J (rsAsks_ok x) (J c1 (J c1 (J c2 (J c2 (J c2 (J c2 (J c2 (J c2 (J c2 (J c2 (J c1 (J c2 (J c1 (J T0 (J T0 (J T0 (J c3 (J c3 (J T0 (J c3 (J T0 (J c4 (J (sOut_ok s w_s) (J (rsOut_ok x g0 g1 g2 g3) (J c5 (J c5 (J (sIRQ_ok s) (J c5 (J c5 (J c5 (J c5 (J c5 (J c6 (J c6 (J c6 (J c6 (J c6 (J c5 (J c6 (J c5 (J c5 trivial))))))))))))))))))))))))))))))))))))))))))) (by kernel_rfl)
            · rw [if_neg (nt c6)]
              exact fn_of_x hG hM Tryd.func21 (by kernel_rfl) (by kernel_rfl) 400 [.callr [(1000, 1000), (1001, 1001), (1002, 1002), (1003, 1003), (1004, 1004)] [1000, 1001, 1002, 1003, 1004] [] 1005 (.tuple ⟨[.int .u16 ((sAsks s).1), .bool ((sAsks s).2)]⟩) [], .callr [(1005, 1000)] [1005] [] 1001 (.bool (rsAsks x)) [], .no, .no, .no, .no, .no, .no, .no, .no, .no, .no, .no, .no, .no, .no, .no, .no, .yes, .yes, .no, .yes, .no, .no, .callr [(3, 3), (1000, 1000), (1001, 1001), (1002, 1002), (1003, 1003), (1004, 1004)] [1000, 1001, 1002, 1003, 1004] [] 1005 (.int .i64 (sOut s)) [], .callr [(1005, 1000)] [1005] [] 1001 (.int .i64 (rsOut x)) [], .yes, .yes, .callr [(1000, 1000), (1001, 1001), (1002, 1002), (1003, 1003), (1004, 1004)] [1000, 1001, 1002, 1003, 1004] [] 1005 (.bool (sIRQ s)) [], .yes, .yes, .yes, .yes, .yes, .no, .no, .no, .no, .no, .yes, .no, .yes, .yes] (J (sAsks_ok s) (J (rsAsks_ok x) (J c1 (J c1 (J c2 (J c2 (J c2 (J c2 (J c2 (J c2 (J c2 (J c2 (J c1 (J c2 (J c1 (J T0 (J T0 (J T0 (J c3 (J c3 (J T0 (J c3 (J T0 (J c4 (J (sOut_ok s w_s) (J (rsOut_ok x g0 g1 g2 g3) (J c5 (J c5 (J (sIRQ_ok s) (J c5 (J c5 (J c5 (J c5 (J c5 (J c6 (J c6 (J c6 (J c6 (J c6 (J c5 (J c6 (J c5 (J c5 trivial))))))))))))))))))))))))))))))))))))))))))) (by kernel_rfl)
          · rw [if_neg (nt c5)]
            exact fn_of_x hG hM Tryd.func21 (by kernel_rfl) (by kernel_rfl) 400 [.callr [(1000, 1000), (1001, 1001), (1002, 1002), (1003, 1003), (1004, 1004)] [1000, 1001, 1002, 1003, 1004] [] 1005 (.tuple ⟨[.int .u16 ((sAsks s).1), .bool ((sAsks s).2)]⟩) [], .callr [(1005, 1000)] [1005] [] 1001 (.bool (rsAsks x)) [], .no, .no, .no, .no, .no, .no, .no, .no, .no, .no, .no, .no, .no, .no, .no, .no, .yes, .yes, .no, .yes, .no, .no, .callr [(3, 3), (1000, 1000), (1001, 1001), (1002, 1002), (1003, 1003), (1004, 1004)] [1000, 1001, 1002, 1003, 1004] [] 1005 (.int .i64 (sOut s)) [], .callr [(1005, 1000)] [1005] [] 1001 (.int .i64 (rsOut x)) [], .no, .no, .no, .no, .no, .no, .no, .no, .no, .no] (J (sAsks_ok s) (J (rsAsks_ok x) (J c1 (J c1 (J c2 (J c2 (J c2 (J c2 (J c2 (J c2 (J c2 (J c2 (J c1 (J c2 (J c1 (J T0 (J T0 (J T0 (J c3 (J c3 (J T0 (J c3 (J T0 (J c4 (J (sOut_ok s w_s) (J (rsOut_ok x g0 g1 g2 g3) (J c5 (J c5 (J c5 (J c5 (J c5 (J c5 (J c5 (J c5 (J c5 (J c5 trivial)))))))))))))))))))))))))))))))))))) (by kernel_rfl)
      · rw [if_neg (nt c3)]
        rcases bt ((sOut s) == (rsOut x)) with c4 | c4
        · rw [if_pos c4]
          rcases bt x.IRQ with c5 | c5
          · rw [if_pos c5]
            exact fn_of_x hG hM Tryd.func21 (by kernel_rfl) (by kernel_rfl) 400 [.callr [(1000, 1000), (1001, 1001), (1002, 1002), (1003, 1003), (1004, 1004)] [1000, 1001, 1002, 1003, 1004] [] 1005 (.tuple ⟨[.int .u16 ((sAsks s).1), .bool ((sAsks s).2)]⟩) [], .callr [(1005, 1000)] [1005] [] 1001 (.bool (rsAsks x)) [], .no, .no, .no, .no, .no, .no, .no, .no, .no, .no, .no, .no, .no, .no, .no, .no, .no, .no, .no, .no, .no, .no, .callr [(3, 3), (1000, 1000), (1001, 1001), (1002, 1002), (1003, 1003), (1004, 1004)] [1000, 1001, 1002, 1003, 1004] [] 1005 (.int .i64 (sOut s)) [], .callr [(1005, 1000)] [1005] [] 1001 (.int .i64 (rsOut x)) [], .yes, .yes, .callr [(1000, 1000), (1001, 1001), (1002, 1002), (1003, 1003), (1004, 1004)] [1000, 1001, 1002, 1003, 1004] [] 1005 (.bool (sIRQ s)) [], .yes, .yes, .yes, .yes, .yes, .yes, .yes, .yes, .yes, .yes, .yes, .yes, .yes, .yes] (J (sAsks_ok s) (J (rsAsks_ok x) (J c1 (J c1 (J c2 (J c2 (J c2 (J c2 (J c2 (J c2 (J c2 (J c2 (J c1 (J c2 (J c1 (J T0 (J T0 (J T0 (J c3 (J c3 (J T0 (J c3 (J T0 (J T0 (J (sOut_ok s w_s) (J (rsOut_ok x g0 g1 g2 g3) (J c4 (J c4 (J (sIRQ_ok s) (J c4 (J c4 (J c4 (J c4 (J c4 (J c5 (J c5 (J c5 (J c5 (J c5 (J c4 (J c5 (J c4 (J c4 trivial))))))))))))))))))))))))))))))))))))))))))) (by kernel_rfl)
          · rw [if_neg (nt c5)]
            exact fn_of_x hG hM Tryd.func21 (by kernel_rfl) (by kernel_rfl) 400 [.callr [(1000, 1000), (1001, 1001), (1002, 1002), (1003, 1003), (1004, 1004)] [1000, 1001, 1002, 1003, 1004] [] 1005 (.tuple ⟨[.int .u16 ((sAsks s).1), .bool ((sAsks s).2)]⟩) [], .callr [(1005, 1000)] [1005] [] 1001 (.bool (rsAsks x)) [], .no, .no, .no, .no, .no, .no, .no, .no, .no, .no, .no, .no, .no, .no, .no, .no, .no, .no, .no, .no, .no, .no, .callr [(3, 3), (1000, 1000), (1001, 1001), (1002, 1002), (1003, 1003), (1004, 1004)] [1000, 1001, 1002, 1003, 1004] [] 1005 (.int .i64 (sOut s)) [], .callr [(1005, 1000)] [1005] [] 1001 (.int .i64 (rsOut x)) [], .yes, .yes, .callr [(1000, 1000), (1001, 1001), (1002, 1002), (1003, 1003), (1004, 1004)] [1000, 1001, 1002, 1003, 1004] [] 1005 (.bool (sIRQ s)) [], .yes, .yes, .yes, .yes, .yes, .no, .no, .no, .no, .no, .yes, .no, .yes, .yes] (J (sAsks_ok s) (J (rsAsks_ok x) (J c1 (J c1 (J c2 (J c2 (J c2 (J c2 (J c2 (J c2 (J c2 (J c2 (J c1 (J c2 (J c1 (J T0 (J T0 (J T0 (J c3 (J c3 (J T0 (J c3 (J T0 (J T0 (J (sOut_ok s w_s) (J (rsOut_ok x g0 g1 g2 g3) (J c4 (J c4 (J (sIRQ_ok s) (J c4 (J c4 (J c4 (J c4 (J c4 (J c5 (J c5 (J c5 (J c5 (J c5 (J c4 (J c5 (J c4 (J c4 trivial))))))))))))))))))))))))))))))))))))))))))) (by kernel_rfl)
        · rw [if_neg (nt c4)]
          exact fn_of_x hG hM Tryd.func21 (by kernel_rfl) (by kernel_rfl) 400 [.callr [(1000, 1000), (1001, 1001), (1002, 1002), (1003, 1003), (1004, 1004)] [1000, 1001, 1002, 1003, 1004] [] 1005 (.tuple ⟨[.int .u16 ((sAsks s).1), .bool ((sAsks s).2)]⟩) [], .callr [(1005, 1000)] [1005] [] 1001 (.bool (rsAsks x)) [], .no, .no, .no, .no, .no, .no, .no, .no, .no, .no, .no, .no, .no, .no, .no, .no, .no, .no, .no, .no, .no, .no, .callr [(3, 3), (1000, 1000), (1001, 1001), (1002, 1002), (1003, 1003), (1004, 1004)] [1000, 1001, 1002, 1003, 1004] [] 1005 (.int .i64 (sOut s)) [], .callr [(1005, 1000)] [1005] [] 1001 (.int .i64 (rsOut x)) [], .no, .no, .no, .no, .no, .no, .no, .no, .no, .no] (J (sAsks_ok s) (J (rsAsks_ok x) (J c1 (J c1 (J c2 (J c2 (J c2 (J c2 (J c2 (J c2 (J c2 (J c2 (J c1 (J c2 (J c1 (J T0 (J T0 (J T0 (J c3 (J c3 (J T0 (J c3 (J T0 (J T0 (J (sOut_ok s w_s) (J (rsOut_ok x g0 g1 g2 g3) (J c4 (J c4 (J c4 (J c4 (J c4 (J c4 (J c4 (J c4 (J c4 (J c4 trivial)))))))))))))))))))))))))))))))))))) (by kernel_rfl)
inductive lDo_L1y (s : Snd) (x : RSnd) (a : Act) (most : Int) (xd : Int × Bool × Snd × RSnd) : (Int × Bool × Snd × RSnd) ⊕ ((Int × Bool × Snd × RSnd) ⊕ Bool) → Prop
  | p1 (d1 : (decide (xd.1 < (Int.tmod a.N most))) = true) (w1d : Man xd.2.2.1) (w2d : Good xd.2.2.2.Tones_0) (w3d : Good xd.2.2.2.Tones_1) (w4d : Good xd.2.2.2.Tones_2) (w5d : Good xd.2.2.2.Tones_3) (w6d : 1 ≤ xd.2.2.2.M.Bits ∧ xd.2.2.2.M.Bits ≤ 8) (w7d : (!xd.2.2.2.M.Silent) = true → xd.2.2.2.M.told = true) (w8d : 0 ≤ xd.2.2.2.M.Reg 0 ∧ xd.2.2.2.M.Reg 0 < 256) (d2 : (rsClock xd.2.2.2).IRQ = true) (d3 : (!((sIRQ (sClock xd.2.2.1)) == true)) = true) : lDo_L1y s x a most xd (.inr (.inr false))
  | p2 (d1 : (decide (xd.1 < (Int.tmod a.N most))) = true) (w1d : Man xd.2.2.1) (w2d : Good xd.2.2.2.Tones_0) (w3d : Good xd.2.2.2.Tones_1) (w4d : Good xd.2.2.2.Tones_2) (w5d : Good xd.2.2.2.Tones_3) (w6d : 1 ≤ xd.2.2.2.M.Bits ∧ xd.2.2.2.M.Bits ≤ 8) (w7d : (!xd.2.2.2.M.Silent) = true → xd.2.2.2.M.told = true) (w8d : 0 ≤ xd.2.2.2.M.Reg 0 ∧ xd.2.2.2.M.Reg 0 < 256) (d2 : (rsClock xd.2.2.2).IRQ = true) (d3 : (!((sIRQ (sClock xd.2.2.1)) == true)) = false) : lDo_L1y s x a most xd (.inl ((u16.wrap (xd.1 + 1)), xd.2.1, (sClock xd.2.2.1), (rsClock xd.2.2.2)))
  | p3 (d1 : (decide (xd.1 < (Int.tmod a.N most))) = true) (w1d : Man xd.2.2.1) (w2d : Good xd.2.2.2.Tones_0) (w3d : Good xd.2.2.2.Tones_1) (w4d : Good xd.2.2.2.Tones_2) (w5d : Good xd.2.2.2.Tones_3) (w6d : 1 ≤ xd.2.2.2.M.Bits ∧ xd.2.2.2.M.Bits ≤ 8) (w7d : (!xd.2.2.2.M.Silent) = true → xd.2.2.2.M.told = true) (w8d : 0 ≤ xd.2.2.2.M.Reg 0 ∧ xd.2.2.2.M.Reg 0 < 256) (d2 : (rsClock xd.2.2.2).IRQ = false) (d3 : (!((sIRQ (sClock xd.2.2.1)) == ((rsClock xd.2.2.2).M).IRQ)) = true) : lDo_L1y s x a most xd (.inr (.inr false))
  | p4 (d1 : (decide (xd.1 < (Int.tmod a.N most))) = true) (w1d : Man xd.2.2.1) (w2d : Good xd.2.2.2.Tones_0) (w3d : Good xd.2.2.2.Tones_1) (w4d : Good xd.2.2.2.Tones_2) (w5d : Good xd.2.2.2.Tones_3) (w6d : 1 ≤ xd.2.2.2.M.Bits ∧ xd.2.2.2.M.Bits ≤ 8) (w7d : (!xd.2.2.2.M.Silent) = true → xd.2.2.2.M.told = true) (w8d : 0 ≤ xd.2.2.2.M.Reg 0 ∧ xd.2.2.2.M.Reg 0 < 256) (d2 : (rsClock xd.2.2.2).IRQ = false) (d3 : (!((sIRQ (sClock xd.2.2.1)) == ((rsClock xd.2.2.2).M).IRQ)) = false) : lDo_L1y s x a most xd (.inl ((u16.wrap (xd.1 + 1)), xd.2.1, (sClock xd.2.2.1), (rsClock xd.2.2.2)))
  | p5 (d1 : (decide (xd.1 < (Int.tmod a.N most))) = false) : lDo_L1y s x a most xd (.inr (.inl (xd.1, xd.2.1, xd.2.2.1, xd.2.2.2)))
def lDo_L1y_T (s : Snd) (x : RSnd) (a : Act) (most : Int) (xd : Int × Bool × Snd × RSnd) : Tm := [(0, .pointer (some ⟨1000, 0, none⟩)), (1, .pointer (some ⟨1005, 0, none⟩)), (8, .bool xd.2.1), (40, .int .u16 (Int.tmod a.N most)), (41, .int .u16 xd.1)]
def lDo_L1y_H (s : Snd) (x : RSnd) (a : Act) (most : Int) (xd : Int × Bool × Snd × RSnd) : Heap := ([tb1, tb2] ++ (Snd.H0 xd.2.2.1) ++ [(1005, RSnd.blk xd.2.2.2)])
def lDo_L1y_T1 (s : Snd) (x : RSnd) (a : Act) (most : Int) : ((Int × Bool × Snd × RSnd) ⊕ Bool) → Tm
  | .inl q_ => lDo_L1y_T s x a most q_
  | .inr v => [(8, .bool v)]
def lDo_L1y_H1 (s : Snd) (x : RSnd) (a : Act) (most : Int) : ((Int × Bool × Snd × RSnd) ⊕ Bool) → Heap
  | .inl q_ => lDo_L1y_H s x a most q_
  | .inr v => []
def lDo_L1y_ex : ((Int × Bool × Snd × RSnd) ⊕ Bool) → Ex
  | .inl _ => .exit 1
  | .inr _ => .ret
theorem lDo_L1y_p1 (s : Snd) (x : RSnd) (a : Act) (most : Int) (xd : Int × Bool × Snd × RSnd) (d1 : (decide (xd.1 < (Int.tmod a.N most))) = true) (w1d : Man xd.2.2.1) (w2d : Good xd.2.2.2.Tones_0) (w3d : Good xd.2.2.2.Tones_1) (w4d : Good xd.2.2.2.Tones_2) (w5d : Good xd.2.2.2.Tones_3) (w6d : 1 ≤ xd.2.2.2.M.Bits ∧ xd.2.2.2.M.Bits ≤ 8) (w7d : (!xd.2.2.2.M.Silent) = true → xd.2.2.2.M.told = true) (w8d : 0 ≤ xd.2.2.2.M.Reg 0 ∧ xd.2.2.2.M.Reg 0 < 256) (d2 : (rsClock xd.2.2.2).IRQ = true) (d3 : (!((sIRQ (sClock xd.2.2.1)) == true)) = true) : Runs Tryd.prog 81 (bodyOf Tryd.f20 [1, 0, 1, 0, 1, 0, 1, 0, 0]) (lDo_L1y_T s x a most xd) (lDo_L1y_H s x a most xd) 1007 .ret (lDo_L1y_T1 s x a most (.inr false)) (lDo_L1y_H1 s x a most (.inr false)) 1007 := by
  exact runs_of_x hG hM 400 [.yes, .call [(1, 1), (2, 2), (1000, 1000), (1001, 1001), (1002, 1002), (1003, 1003), (1004, 1004)] [] 1005 (.tuple ⟨[]⟩) (Snd.H0 (sClock xd.2.2.1)), .call [(1005, 1000)] [] 1001 (.tuple ⟨[]⟩) [(1000, RSnd.blk (rsClock xd.2.2.2))], .callr [(1000, 1000), (1001, 1001), (1002, 1002), (1003, 1003), (1004, 1004)] [1000, 1001, 1002, 1003, 1004] [] 1005 (.bool (sIRQ (sClock xd.2.2.1))) [], .yes, .yes, .yes, .yes, .yes, .yes, .yes] (J d1 (J (sClock_ok xd.2.2.1 w1d) (J (rsClock_ok xd.2.2.2 w2d w3d w4d w5d w6d w7d w8d) (J (sIRQ_ok (sClock xd.2.2.1)) (J d2 (J d2 (J d2 (J d2 (J d2 (J d2 (J d3 trivial))))))))))) (by kernel_rfl)
theorem lDo_L1y_p2 (s : Snd) (x : RSnd) (a : Act) (most : Int) (xd : Int × Bool × Snd × RSnd) (d1 : (decide (xd.1 < (Int.tmod a.N most))) = true) (w1d : Man xd.2.2.1) (w2d : Good xd.2.2.2.Tones_0) (w3d : Good xd.2.2.2.Tones_1) (w4d : Good xd.2.2.2.Tones_2) (w5d : Good xd.2.2.2.Tones_3) (w6d : 1 ≤ xd.2.2.2.M.Bits ∧ xd.2.2.2.M.Bits ≤ 8) (w7d : (!xd.2.2.2.M.Silent) = true → xd.2.2.2.M.told = true) (w8d : 0 ≤ xd.2.2.2.M.Reg 0 ∧ xd.2.2.2.M.Reg 0 < 256) (d2 : (rsClock xd.2.2.2).IRQ = true) (d3 : (!((sIRQ (sClock xd.2.2.1)) == true)) = false) : Runs Tryd.prog 81 (bodyOf Tryd.f20 [1, 0, 1, 0, 1, 0, 1, 0, 0]) (lDo_L1y_T s x a most xd) (lDo_L1y_H s x a most xd) 1007 .normal (lDo_L1y_T s x a most ((u16.wrap (xd.1 + 1)), xd.2.1, (sClock xd.2.2.1), (rsClock xd.2.2.2))) (lDo_L1y_H s x a most ((u16.wrap (xd.1 + 1)), xd.2.1, (sClock xd.2.2.1), (rsClock xd.2.2.2))) 1007 := by
  exact runs_of_x hG hM 400 [.yes, .call [(1, 1), (2, 2), (1000, 1000), (1001, 1001), (1002, 1002), (1003, 1003), (1004, 1004)] [] 1005 (.tuple ⟨[]⟩) (Snd.H0 (sClock xd.2.2.1)), .call [(1005, 1000)] [] 1001 (.tuple ⟨[]⟩) [(1000, RSnd.blk (rsClock xd.2.2.2))], .callr [(1000, 1000), (1001, 1001), (1002, 1002), (1003, 1003), (1004, 1004)] [1000, 1001, 1002, 1003, 1004] [] 1005 (.bool (sIRQ (sClock xd.2.2.1))) [], .yes, .yes, .yes, .yes, .yes, .yes, .no] (J d1 (J (sClock_ok xd.2.2.1 w1d) (J (rsClock_ok xd.2.2.2 w2d w3d w4d w5d w6d w7d w8d) (J (sIRQ_ok (sClock xd.2.2.1)) (J d2 (J d2 (J d2 (J d2 (J d2 (J d2 (J d3 trivial))))))))))) (by kernel_rfl)
theorem lDo_L1y_p3 (s : Snd) (x : RSnd) (a : Act) (most : Int) (xd : Int × Bool × Snd × RSnd) (d1 : (decide (xd.1 < (Int.tmod a.N most))) = true) (w1d : Man xd.2.2.1) (w2d : Good xd.2.2.2.Tones_0) (w3d : Good xd.2.2.2.Tones_1) (w4d : Good xd.2.2.2.Tones_2) (w5d : Good xd.2.2.2.Tones_3) (w6d : 1 ≤ xd.2.2.2.M.Bits ∧ xd.2.2.2.M.Bits ≤ 8) (w7d : (!xd.2.2.2.M.Silent) = true → xd.2.2.2.M.told = true) (w8d : 0 ≤ xd.2.2.2.M.Reg 0 ∧ xd.2.2.2.M.Reg 0 < 256) (d2 : (rsClock xd.2.2.2).IRQ = false) (d3 : (!((sIRQ (sClock xd.2.2.1)) == ((rsClock xd.2.2.2).M).IRQ)) = true) : Runs Tryd.prog 81 (bodyOf Tryd.f20 [1, 0, 1, 0, 1, 0, 1, 0, 0]) (lDo_L1y_T s x a most xd) (lDo_L1y_H s x a most xd) 1007 .ret (lDo_L1y_T1 s x a most (.inr false)) (lDo_L1y_H1 s x a most (.inr false)) 1007 := by
  exact runs_of_x hG hM 400 [.yes, .call [(1, 1), (2, 2), (1000, 1000), (1001, 1001), (1002, 1002), (1003, 1003), (1004, 1004)] [] 1005 (.tuple ⟨[]⟩) (Snd.H0 (sClock xd.2.2.1)), .call [(1005, 1000)] [] 1001 (.tuple ⟨[]⟩) [(1000, RSnd.blk (rsClock xd.2.2.2))], .callr [(1000, 1000), (1001, 1001), (1002, 1002), (1003, 1003), (1004, 1004)] [1000, 1001, 1002, 1003, 1004] [] 1005 (.bool (sIRQ (sClock xd.2.2.1))) [], .no, .no, .no, .no, .no, .no, .yes] (J d1 (J (sClock_ok xd.2.2.1 w1d) (J (rsClock_ok xd.2.2.2 w2d w3d w4d w5d w6d w7d w8d) (J (sIRQ_ok (sClock xd.2.2.1)) (J d2 (J d2 (J d2 (J d2 (J d2 (J d2 (J d3 trivial))))))))))) (by kernel_rfl)
theorem lDo_L1y_p4 (s : Snd) (x : RSnd) (a : Act) (most : Int) (xd : Int × Bool × Snd × RSnd) (d1 : (decide (xd.1 < (Int.tmod a.N most))) = true) (w1d : Man xd.2.2.1) (w2d : Good xd.2.2.2.Tones_0) (w3d : Good xd.2.2.2.Tones_1) (w4d : Good xd.2.2.2.Tones_2) (w5d : Good xd.2.2.2.Tones_3) (w6d : 1 ≤ xd.2.2.2.M.Bits ∧ xd.2.2.2.M.Bits ≤ 8) (w7d : (!xd.2.2.2.M.Silent) = true → xd.2.2.2.M.told = true) (w8d : 0 ≤ xd.2.2.2.M.Reg 0 ∧ xd.2.2.2.M.Reg 0 < 256) (d2 : (rsClock xd.2.2.2).IRQ = false) (d3 : (!((sIRQ (sClock xd.2.2.1)) == ((rsClock xd.2.2.2).M).IRQ)) = false) : Runs Tryd.prog 81 (bodyOf Tryd.f20 [1, 0, 1, 0, 1, 0, 1, 0, 0]) (lDo_L1y_T s x a most xd) (lDo_L1y_H s x a most xd) 1007 .normal (lDo_L1y_T s x a most ((u16.wrap (xd.1 + 1)), xd.2.1, (sClock xd.2.2.1), (rsClock xd.2.2.2))) (lDo_L1y_H s x a most ((u16.wrap (xd.1 + 1)), xd.2.1, (sClock xd.2.2.1), (rsClock xd.2.2.2))) 1007 := by
  exact runs_of_x hG hM 400 [.yes, .call [(1, 1), (2, 2), (1000, 1000), (1001, 1001), (1002, 1002), (1003, 1003), (1004, 1004)] [] 1005 (.tuple ⟨[]⟩) (Snd.H0 (sClock xd.2.2.1)), .call [(1005, 1000)] [] 1001 (.tuple ⟨[]⟩) [(1000, RSnd.blk (rsClock xd.2.2.2))], .callr [(1000, 1000), (1001, 1001), (1002, 1002), (1003, 1003), (1004, 1004)] [1000, 1001, 1002, 1003, 1004] [] 1005 (.bool (sIRQ (sClock xd.2.2.1))) [], .no, .no, .no, .no, .no, .no, .no] (J d1 (J (sClock_ok xd.2.2.1 w1d) (J (rsClock_ok xd.2.2.2 w2d w3d w4d w5d w6d w7d w8d) (J (sIRQ_ok (sClock xd.2.2.1)) (J d2 (J d2 (J d2 (J d2 (J d2 (J d2 (J d3 trivial))))))))))) (by kernel_rfl)
theorem lDo_L1y_p5 (s : Snd) (x : RSnd) (a : Act) (most : Int) (xd : Int × Bool × Snd × RSnd) (d1 : (decide (xd.1 < (Int.tmod a.N most))) = false) : Runs Tryd.prog 81 (bodyOf Tryd.f20 [1, 0, 1, 0, 1, 0, 1, 0, 0]) (lDo_L1y_T s x a most xd) (lDo_L1y_H s x a most xd) 1007 (.exit 1) (lDo_L1y_T1 s x a most (.inl (xd.1, xd.2.1, xd.2.2.1, xd.2.2.2))) (lDo_L1y_H1 s x a most (.inl (xd.1, xd.2.1, xd.2.2.1, xd.2.2.2))) 1007 := by
  exact runs_of_x hG hM 400 [.no] (J d1 trivial) (by kernel_rfl)
theorem lDo_L1y_runs (s : Snd) (x : RSnd) (a : Act) (most : Int) (x_ : Int × Bool × Snd × RSnd) (y_ : (Int × Bool × Snd × RSnd) ⊕ Bool) (h_ : LoopR (lDo_L1y s x a most) x_ y_) : Runs Tryd.prog 81 (.block 1 (.loop (bodyOf Tryd.f20 [1, 0, 1, 0, 1, 0, 1, 0, 0]))) (lDo_L1y_T s x a most x_) (lDo_L1y_H s x a most x_) 1007 (outOf 1 (lDo_L1y_ex y_)) (lDo_L1y_T1 s x a most y_) (lDo_L1y_H1 s x a most y_) 1007 := by
  refine block_loop (lDo_L1y s x a most) (lDo_L1y_T s x a most) (lDo_L1y_H s x a most) lDo_L1y_ex (lDo_L1y_T1 s x a most) (lDo_L1y_H1 s x a most) ?_ ?_ ?_ x_ y_ h_
  · intro r hr; cases r <;> cases hr
  · intro xd y_ hx
    cases hx with
    | p2 d1 w1d w2d w3d w4d w5d w6d w7d w8d d2 d3 => exact lDo_L1y_p2 s x a most xd d1 w1d w2d w3d w4d w5d w6d w7d w8d d2 d3
    | p4 d1 w1d w2d w3d w4d w5d w6d w7d w8d d2 d3 => exact lDo_L1y_p4 s x a most xd d1 w1d w2d w3d w4d w5d w6d w7d w8d d2 d3
  · intro xd y_ hx
    cases hx with
    | p1 d1 w1d w2d w3d w4d w5d w6d w7d w8d d2 d3 => exact lDo_L1y_p1 s x a most xd d1 w1d w2d w3d w4d w5d w6d w7d w8d d2 d3
    | p3 d1 w1d w2d w3d w4d w5d w6d w7d w8d d2 d3 => exact lDo_L1y_p3 s x a most xd d1 w1d w2d w3d w4d w5d w6d w7d w8d d2 d3
    | p5 d1 => exact lDo_L1y_p5 s x a most xd d1
theorem lDo_p1 (s : Snd) (x : RSnd) (a : Act) (most : Int) (w_s : Snd.ok s) (w_a : Act.ok a) (w_most : rng 65536 most) (g0 : Good x.Tones_0) (g1 : Good x.Tones_1) (g2 : Good x.Tones_2) (g3 : Good x.Tones_3) (hmost : 0 < most) (c1 : ((Int.tmod a.Do 8) == 4) = true) (r1 : Int × Bool × Snd × RSnd) (l1 : LoopR (lDo_L1y s x a most) (0, false, s, x) (.inl r1)) : FnSpec Tryd.prog 20 1006 [.pointer (some ⟨1000, 0, none⟩), .pointer (some ⟨1005, 0, none⟩), Act.enc a, .int .u16 most] ([tb0, tb1, tb2, tb4] ++ (Snd.H0 s) ++ [(1005, RSnd.blk x)]) (.bool true) ((Snd.H0 r1.2.2.1) ++ [(1005, RSnd.blk r1.2.2.2)]) := by
  have o1 : most ≠ 0 := by first | decide | omega | (simp only [decide_eq_true_eq, decide_eq_false_iff_not, rng, IntKind.wrap_i64, IntKind.wrap_u8, IntKind.wrap_u16] at *; omega)
  exact fn_of_x hG hM Tryd.func20 (by kernel_rfl) (by kernel_rfl) 400 [.yes, .yes, .segk 1 1 [0, 1, 8, 40, 41] [1, 2, 1000, 1001, 1002, 1003, 1004, 1005] .normal (lDo_L1y_T1 s x a most (.inl r1)) (lDo_L1y_H1 s x a most (.inl r1)) 1007] (J (by decide : ((8 : Int) ≠ 0)) (J c1 (J c1 (J o1 (J (lDo_L1y_runs s x a most (0, false, s, x) (.inl r1) l1) trivial))))) (by kernel_rfl)
theorem lDo_p2 (s : Snd) (x : RSnd) (a : Act) (most : Int) (w_s : Snd.ok s) (w_a : Act.ok a) (w_most : rng 65536 most) (g0 : Good x.Tones_0) (g1 : Good x.Tones_1) (g2 : Good x.Tones_2) (g3 : Good x.Tones_3) (hmost : 0 < most) (c1 : ((Int.tmod a.Do 8) == 4) = false) (c2 : ((Int.tmod a.Do 8) == 5) = true) (r1 : Int × Bool × Snd × RSnd) (l1 : LoopR (lDo_L1y s x a most) (0, false, s, x) (.inl r1)) : FnSpec Tryd.prog 20 1006 [.pointer (some ⟨1000, 0, none⟩), .pointer (some ⟨1005, 0, none⟩), Act.enc a, .int .u16 most] ([tb0, tb1, tb2, tb4] ++ (Snd.H0 s) ++ [(1005, RSnd.blk x)]) (.bool true) ((Snd.H0 r1.2.2.1) ++ [(1005, RSnd.blk r1.2.2.2)]) := by
  have o1 : most ≠ 0 := by first | decide | omega | (simp only [decide_eq_true_eq, decide_eq_false_iff_not, rng, IntKind.wrap_i64, IntKind.wrap_u8, IntKind.wrap_u16] at *; omega)
  exact fn_of_x hG hM Tryd.func20 (by kernel_rfl) (by kernel_rfl) 400 [.no, .yes, .segk 1 1 [0, 1, 8, 40, 41] [1, 2, 1000, 1001, 1002, 1003, 1004, 1005] .normal (lDo_L1y_T1 s x a most (.inl r1)) (lDo_L1y_H1 s x a most (.inl r1)) 1007] (J (by decide : ((8 : Int) ≠ 0)) (J c1 (J c2 (J o1 (J (lDo_L1y_runs s x a most (0, false, s, x) (.inl r1) l1) trivial))))) (by kernel_rfl)
theorem lDo_p3 (s : Snd) (x : RSnd) (a : Act) (most : Int) (w_s : Snd.ok s) (w_a : Act.ok a) (w_most : rng 65536 most) (g0 : Good x.Tones_0) (g1 : Good x.Tones_1) (g2 : Good x.Tones_2) (g3 : Good x.Tones_3) (hmost : 0 < most) (c1 : ((Int.tmod a.Do 8) == 4) = false) (c2 : ((Int.tmod a.Do 8) == 5) = false) (c3 : ((Int.tmod a.Do 8) == 6) = true) : FnSpec Tryd.prog 20 1006 [.pointer (some ⟨1000, 0, none⟩), .pointer (some ⟨1005, 0, none⟩), Act.enc a, .int .u16 most] ([tb0, tb1, tb2, tb4] ++ (Snd.H0 s) ++ [(1005, RSnd.blk x)]) (.bool ((i64.wrap ((sGet s).2)) == (rsGet x).2)) ((Snd.H0 ((sGet s).1)) ++ [(1005, RSnd.blk ((rsGet x).1))]) := by
  exact fn_of_x hG hM Tryd.func20 (by kernel_rfl) (by kernel_rfl) 400 [.no, .no, .yes, .call [(1000, 1000), (1001, 1001), (1002, 1002), (1003, 1003), (1004, 1004)] [] 1005 (.int .u8 ((sGet s).2)) (Snd.H0 ((sGet s).1)), .call [(1005, 1000)] [] 1001 (.int .i64 ((rsGet x).2)) [(1000, RSnd.blk ((rsGet x).1))]] (J (by decide : ((8 : Int) ≠ 0)) (J c1 (J c2 (J c3 (J (sGet_ok s) (J (rsGet_ok x) trivial)))))) (by kernel_rfl)
theorem lDo_p4 (s : Snd) (x : RSnd) (a : Act) (most : Int) (w_s : Snd.ok s) (w_a : Act.ok a) (w_most : rng 65536 most) (g0 : Good x.Tones_0) (g1 : Good x.Tones_1) (g2 : Good x.Tones_2) (g3 : Good x.Tones_3) (hmost : 0 < most) (c1 : ((Int.tmod a.Do 8) == 4) = false) (c2 : ((Int.tmod a.Do 8) == 5) = false) (c3 : ((Int.tmod a.Do 8) == 6) = false) (c4 : ((Int.tmod a.Do 8) == 7) = true) : FnSpec Tryd.prog 20 1006 [.pointer (some ⟨1000, 0, none⟩), .pointer (some ⟨1005, 0, none⟩), Act.enc a, .int .u16 most] ([tb0, tb1, tb2, tb4] ++ (Snd.H0 s) ++ [(1005, RSnd.blk x)]) (.bool true) ((Snd.H0 (sGive s a.B)) ++ [(1005, RSnd.blk (rsGive x (i64.wrap a.B)))]) := by
  exact fn_of_x hG hM Tryd.func20 (by kernel_rfl) (by kernel_rfl) 400 [.no, .no, .no, .yes, .call [(1000, 1000), (1001, 1001), (1002, 1002), (1003, 1003), (1004, 1004)] [] 1005 (.tuple ⟨[]⟩) (Snd.H0 (sGive s a.B)), .call [(1005, 1000)] [] 1001 (.tuple ⟨[]⟩) [(1000, RSnd.blk (rsGive x (i64.wrap a.B)))]] (J (by decide : ((8 : Int) ≠ 0)) (J c1 (J c2 (J c3 (J c4 (J (sGive_ok s a.B) (J (rsGive_ok x (i64.wrap a.B)) trivial))))))) (by kernel_rfl)
theorem lDo_p5 (s : Snd) (x : RSnd) (a : Act) (most : Int) (w_s : Snd.ok s) (w_a : Act.ok a) (w_most : rng 65536 most) (g0 : Good x.Tones_0) (g1 : Good x.Tones_1) (g2 : Good x.Tones_2) (g3 : Good x.Tones_3) (hmost : 0 < most) (c1 : ((Int.tmod a.Do 8) == 4) = false) (c2 : ((Int.tmod a.Do 8) == 5) = false) (c3 : ((Int.tmod a.Do 8) == 6) = false) (c4 : ((Int.tmod a.Do 8) == 7) = false) (c5 : (decide ((Int.tmod a.N 8) > 0)) = true) (w1c : 0 ≤ (i64.wrap (u16.wrap (16384 + (Int.tmod a.At 24)))) ∧ (i64.wrap (u16.wrap (16384 + (Int.tmod a.At 24)))) < 65536) (w2c : 0 ≤ (i64.wrap a.B) ∧ (i64.wrap a.B) < 256) : FnSpec Tryd.prog 20 1006 [.pointer (some ⟨1000, 0, none⟩), .pointer (some ⟨1005, 0, none⟩), Act.enc a, .int .u16 most] ([tb0, tb1, tb2, tb4] ++ (Snd.H0 s) ++ [(1005, RSnd.blk x)]) (.bool true) ((Snd.H0 (sPut s (u16.wrap (16384 + (Int.tmod a.At 24))) a.B)) ++ [(1005, RSnd.blk (rsPut x (i64.wrap (u16.wrap (16384 + (Int.tmod a.At 24)))) (i64.wrap a.B)))]) := by
  exact fn_of_x hG hM Tryd.func20 (by kernel_rfl) (by kernel_rfl) 400 [.no, .no, .no, .no, .yes, .call [(0, 0), (4, 4), (1000, 1000), (1001, 1001), (1002, 1002), (1003, 1003), (1004, 1004)] [] 1005 (.tuple ⟨[]⟩) (Snd.H0 (sPut s (u16.wrap (16384 + (Int.tmod a.At 24))) a.B)), .call [(1005, 1000)] [] 1001 (.tuple ⟨[]⟩) [(1000, RSnd.blk (rsPut x (i64.wrap (u16.wrap (16384 + (Int.tmod a.At 24)))) (i64.wrap a.B)))]] (J (by decide : ((8 : Int) ≠ 0)) (J c1 (J c2 (J c3 (J c4 (J (by decide : ((8 : Int) ≠ 0)) (J c5 (J (by decide : ((24 : Int) ≠ 0)) (J (sPut_ok s (u16.wrap (16384 + (Int.tmod a.At 24))) a.B w_s (rng_wrap_u16 (16384 + (Int.tmod a.At 24))) w_a.B) (J (rsPut_ok x (i64.wrap (u16.wrap (16384 + (Int.tmod a.At 24)))) (i64.wrap a.B) g0 g1 g2 g3 w1c w2c) trivial)))))))))) (by kernel_rfl)
theorem lDo_p6 (s : Snd) (x : RSnd) (a : Act) (most : Int) (w_s : Snd.ok s) (w_a : Act.ok a) (w_most : rng 65536 most) (g0 : Good x.Tones_0) (g1 : Good x.Tones_1) (g2 : Good x.Tones_2) (g3 : Good x.Tones_3) (hmost : 0 < most) (c1 : ((Int.tmod a.Do 8) == 4) = false) (c2 : ((Int.tmod a.Do 8) == 5) = false) (c3 : ((Int.tmod a.Do 8) == 6) = false) (c4 : ((Int.tmod a.Do 8) == 7) = false) (c5 : (decide ((Int.tmod a.N 8) > 0)) = false) (w1c : 0 ≤ (i64.wrap a.At) ∧ (i64.wrap a.At) < 65536) (w2c : 0 ≤ (i64.wrap a.B) ∧ (i64.wrap a.B) < 256) : FnSpec Tryd.prog 20 1006 [.pointer (some ⟨1000, 0, none⟩), .pointer (some ⟨1005, 0, none⟩), Act.enc a, .int .u16 most] ([tb0, tb1, tb2, tb4] ++ (Snd.H0 s) ++ [(1005, RSnd.blk x)]) (.bool true) ((Snd.H0 (sPut s a.At a.B)) ++ [(1005, RSnd.blk (rsPut x (i64.wrap a.At) (i64.wrap a.B)))]) := by
  exact fn_of_x hG hM Tryd.func20 (by kernel_rfl) (by kernel_rfl) 400 [.no, .no, .no, .no, .no, .call [(0, 0), (4, 4), (1000, 1000), (1001, 1001), (1002, 1002), (1003, 1003), (1004, 1004)] [] 1005 (.tuple ⟨[]⟩) (Snd.H0 (sPut s a.At a.B)), .call [(1005, 1000)] [] 1001 (.tuple ⟨[]⟩) [(1000, RSnd.blk (rsPut x (i64.wrap a.At) (i64.wrap a.B)))]] (J (by decide : ((8 : Int) ≠ 0)) (J c1 (J c2 (J c3 (J c4 (J (by decide : ((8 : Int) ≠ 0)) (J c5 (J (sPut_ok s a.At a.B w_s w_a.At w_a.B) (J (rsPut_ok x (i64.wrap a.At) (i64.wrap a.B) g0 g1 g2 g3 w1c w2c) trivial))))))))) (by kernel_rfl)
end Go.Proofs.YtgpcfjokmonlgaaDoor
namespace Go.Proofs.YtgpcfjokmonlgaaDoor
open Go VX IntWalk
open Go.IntKind (i64 u8 u16)
set_option maxRecDepth 100000
set_option linter.unusedSimpArgs false
set_option linter.unusedVariables false
def rowL (n : Int) : List Int := [(Int.tmod n 2), (Int.tmod (i64.wrap (Int.tdiv n 2)) 2), (Int.tmod (i64.wrap (Int.tdiv (i64.wrap (Int.tdiv n 2)) 2)) 2), (Int.tmod (i64.wrap (Int.tdiv (i64.wrap (Int.tdiv (i64.wrap (Int.tdiv n 2)) 2)) 2)) 2), (Int.tmod (i64.wrap (Int.tdiv (i64.wrap (Int.tdiv (i64.wrap (Int.tdiv (i64.wrap (Int.tdiv n 2)) 2)) 2)) 2)) 2), (Int.tmod (i64.wrap (Int.tdiv (i64.wrap (Int.tdiv (i64.wrap (Int.tdiv (i64.wrap (Int.tdiv (i64.wrap (Int.tdiv n 2)) 2)) 2)) 2)) 2)) 2), (Int.tmod (i64.wrap (Int.tdiv (i64.wrap (Int.tdiv (i64.wrap (Int.tdiv (i64.wrap (Int.tdiv (i64.wrap (Int.tdiv (i64.wrap (Int.tdiv n 2)) 2)) 2)) 2)) 2)) 2)) 2), (Int.tmod (i64.wrap (Int.tdiv (i64.wrap (Int.tdiv (i64.wrap (Int.tdiv (i64.wrap (Int.tdiv (i64.wrap (Int.tdiv (i64.wrap (Int.tdiv (i64.wrap (Int.tdiv n 2)) 2)) 2)) 2)) 2)) 2)) 2)) 2)]
theorem rowL_eq (n : Int) (hn : 0 ≤ n ∧ n < 256) (j : Nat) (hj : j < 8) : (rowL n).getD j 0 = n / 2 ^ j % 2 := by
  have h := allN_int (k := 8) (f := fun i => (List.range 8).all fun j => decide ((rowL (i : Int)).getD j 0 = (i : Int) / 2 ^ j % 2)) (by decide +kernel) n hn.1 (by omega)
  have e : ((n.toNat : Nat) : Int) = n := by omega
  simp only [e] at h
  have := List.all_eq_true.1 h j (List.mem_range.2 hj)
  simpa using this
def lvF (q : RSmp) : Int := if q.Silent = true then q.Level else
  if (List.getD ([(q.Row 0), (q.Row 1), (q.Row 2), (q.Row 3), (q.Row 4), (q.Row 5), (q.Row 6), (q.Row 7)] : List Int) (Int.toNat (8 - q.Bits)) 0) = 1 then (if q.Level + 2 ≤ 127 then q.Level + 2 else q.Level) else (if 0 ≤ q.Level - 2 then q.Level - 2 else q.Level)
def rSmpF (q : RSmp) : RSmp := if q.Timer > 0 then { q with Reg := stN 4 (fun _ => 0) q.Reg, Timer := q.Timer - 1 } else
  { Reg := stN 4 (fun _ => 0) q.Reg, Level := lvF q, Next := if q.Bits - 1 = 0 ∧ 0 ≤ q.Next then -1 else q.Next, Row := if q.Bits - 1 = 0 ∧ 0 ≤ q.Next then (fun j => (rowL q.Next).getD j 0) else q.Row,
    Bits := if q.Bits - 1 = 0 then 8 else q.Bits - 1, Silent := if q.Bits - 1 = 0 then decide (q.Next < 0) else q.Silent, Timer := ratesT (q.Reg 0 % 16).toNat - 1, At := q.At, Left := q.Left, IRQ := q.IRQ,
    told := if q.Bits - 1 = 0 ∧ 0 ≤ q.Next then true else q.told }
theorem rSmp_eq (q : RSmp) (hb : 1 ≤ q.Bits ∧ q.Bits ≤ 8) (h0 : 0 ≤ q.Reg 0 ∧ q.Reg 0 < 256) (hl : 0 ≤ q.Level ∧ q.Level ≤ 127) (ht : 0 ≤ q.Timer ∧ q.Timer < 65536) : rSmp q = rSmpF q := by
  have er : Int.tmod (q.Reg 0) 16 = q.Reg 0 % 16 := Int.tmod_eq_emod_of_nonneg h0.1
  have hp := rates_pos (q.Reg 0 % 16).toNat (by omega)
  have eR : (List.getD ([428, 380, 340, 320, 286, 254, 226, 214, 190, 160, 142, 128, 106, 84, 72, 54] : List Int) (Int.toNat (Int.tmod (q.Reg 0) 16)) 0) = ratesT (q.Reg 0 % 16).toNat := by rw [er]; rfl
  unfold rSmp rSmpF lvF
  rw [eR, i64_in (q.Timer - 1) (by omega), i64_in (8 - q.Bits) (by omega), i64_in (q.Level + 2) (by omega), i64_in (q.Level - 2) (by omega), i64_in (q.Bits - 1) (by omega), i64_in (ratesT (q.Reg 0 % 16).toNat - 1) (by omega)]
  generalize (List.getD ([(q.Row 0), (q.Row 1), (q.Row 2), (q.Row 3), (q.Row 4), (q.Row 5), (q.Row 6), (q.Row 7)] : List Int) (Int.toNat (8 - q.Bits)) 0) = G
  by_cases c1 : 0 < q.Timer
  · rw [if_pos (by simpa using c1), if_pos c1]
  rw [if_neg (by simpa using c1), if_neg c1]
  by_cases cb : q.Bits - 1 = 0
  · have cb' : ((q.Bits - 1 : Int) == 0) = true := by simpa using cb
    by_cases cn : 0 ≤ q.Next
    · have cn' : (!(decide ((q.Next : Int) < 0))) = true := by simpa using cn
      have cn2 : decide (q.Next < 0) = false := by simpa using cn
      simp only [cb', cn', cn2, cb, cn, if_true, and_self]
      cases hs : q.Silent
      · by_cases c2 : G = 1
        · by_cases c3 : q.Level + 2 ≤ 127
          · simp [c2, c3, show 0 ≤ q.Level + 2 by omega, rowL]
          · simp [c2, c3, show 0 ≤ q.Level + 2 by omega, rowL]
        · by_cases c3 : 2 ≤ q.Level
          · simp [c2, c3, show q.Level - 2 ≤ 127 by omega, rowL]
          · simp [c2, c3, rowL]
      · simp [rowL]
    · have cn' : (!(decide ((q.Next : Int) < 0))) = false := by simp; omega
      have cn2 : decide (q.Next < 0) = true := by simp; omega
      simp only [cb', cn', cn2, cb, cn, if_true, and_false, if_false]
      cases hs : q.Silent
      · by_cases c2 : G = 1
        · by_cases c3 : q.Level + 2 ≤ 127
          · simp [c2, c3, show 0 ≤ q.Level + 2 by omega]
          · simp [c2, c3, show 0 ≤ q.Level + 2 by omega]
        · by_cases c3 : 2 ≤ q.Level
          · simp [c2, c3, show q.Level - 2 ≤ 127 by omega]
          · simp [c2, c3]
      · simp
  · have cb' : ((q.Bits - 1 : Int) == 0) = false := by simpa using cb
    simp only [cb', cb, false_and, if_false]
    cases hs : q.Silent
    · by_cases c2 : G = 1
      · by_cases c3 : q.Level + 2 ≤ 127
        · simp [c2, c3, show 0 ≤ q.Level + 2 by omega]
        · simp [c2, c3, show 0 ≤ q.Level + 2 by omega]
      · by_cases c3 : 2 ≤ q.Level
        · simp [c2, c3, show q.Level - 2 ≤ 127 by omega]
        · simp [c2, c3]
    · simp
end Go.Proofs.YtgpcfjokmonlgaaDoor
namespace Go.Proofs.YtgpcfjokmonlgaaDoor
open Go VX IntWalk
open Go.IntKind (i64 u8 u16)
set_option maxRecDepth 100000
set_option linter.unusedSimpArgs false
set_option linter.unusedVariables false
theorem ite_indT {P : Tone → Prop} {c : Prop} [Decidable c] {a b : Tone} (ha : c → P a) (hb : ¬ c → P b) : P (if c then a else b) := by
  by_cases h : c
  · rw [if_pos h]; exact ha h
  · rw [if_neg h]; exact hb h
def QuarterQ (t s : Tone) : Prop := s.kind = t.kind ∧ s.on = t.on ∧ s.reg = t.reg ∧ s.step = t.step ∧ s.row = t.row ∧ s.length = t.length ∧ (s.level = t.level ∨ s.level = 15 ∨ (0 < t.level ∧ s.level = u8.wrap (t.level - 1)))
theorem quarter_q (t : Tone) : QuarterQ t (tQuarter t) := by
  unfold tQuarter
  repeat' (refine ite_indT (P := QuarterQ t) (fun _ => ?_) (fun _ => ?_))
  all_goals first
    | exact ⟨rfl, rfl, rfl, rfl, rfl, rfl, .inl rfl⟩
    | exact ⟨rfl, rfl, rfl, rfl, rfl, rfl, .inr (.inl rfl)⟩
    | (rename_i h; exact ⟨rfl, rfl, rfl, rfl, rfl, rfl, .inr (.inr ⟨by simpa using h, rfl⟩)⟩)
def HalfQ (t s : Tone) : Prop := s.kind = t.kind ∧ s.on = t.on ∧ s.reg = t.reg ∧ s.step = t.step ∧ s.row = t.row ∧ s.level = t.level ∧
  ((decide (t.length > 0) = true ∧ s.length = u8.wrap (t.length - 1)) ∨ (s.length = t.length ∧ (¬ decide (t.length > 0) = true ∨ ¬ (bAnd .u8 (t.reg 0) 128 == 0) = true ∨ ¬ (bAnd .u8 (t.reg 0) 32 == 0) = true)))
theorem half_q (t : Tone) : HalfQ t (tHalf t) := by
  unfold tHalf
  repeat' (refine ite_indT (P := HalfQ t) (fun _ => ?_) (fun _ => ?_))
  all_goals first
    | exact ⟨rfl, rfl, rfl, rfl, rfl, rfl, .inl ⟨by assumption, rfl⟩⟩
    | exact ⟨rfl, rfl, rfl, rfl, rfl, rfl, .inr ⟨rfl, .inl (by assumption)⟩⟩
    | exact ⟨rfl, rfl, rfl, rfl, rfl, rfl, .inr ⟨rfl, .inr (.inl (by assumption))⟩⟩
    | exact ⟨rfl, rfl, rfl, rfl, rfl, rfl, .inr ⟨rfl, .inr (.inr (by assumption))⟩⟩
def ClockQ (t s : Tone) : Prop := s.kind = t.kind ∧ s.on = t.on ∧ s.reg = t.reg ∧ s.length = t.length ∧ s.level = t.level ∧
  (s.step = t.step ∨ (t.kind = 2 ∧ 0 < t.length ∧ s.step = Int.tmod (u8.wrap (t.step + 1)) 32) ∨ (t.kind ≠ 2 ∧ s.step = Int.tmod (u8.wrap (t.step + 1)) 8))
theorem clock_q (t : Tone) : ClockQ t (tClock t) := by
  unfold tClock
  refine ite_indT (P := ClockQ t) (fun _ => ⟨rfl, rfl, rfl, rfl, rfl, .inl rfl⟩) (fun _ => ?_)
  refine ite_indT (P := ClockQ t) (fun hk => ?_) (fun hk => ?_)
  · have hk' : t.kind = 2 := by simpa using hk
    refine ite_indT (P := ClockQ t) (fun hl => ?_) (fun _ => ⟨rfl, rfl, rfl, rfl, rfl, .inl rfl⟩)
    have hl' : 0 < t.length := by simpa using hl
    exact ite_indT (P := ClockQ t) (fun _ => ⟨rfl, rfl, rfl, rfl, rfl, .inr (.inl ⟨hk', hl', rfl⟩)⟩) (fun _ => ⟨rfl, rfl, rfl, rfl, rfl, .inl rfl⟩)
  · have hk' : t.kind ≠ 2 := by simpa using hk
    refine ite_indT (P := ClockQ t) (fun _ => ?_) (fun _ => ⟨rfl, rfl, rfl, rfl, rfl, .inr (.inr ⟨hk', rfl⟩)⟩)
    exact ite_indT (P := ClockQ t) (fun _ => ⟨rfl, rfl, rfl, rfl, rfl, .inl rfl⟩) (fun _ => ⟨rfl, rfl, rfl, rfl, rfl, .inl rfl⟩)
theorem enable_q (t : Tone) (on : Bool) : (tEnable t on).kind = t.kind ∧ (tEnable t on).on = on ∧ (tEnable t on).reg = t.reg ∧ (tEnable t on).step = t.step ∧ (tEnable t on).row = t.row ∧ (tEnable t on).level = t.level ∧ (tEnable t on).length = if on = true then t.length else 0 := by
  unfold tEnable
  cases on <;> simp
def HighQ (t s : Tone) (b : Int) : Prop := s.kind = t.kind ∧ s.on = t.on ∧ s.reg = t.reg ∧ s.row = t.row ∧ s.level = t.level ∧ (s.step = t.step ∨ s.step = 0) ∧ s.length = if t.on = true then lengthsT (Int.toNat (bShr .u8 b 3)) else t.length
theorem high_q (t : Tone) (b : Int) : HighQ t (tHigh t b) b := by
  unfold tHigh
  refine ite_indT (P := fun s => HighQ t s b) (fun ho => ?_) (fun ho => ?_)
  · repeat' (refine ite_indT (P := fun s => HighQ t s b) (fun _ => ?_) (fun _ => ?_))
    all_goals first
      | exact ⟨rfl, rfl, rfl, rfl, rfl, .inl rfl, by rw [if_pos ho]⟩
      | exact ⟨rfl, rfl, rfl, rfl, rfl, .inr rfl, by rw [if_pos ho]⟩
  · repeat' (refine ite_indT (P := fun s => HighQ t s b) (fun _ => ?_) (fun _ => ?_))
    all_goals first
      | exact ⟨rfl, rfl, rfl, rfl, rfl, .inl rfl, by rw [if_neg ho]⟩
      | exact ⟨rfl, rfl, rfl, rfl, rfl, .inr rfl, by rw [if_neg ho]⟩
def PutQ (t s : Tone) : Prop := s.kind = t.kind ∧ s.on = t.on ∧ s.level = t.level ∧ (s.step = t.step ∨ s.step = 0)
theorem put_q (r : Nat) (t : Tone) (b : Int) : PutQ t (tPutN r t b) := by
  unfold tPutN
  refine ite_indT (P := PutQ t) (fun _ => ⟨rfl, rfl, rfl, .inl rfl⟩) (fun _ => ?_)
  refine ite_indT (P := PutQ t) (fun _ => ⟨rfl, rfl, rfl, .inl rfl⟩) (fun _ => ?_)
  refine ite_indT (P := PutQ t) (fun _ => ?_) (fun _ => ?_)
  · unfold tPut_2
    exact ite_indT (P := PutQ t) (fun _ => ⟨rfl, rfl, rfl, .inl rfl⟩) (fun _ => ⟨rfl, rfl, rfl, .inl rfl⟩)
  · obtain ⟨h1, h2, _, _, h5, h6, _⟩ := high_q ({ t with reg := upd t.reg 3 b } : Tone) b
    exact ⟨h1, h2, h5, h6⟩
theorem putN_w {t : Tone} (h : Tone.ok t) (r : Nat) {b : Int} (hb : rng 256 b) : Tone.ok (tPutN r t b) := by
  unfold tPutN
  split
  · exact tPut_0_w t b h hb
  split
  · exact tPut_1_w t b h hb
  split
  · exact tPut_2_w t b h hb
  · exact tPut_3_w t b h hb
structure RInv (k : Int) (t : Tone) : Prop where
  ok : Tone.ok t
  kind : t.kind = k
  step : t.step < 32
  level : t.level ≤ 15
theorem rinv_cl : Cl RInv where
  ok _ _ h := h.ok
  q k t h := by
    obtain ⟨h1, _, _, h4, _, _, h7⟩ := quarter_q t
    have hl := h.ok.level
    have hl2 := h.level
    unfold rng at hl
    refine ⟨tQuarter_w t h.ok, h1.trans h.kind, by rw [h4]; exact h.step, ?_⟩
    rcases h7 with e | e | ⟨e0, e⟩
    · rw [e]; exact hl2
    · rw [e]; decide
    · rw [e, u8_in _ (by omega)]; omega
  h k t h := by
    obtain ⟨h1, _, _, h4, _, h6, _⟩ := half_q t
    exact ⟨tHalf_w t h.ok, h1.trans h.kind, by rw [h4]; exact h.step, by rw [h6]; exact h.level⟩
  c k t h := by
    obtain ⟨h1, _, _, _, h5, h6⟩ := clock_q t
    have hs := h.ok.step
    have hs2 := h.step
    unfold rng at hs
    refine ⟨tClock_w t h.ok, h1.trans h.kind, ?_, by rw [h5]; exact h.level⟩
    have u : u8.wrap (t.step + 1) = t.step + 1 := u8_in _ (by omega)
    rcases h6 with e | ⟨_, _, e⟩ | ⟨_, e⟩
    · rw [e]; exact hs2
    · rw [e, u, Int.tmod_eq_emod_of_nonneg (by omega)]; omega
    · rw [e, u, Int.tmod_eq_emod_of_nonneg (by omega)]; omega
  put k t r b hr hb h := by
    obtain ⟨h1, _, h3, h4⟩ := put_q r t b
    refine ⟨putN_w h.ok r hb, h1.trans h.kind, ?_, by rw [h3]; exact h.level⟩
    rcases h4 with e | e <;> rw [e]
    · exact h.step
    · decide
  en k t on h := by
    obtain ⟨h1, _, _, h4, _, h6, _⟩ := enable_q t on
    exact ⟨tEnable_w t on h.ok, h1.trans h.kind, by rw [h4]; exact h.step, by rw [h6]; exact h.level⟩
theorem volume_le {k : Int} {t : Tone} (h : RInv k t) : 0 ≤ tVolume t ∧ tVolume t ≤ 15 := by
  have hr := h.ok.reg 0
  have hl := h.ok.level
  have hl2 := h.level
  unfold rng at hr hl
  unfold tVolume
  rw [and8_15 hr]
  split <;> omega
def In15 (x : Int) : Prop := 0 ≤ x ∧ x ≤ 15
theorem ite_in15 {c : Prop} [Decidable c] {a b : Int} (ha : c → In15 a) (hb : ¬ c → In15 b) : In15 (if c then a else b) := by
  by_cases h : c
  · rw [if_pos h]; exact ha h
  · rw [if_neg h]; exact hb h
theorem out_le {k : Int} {t : Tone} (h : RInv k t) : 0 ≤ tOut t ∧ tOut t ≤ 15 := by
  have hv := volume_le h
  have hs := h.ok.step
  have hs2 := h.step
  unfold rng at hs
  show In15 (tOut t)
  unfold tOut
  generalize tVolume t = v at hv ⊢
  refine ite_in15 (fun _ => ?_) (fun _ => ?_)
  · refine ite_in15 (fun hc => ?_) (fun hc => ?_)
    · have : t.step < 16 := by simpa using hc
      rw [u8_in _ (by omega)]; unfold In15; omega
    · have : ¬ t.step < 16 := by simpa using hc
      rw [u8_in _ (by omega)]; unfold In15; omega
  · repeat' (refine ite_in15 (fun _ => ?_) (fun _ => ?_))
    all_goals first | exact hv | exact ⟨by decide, by decide⟩
theorem sout_eq {s : Snd} (h : SInv RInv s) : sOut s = 752 * (tOut s.tones_0 + tOut s.tones_1) + 851 * tOut s.tones_2 + 494 * tOut s.tones_3 + 335 * s.sample.level := by
  have h0 := out_le h.t0
  have h1 := out_le h.t1
  have h2 := out_le h.t2
  have h3 := out_le h.t3
  have hl := h.m.level
  have hl2 := h.m.ok.level
  unfold rng at hl2
  unfold sOut sOut1_0 sOut1_1 sOut1_2 sOut1_3
  simp (disch := omega) only [i64_in]
theorem new_rinv : SInv RInv sNew :=
  ⟨⟨tNew_0_w, rfl, by decide, by decide⟩, ⟨tNew_1_w, rfl, by decide, by decide⟩, ⟨tNew_2_w, rfl, by decide, by decide⟩, ⟨tNew_3_w, rfl, by decide, by decide⟩, new_minv, new_cinv⟩
end Go.Proofs.YtgpcfjokmonlgaaDoor
namespace Go.Proofs.YtgpcfjokmonlgaaDoor
open Go VX IntWalk
open Go.IntKind (i64 u8 u16)
set_option maxRecDepth 100000
set_option linter.unusedSimpArgs false
set_option linter.unusedVariables false
structure RelM (m : Smp) (r : RSmp) : Prop where
  reg : ∀ j, j < 4 → r.Reg j = m.reg j
  level : r.Level = m.level
  next : r.Next = if m.waits = true then m.next else -1
  bits : r.Bits = m.bits
  silent : r.Silent = !m.speaks
  row : m.speaks = true → r.told = true ∧ ∀ j : Nat, j < 8 → 8 - m.bits ≤ (j : Int) → r.Row j = m.row / 2 ^ (j - (8 - m.bits).toNat) % 2
  timer : r.Timer = m.timer
  at_ : r.At = m.at_
  left : r.Left = m.left
  irq : r.IRQ = m.irq
theorem getD8 (f : Nat → Int) (k : Nat) (hk : k < 8) : List.getD ([(f 0), (f 1), (f 2), (f 3), (f 4), (f 5), (f 6), (f 7)] : List Int) k 0 = f k := by
  match k, hk with
  | 0, _ => rfl
  | 1, _ => rfl
  | 2, _ => rfl
  | 3, _ => rfl
  | 4, _ => rfl
  | 5, _ => rfl
  | 6, _ => rfl
  | 7, _ => rfl
  | k + 8, h => omega
theorem stN4 (a F : Nat → Int) (j : Nat) (hj : j < 4) : stN 4 a F j = F j := by rw [stN_lt, if_pos hj]
theorem smp_sim {m : Smp} {q : RSmp} (h : MInv m) (r : RelM m q) : RelM m.clock (rSmp q) := by
  have hb := h.bits
  have h0 := h.ok.reg 0
  have hl := h.ok.level
  have hl2 := h.level
  have htm := h.ok.timer
  have hrow := h.ok.row
  have hnx := h.ok.next
  unfold rng at h0 hl htm hrow hnx
  rw [rSmp_eq q (by rw [r.bits]; exact hb) (by rw [r.reg 0 (by decide)]; exact h0) (by rw [r.level]; exact ⟨hl.1, hl2⟩) (by rw [r.timer]; exact htm)]
  unfold rSmpF Smp.clock
  rw [r.timer]
  by_cases ct : 0 < m.timer
  · rw [if_pos ct, if_pos ct]
    exact ⟨fun j hj => (stN4 _ _ j hj).trans (r.reg j hj), r.level, r.next, r.bits, r.silent, r.row, rfl, r.at_, r.left, r.irq⟩
  rw [if_neg ct, if_neg ct]
  obtain ⟨q1, q2, q3, q4, q5, q6, q7, q8, q9⟩ := bit_same m
  have hlv : lvF q = m.bit.level := by
    unfold lvF Smp.bit
    rw [r.silent, r.level, r.bits]
    cases hs : m.speaks with
    | false => simp
    | true =>
      obtain ⟨_, hr⟩ := r.row hs
      have hg := getD8 q.Row (8 - m.bits).toNat (by omega)
      have hr' := hr (8 - m.bits).toNat (by omega) (by omega)
      rw [hg, hr', Nat.sub_self, Int.pow_zero, Int.ediv_one]
      by_cases c : m.row % 2 = 1
      · by_cases c2 : m.level ≤ 125
        · simp [c, c2, show m.level + 2 ≤ 127 by omega]
        · simp [c, c2, show ¬ m.level + 2 ≤ 127 by omega]
      · by_cases c2 : 2 ≤ m.level
        · simp [c, c2]
        · simp [c, c2]
  have hrate : ratesT (q.Reg 0 % 16).toNat - 1 = ratesT (m.reg 0 % 16).toNat - 1 := by rw [r.reg 0 (by decide)]
  by_cases c1 : 1 < m.bits
  · have cb : ¬ q.Bits - 1 = 0 := by rw [r.bits]; omega
    rw [if_pos c1]
    simp only [cb, false_and, if_false]
    refine ⟨fun j hj => (stN4 _ _ j hj).trans ((r.reg j hj).trans (by rw [q1])), hlv, ?_, by show q.Bits - 1 = m.bits - 1; rw [r.bits], ?_, fun hs => ?_, hrate, by show q.At = m.bit.at_; rw [q7]; exact r.at_, by show q.Left = m.bit.left; rw [q8]; exact r.left, by show q.IRQ = m.bit.irq; rw [q9]; exact r.irq⟩
    · show q.Next = if m.bit.waits = true then m.bit.next else -1
      rw [q3, q2]; exact r.next
    · show q.Silent = !m.bit.speaks
      rw [q5]; exact r.silent
    · have hs' : m.speaks = true := by rw [← q5]; exact hs
      obtain ⟨t1, t2⟩ := r.row hs'
      refine ⟨t1, fun j hj hk => ?_⟩
      show q.Row j = m.bit.row / 2 ^ (j - (8 - (m.bits - 1)).toNat) % 2
      have hk' : 8 - (m.bits - 1) ≤ (j : Int) := hk
      rw [t2 j hj (by omega)]
      have er : m.bit.row = m.row / 2 := by unfold Smp.bit; rw [if_neg (by rw [hs']; decide)]
      rw [er]
      have ee : j - (8 - m.bits).toNat = (j - (8 - (m.bits - 1)).toNat) + 1 := by omega
      rw [ee, Int.pow_succ, Int.mul_comm, ← Int.ediv_ediv_of_nonneg (by decide)]
  · have cb : q.Bits - 1 = 0 := by rw [r.bits]; omega
    rw [if_neg c1]
    simp only [cb, true_and, if_true]
    cases hw : m.waits with
    | true =>
      have hn : q.Next = m.next := by rw [r.next, hw]; rfl
      have cn : 0 ≤ q.Next := by rw [hn]; exact hnx.1
      have cd : decide (q.Next < 0) = false := by simp; omega
      simp only [cn, cd, if_true]
      refine ⟨fun j hj => (stN4 _ _ j hj).trans ((r.reg j hj).trans (by rw [q1])), hlv, rfl, rfl, rfl, fun _ => ⟨rfl, fun j hj _ => ?_⟩, hrate, by show q.At = m.bit.at_; rw [q7]; exact r.at_, by show q.Left = m.bit.left; rw [q8]; exact r.left, by show q.IRQ = m.bit.irq; rw [q9]; exact r.irq⟩
      show (rowL q.Next).getD j 0 = m.next / 2 ^ (j - ((8 : Int) - 8).toNat) % 2
      rw [hn, rowL_eq m.next hnx j hj]; rfl
    | false =>
      have hn : q.Next = -1 := by rw [r.next, hw]; rfl
      have cn : ¬ 0 ≤ q.Next := by rw [hn]; decide
      have cd : decide (q.Next < 0) = true := by rw [hn]; rfl
      simp only [cn, cd, if_false, Bool.false_eq_true]
      refine ⟨fun j hj => (stN4 _ _ j hj).trans ((r.reg j hj).trans (by rw [q1])), hlv, ?_, rfl, rfl, fun hs => (by cases hs), hrate, by show q.At = m.bit.at_; rw [q7]; exact r.at_, by show q.Left = m.bit.left; rw [q8]; exact r.left, by show q.IRQ = m.bit.irq; rw [q9]; exact r.irq⟩
      show q.Next = if m.bit.waits = true then m.bit.next else -1
      rw [q3, hw, hn]; rfl
theorem rbit_eq (n k : Int) (hn : 0 ≤ n ∧ n < 256) (hk : 0 < k) : rBit n k = decide (n / k % 2 = 1) := by
  have h0 : 0 ≤ n / k := Int.ediv_nonneg hn.1 (by omega)
  have h1 : n / k ≤ n := Int.ediv_le_self _ hn.1
  unfold rBit
  rw [Int.tdiv_eq_ediv_of_nonneg hn.1, i64_in _ (by omega), Int.tmod_eq_emod_of_nonneg h0]
  by_cases c : n / k % 2 = 1
  · simp [c]
  · simp [c]
theorem CH_ge (r : Nat → Int) (j : Nat) (hj : 4 ≤ j) : CH r j = 0 := by
  have e : ∀ k, k < 4 → Nat.beq j k = false := fun k hk => by cases h : Nat.beq j k with | false => rfl | true => have := Nat.eq_of_beq_eq_true h; omega
  unfold CH upd
  rw [e 3 (by decide), e 2 (by decide), e 1 (by decide), e 0 (by decide)]; rfl
theorem st_emb (t t' : Tone) : ({ emb t' with Reg := stN 4 (emb t).Reg (emb t').Reg } : RTone) = emb t' := by
  have e : stN 4 (emb t).Reg (emb t').Reg = (emb t').Reg := by
    funext j
    rw [stN_lt]
    by_cases c : j < 4
    · rw [if_pos c]
    · rw [if_neg c]
      show CH t.reg j = CH t'.reg j
      rw [CH_ge _ _ (by omega), CH_ge _ _ (by omega)]
  rw [e]
theorem st_new (f : Nat → Int) (hf : ∀ j, 4 ≤ j → f j = 0) (t' : Tone) : ({ emb t' with Reg := stN 4 f (emb t').Reg } : RTone) = emb t' := by
  have e : stN 4 f (emb t').Reg = (emb t').Reg := by
    funext j
    rw [stN_lt]
    by_cases c : j < 4
    · rw [if_pos c]
    · rw [if_neg c, hf j (by omega)]
      exact (CH_ge t'.reg j (by omega)).symm
  rw [e]
def IInv (k : Int) (t : Tone) : Prop := Inv t ∧ t.kind = k
theorem putN_eq (r : Nat) (hr : r < 4) (t : Tone) (b : Int) : tPutN r t b = tPut t (r : Int) b := by
  match r, hr with
  | 0, _ => rfl
  | 1, _ => rfl
  | 2, _ => rfl
  | 3, _ => rfl
  | r + 4, h => omega
theorem iinv_cl : Cl IInv where
  ok _ _ h := h.1.ok
  q k t h := ⟨inv_quarter h.1, (quarter_q t).1.trans h.2⟩
  h k t h := ⟨inv_half h.1, (half_q t).1.trans h.2⟩
  c k t h := ⟨inv_clock h.1, (clock_q t).1.trans h.2⟩
  put k t r b hr hb h := ⟨by rw [putN_eq r hr]; exact inv_put h.1 _ _ ⟨by omega, by omega⟩ hb, (put_q r t b).1.trans h.2⟩
  en k t on h := ⟨inv_enable h.1 on, (enable_q t on).1.trans h.2⟩
structure Rel (s : Snd) (x : RSnd) : Prop where
  t0 : x.Tones_0 = emb s.tones_0
  t1 : x.Tones_1 = emb s.tones_1
  t2 : x.Tones_2 = emb s.tones_2
  t3 : x.Tones_3 = emb s.tones_3
  m : RelM s.sample x.M
  cnt : x.Count = s.count
  long : x.Long = decide (s.manner = 1)
  bar : x.Barred = s.bars
  irq : x.IRQ = s.irq
  cyc : ((Int.tmod x.Cycles 2 : Int) == 0) = !s.even
  rng : -9223372036854775808 ≤ x.Cycles ∧ x.Cycles ≤ 9223372036854775807
abbrev SI (s : Snd) : Prop := SInv IInv s
theorem SI.g {s : Snd} {x : RSnd} (h : SI s) (r : Rel s x) : Good x.Tones_0 ∧ Good x.Tones_1 ∧ Good x.Tones_2 ∧ Good x.Tones_3 :=
  ⟨by rw [r.t0]; exact emb_good h.t0.1, by rw [r.t1]; exact emb_good h.t1.1, by rw [r.t2]; exact emb_good h.t2.1, by rw [r.t3]; exact emb_good h.t3.1⟩
theorem SI.xh {s : Snd} {x : RSnd} (h : SI s) (r : Rel s x) : (1 ≤ x.M.Bits ∧ x.M.Bits ≤ 8) ∧ ((!x.M.Silent) = true → x.M.told = true) ∧ (0 ≤ x.M.Reg 0 ∧ x.M.Reg 0 < 256) := by
  refine ⟨by rw [r.m.bits]; exact h.m.bits, fun hs => ?_, by rw [r.m.reg 0 (by decide)]; exact h.m.ok.reg 0⟩
  rw [r.m.silent] at hs
  exact (r.m.row (by simpa using hs)).1
theorem rel_asks {s : Snd} {x : RSnd} (h : SI s) (r : Rel s x) : rsAsks x = mAsks s := by
  have hn := h.m.ok.next
  unfold VX.rng at hn
  unfold rsAsks
  rw [asks_eq, r.m.next, r.m.left]
  cases hw : s.sample.waits
  · simp
  · have : ¬ s.sample.next < 0 := by omega
    simp [this]
theorem rel_like {s : Snd} {x : RSnd} (h : SI s) (r : Rel s x) : lLike s x = true := by
  have e1 := rel_asks h r
  have hT0 := tOut_rng h.t0.1
  have hT1 := tOut_rng h.t1.1
  have hT2 := tOut_rng h.t2.1
  have hT3 := tOut_rng h.t3.1
  have ha := h.m.ok.at_
  unfold VX.rng at ha
  have hl := h.m.level
  have hl2 := h.m.ok.level
  unfold VX.rng at hl2
  have eo : sOut s = rsOut x := by
    unfold sOut rsOut sOut1_0 sOut1_1 sOut1_2 sOut1_3
    rw [r.t0, r.t1, r.t2, r.t3, emb_out h.t0.1, emb_out h.t1.1, emb_out h.t2.1, emb_out h.t3.1, r.m.level]
    rw [i64_in (tOut s.tones_0) (by omega), i64_in (tOut s.tones_1) (by omega), i64_in (tOut s.tones_2) (by omega), i64_in (tOut s.tones_3) (by omega), i64_in s.sample.level (by omega)]
  have ei : sIRQ s = (x.IRQ || x.M.IRQ) := by
    unfold sIRQ
    rw [r.irq, r.m.irq]
    cases s.irq <;> simp
  unfold lLike
  have es : sAsks s = if mAsks s = true then (s.sample.at_, true) else (0, false) := by unfold sAsks; cases mAsks s <;> rfl
  have hat : i64.wrap s.sample.at_ = x.M.At := by rw [i64_in _ (by omega), r.m.at_]
  rw [e1, es, eo, ei]
  cases mAsks s <;> cases x.IRQ <;> cases x.M.IRQ <;> simp [hat]
theorem put_alike {t : Tone} {X : RTone} (h : Inv t) (e : X = emb t) (r : Nat) (hr : r < 4) {b : Int} (hb : rng 256 b) : ({ rPut X (r : Int) b with Reg := stN 4 X.Reg (rPut X (r : Int) b).Reg } : RTone) = emb (tPutN r t b) := by
  subst e
  rw [emb_put h (r : Int) b ⟨by omega, by omega⟩ hb, st_emb, putN_eq r hr]
theorem en_alike {t : Tone} {X : RTone} (e : X = emb t) (on : Bool) : ({ rEnable X on with Reg := stN 4 X.Reg (rEnable X on).Reg } : RTone) = emb (tEnable t on) := by
  subst e
  rw [emb_enable, st_emb]
theorem q_alike {t : Tone} {X : RTone} (h : Inv t) (e : X = emb t) : ({ rQuarter X with Reg := stN 4 X.Reg (rQuarter X).Reg } : RTone) = emb (tQuarter t) := by
  subst e
  rw [emb_quarter h, st_emb]
theorem h_alike {t : Tone} {X : RTone} (h : Inv t) (e : X = emb t) : ({ rHalf X with Reg := stN 4 X.Reg (rHalf X).Reg } : RTone) = emb (tHalf t) := by
  subst e
  rw [emb_half h, st_emb]
theorem c_alike {t : Tone} {X : RTone} (h : Inv t) (e : X = emb t) : ({ rClock X with Reg := stN 4 X.Reg (rClock X).Reg } : RTone) = emb (tClock t) := by
  subst e
  rw [emb_clock h, st_emb]
theorem relM_put {m : Smp} {q : RSmp} (r : RelM m q) (k : Nat) (hk : k < 4) (b : Int) : ∀ j, j < 4 → (upd q.Reg k b) j = (upd m.reg k b) j := by
  intro j hj
  unfold upd
  cases Nat.beq j k
  · exact r.reg j hj
  · rfl
theorem rel_put {s : Snd} {x : RSnd} (h : SI s) (r : Rel s x) (at_ b : Int) (ha : 0 ≤ at_ ∧ at_ < 65536) (hb : rng 256 b) : Rel (sPut s at_ b) (rsPut x at_ b) := by
  have hb' := hb
  unfold VX.rng at hb'
  have b1 := rbit_eq b 1 hb' (by decide)
  have b2 := rbit_eq b 2 hb' (by decide)
  have b4 := rbit_eq b 4 hb' (by decide)
  have b8 := rbit_eq b 8 hb' (by decide)
  have b16 := rbit_eq b 16 hb' (by decide)
  have b64 := rbit_eq b 64 hb' (by decide)
  have b128 := rbit_eq b 128 hb' (by decide)
  rw [Int.ediv_one] at b1
  refine put_ind (P := fun s' => Rel s' (rsPut x at_ b)) s at_ b h.m hb (fun hn => ?_) (fun k hk e => ?_) (fun k hk e => ?_) (fun k hk e => ?_) (fun k hk e => ?_) (fun k hk e => ?_) (fun e => ?_) (fun e => ?_)
  · have e : rsPut x at_ b = x := by
      unfold rsPut
      rcases hn with hn | hn | hn | hn
      · rw [if_neg (by omega)]
      · rw [if_neg (by omega)]
      · subst hn; rfl
      · subst hn; rfl
    rw [e]; exact r
  · have ex : rsPut x at_ b = { x with Tones_0 := { rPut x.Tones_0 (k : Int) b with Reg := stN 4 x.Tones_0.Reg (rPut x.Tones_0 (k : Int) b).Reg } } := by
      match k, hk with
      | 0, _ => have e' : at_ = 16384 := e; subst e'; rfl
      | 1, _ => have e' : at_ = 16385 := e; subst e'; rfl
      | 2, _ => have e' : at_ = 16386 := e; subst e'; rfl
      | 3, _ => have e' : at_ = 16387 := e; subst e'; rfl
      | k + 4, hk => omega
    rw [ex]
    exact ⟨put_alike h.t0.1 r.t0 k hk hb, r.t1, r.t2, r.t3, r.m, r.cnt, r.long, r.bar, r.irq, r.cyc, r.rng⟩
  · have ex : rsPut x at_ b = { x with Tones_1 := { rPut x.Tones_1 (k : Int) b with Reg := stN 4 x.Tones_1.Reg (rPut x.Tones_1 (k : Int) b).Reg } } := by
      match k, hk with
      | 0, _ => have e' : at_ = 16388 := e; subst e'; rfl
      | 1, _ => have e' : at_ = 16389 := e; subst e'; rfl
      | 2, _ => have e' : at_ = 16390 := e; subst e'; rfl
      | 3, _ => have e' : at_ = 16391 := e; subst e'; rfl
      | k + 4, hk => omega
    rw [ex]
    exact ⟨r.t0, put_alike h.t1.1 r.t1 k hk hb, r.t2, r.t3, r.m, r.cnt, r.long, r.bar, r.irq, r.cyc, r.rng⟩
  · have ex : rsPut x at_ b = { x with Tones_2 := { rPut x.Tones_2 (k : Int) b with Reg := stN 4 x.Tones_2.Reg (rPut x.Tones_2 (k : Int) b).Reg } } := by
      match k, hk with
      | 0, _ => have e' : at_ = 16392 := e; subst e'; rfl
      | 1, _ => have e' : at_ = 16393 := e; subst e'; rfl
      | 2, _ => have e' : at_ = 16394 := e; subst e'; rfl
      | 3, _ => have e' : at_ = 16395 := e; subst e'; rfl
      | k + 4, hk => omega
    rw [ex]
    exact ⟨r.t0, r.t1, put_alike h.t2.1 r.t2 k hk hb, r.t3, r.m, r.cnt, r.long, r.bar, r.irq, r.cyc, r.rng⟩
  · have ex : rsPut x at_ b = { x with Tones_3 := { rPut x.Tones_3 (k : Int) b with Reg := stN 4 x.Tones_3.Reg (rPut x.Tones_3 (k : Int) b).Reg } } := by
      match k, hk with
      | 0, _ => have e' : at_ = 16396 := e; subst e'; rfl
      | 1, _ => have e' : at_ = 16397 := e; subst e'; rfl
      | 2, _ => have e' : at_ = 16398 := e; subst e'; rfl
      | 3, _ => have e' : at_ = 16399 := e; subst e'; rfl
      | k + 4, hk => omega
    rw [ex]
    exact ⟨r.t0, r.t1, r.t2, put_alike h.t3.1 r.t3 k hk hb, r.m, r.cnt, r.long, r.bar, r.irq, r.cyc, r.rng⟩
  · match k, hk with
    | 0, _ =>
      have e' : at_ = 16400 := e
      subst e'
      show Rel { s with sample := s.sample.put 0 b } (rsPut_16 x b)
      have hR := relM_put r.m 0 (by decide) b
      unfold rsPut_16
      rw [b128]
      have mm := r.m
      by_cases c : b / 128 % 2 = 1
      · rw [if_neg (by simp [c])]
        exact ⟨r.t0, r.t1, r.t2, r.t3, ⟨hR, mm.level, mm.next, mm.bits, mm.silent, mm.row, mm.timer, mm.at_, mm.left, by show x.M.IRQ = (s.sample.irq && decide (b / 128 % 2 = 1)); rw [mm.irq]; simp [c]⟩, r.cnt, r.long, r.bar, r.irq, r.cyc, r.rng⟩
      · rw [if_pos (by simp [c])]
        exact ⟨r.t0, r.t1, r.t2, r.t3, ⟨hR, mm.level, mm.next, mm.bits, mm.silent, mm.row, mm.timer, mm.at_, mm.left, by show false = (s.sample.irq && decide (b / 128 % 2 = 1)); simp [c]⟩, r.cnt, r.long, r.bar, r.irq, r.cyc, r.rng⟩
    | 1, _ =>
      have e' : at_ = 16401 := e
      subst e'
      have hR := relM_put r.m 1 (by decide) b
      have mm := r.m
      exact ⟨r.t0, r.t1, r.t2, r.t3, ⟨hR, Int.tmod_eq_emod_of_nonneg hb'.1, mm.next, mm.bits, mm.silent, mm.row, mm.timer, mm.at_, mm.left, mm.irq⟩, r.cnt, r.long, r.bar, r.irq, r.cyc, r.rng⟩
    | 2, _ =>
      have e' : at_ = 16402 := e
      subst e'
      have hR := relM_put r.m 2 (by decide) b
      have mm := r.m
      exact ⟨r.t0, r.t1, r.t2, r.t3, ⟨hR, mm.level, mm.next, mm.bits, mm.silent, mm.row, mm.timer, mm.at_, mm.left, mm.irq⟩, r.cnt, r.long, r.bar, r.irq, r.cyc, r.rng⟩
    | 3, _ =>
      have e' : at_ = 16403 := e
      subst e'
      have hR := relM_put r.m 3 (by decide) b
      have mm := r.m
      exact ⟨r.t0, r.t1, r.t2, r.t3, ⟨hR, mm.level, mm.next, mm.bits, mm.silent, mm.row, mm.timer, mm.at_, mm.left, mm.irq⟩, r.cnt, r.long, r.bar, r.irq, r.cyc, r.rng⟩
    | k + 4, hk => omega
  · subst e
    show Rel (enS s b) (rsPut_21 x b)
    have mm := r.m
    have hreg2 := h.m.ok.reg 2
    have hreg3 := h.m.ok.reg 3
    unfold VX.rng at hreg2 hreg3
    unfold rsPut_21
    rw [b1, b2, b4, b8, b16]
    have a0 := en_alike r.t0 (decide (b % 2 = 1))
    have a1 := en_alike r.t1 (decide (b / 2 % 2 = 1))
    have a2 := en_alike r.t2 (decide (b / 4 % 2 = 1))
    have a3 := en_alike r.t3 (decide (b / 8 % 2 = 1))
    by_cases c : b / 16 % 2 = 1
    · rw [if_neg (by simp [c])]
      have es : s.sample.enable (decide (b / 16 % 2 = 1)) = if s.sample.left = 0 then { s.sample.begin with irq := false } else { s.sample with irq := false } := by unfold Smp.enable; rw [if_pos (by simpa using c)]
      by_cases cl : s.sample.left = 0
      · rw [if_pos (by rw [mm.left]; simpa using cl)]
        refine ⟨a0, a1, a2, a3, ?_, r.cnt, r.long, r.bar, r.irq, r.cyc, r.rng⟩
        show RelM (s.sample.enable (decide (b / 16 % 2 = 1))) _
        rw [es, if_pos cl]
        unfold rBegin
        refine ⟨fun j hj => ?_, mm.level, mm.next, mm.bits, mm.silent, mm.row, mm.timer, ?_, ?_, rfl⟩
        · exact (stN4 _ _ j hj).trans ((stN4 _ _ j hj).trans (mm.reg j hj))
        · show i64.wrap (49152 + i64.wrap (64 * x.M.Reg 2)) = 49152 + 64 * s.sample.reg 2
          rw [mm.reg 2 (by decide)]
          rw [i64_in (64 * s.sample.reg 2) (by omega), i64_in _ (by omega)]
        · show i64.wrap (i64.wrap (16 * x.M.Reg 3) + 1) = 16 * s.sample.reg 3 + 1
          rw [mm.reg 3 (by decide)]
          rw [i64_in (16 * s.sample.reg 3) (by omega), i64_in _ (by omega)]
      · rw [if_neg (by rw [mm.left]; simpa using cl)]
        refine ⟨a0, a1, a2, a3, ?_, r.cnt, r.long, r.bar, r.irq, r.cyc, r.rng⟩
        show RelM (s.sample.enable (decide (b / 16 % 2 = 1))) _
        rw [es, if_neg cl]
        exact ⟨mm.reg, mm.level, mm.next, mm.bits, mm.silent, mm.row, mm.timer, mm.at_, mm.left, rfl⟩
    · rw [if_pos (by simp [c])]
      refine ⟨a0, a1, a2, a3, ?_, r.cnt, r.long, r.bar, r.irq, r.cyc, r.rng⟩
      show RelM (s.sample.enable (decide (b / 16 % 2 = 1))) _
      have es : s.sample.enable (decide (b / 16 % 2 = 1)) = { s.sample with left := 0, irq := false } := by unfold Smp.enable; rw [if_neg (by simpa using c)]
      rw [es]
      exact ⟨mm.reg, mm.level, mm.next, mm.bits, mm.silent, mm.row, mm.timer, mm.at_, rfl, rfl⟩
  · subst e
    show Rel (reS s b) (rsPut_23 x b)
    have mm := r.m
    unfold rsPut_23
    rw [b64, b128]
    by_cases c64 : b / 64 % 2 = 1
    · rw [if_pos (by simp [c64])]
      by_cases c : b / 128 % 2 = 1
      · rw [if_pos (by simp [c])]
        refine ⟨?_, ?_, ?_, ?_, mm, rfl, ?_, ?_, ?_, r.cyc, r.rng⟩
        · show _ = emb (reT b s.tones_0); unfold reT; rw [if_pos c]; exact h_alike (inv_quarter h.t0.1) (q_alike h.t0.1 r.t0)
        · show _ = emb (reT b s.tones_1); unfold reT; rw [if_pos c]; exact h_alike (inv_quarter h.t1.1) (q_alike h.t1.1 r.t1)
        · show _ = emb (reT b s.tones_2); unfold reT; rw [if_pos c]; exact h_alike (inv_quarter h.t2.1) (q_alike h.t2.1 r.t2)
        · show _ = emb (reT b s.tones_3); unfold reT; rw [if_pos c]; exact h_alike (inv_quarter h.t3.1) (q_alike h.t3.1 r.t3)
        · show decide (b / 128 % 2 = 1) = decide ((if b / 128 % 2 = 1 then (1 : Int) else 0) = 1); rw [if_pos c]; simp [c]
        · rfl
        · show false = (s.irq && !decide (b / 64 % 2 = 1)); simp [c64]
      · rw [if_neg (by simp [c])]
        refine ⟨?_, ?_, ?_, ?_, mm, rfl, ?_, ?_, ?_, r.cyc, r.rng⟩
        · show _ = emb (reT b s.tones_0); unfold reT; rw [if_neg c]; exact r.t0
        · show _ = emb (reT b s.tones_1); unfold reT; rw [if_neg c]; exact r.t1
        · show _ = emb (reT b s.tones_2); unfold reT; rw [if_neg c]; exact r.t2
        · show _ = emb (reT b s.tones_3); unfold reT; rw [if_neg c]; exact r.t3
        · show decide (b / 128 % 2 = 1) = decide ((if b / 128 % 2 = 1 then (1 : Int) else 0) = 1); rw [if_neg c]; simp [c]
        · rfl
        · show false = (s.irq && !decide (b / 64 % 2 = 1)); simp [c64]
    · rw [if_neg (by simp [c64])]
      by_cases c : b / 128 % 2 = 1
      · rw [if_pos (by simp [c])]
        refine ⟨?_, ?_, ?_, ?_, mm, rfl, ?_, ?_, ?_, r.cyc, r.rng⟩
        · show _ = emb (reT b s.tones_0); unfold reT; rw [if_pos c]; exact h_alike (inv_quarter h.t0.1) (q_alike h.t0.1 r.t0)
        · show _ = emb (reT b s.tones_1); unfold reT; rw [if_pos c]; exact h_alike (inv_quarter h.t1.1) (q_alike h.t1.1 r.t1)
        · show _ = emb (reT b s.tones_2); unfold reT; rw [if_pos c]; exact h_alike (inv_quarter h.t2.1) (q_alike h.t2.1 r.t2)
        · show _ = emb (reT b s.tones_3); unfold reT; rw [if_pos c]; exact h_alike (inv_quarter h.t3.1) (q_alike h.t3.1 r.t3)
        · show decide (b / 128 % 2 = 1) = decide ((if b / 128 % 2 = 1 then (1 : Int) else 0) = 1); rw [if_pos c]; simp [c]
        · rfl
        · show x.IRQ = (s.irq && !decide (b / 64 % 2 = 1)); rw [r.irq]; simp [c64]
      · rw [if_neg (by simp [c])]
        refine ⟨?_, ?_, ?_, ?_, mm, rfl, ?_, ?_, ?_, r.cyc, r.rng⟩
        · show _ = emb (reT b s.tones_0); unfold reT; rw [if_neg c]; exact r.t0
        · show _ = emb (reT b s.tones_1); unfold reT; rw [if_neg c]; exact r.t1
        · show _ = emb (reT b s.tones_2); unfold reT; rw [if_neg c]; exact r.t2
        · show _ = emb (reT b s.tones_3); unfold reT; rw [if_neg c]; exact r.t3
        · show decide (b / 128 % 2 = 1) = decide ((if b / 128 % 2 = 1 then (1 : Int) else 0) = 1); rw [if_neg c]; simp [c]
        · rfl
        · show x.IRQ = (s.irq && !decide (b / 64 % 2 = 1)); rw [r.irq]; simp [c64]
end Go.Proofs.YtgpcfjokmonlgaaDoor
namespace Go.Proofs.YtgpcfjokmonlgaaDoor
open Go VX IntWalk
open Go.IntKind (i64 u8 u16)
set_option maxRecDepth 100000
set_option linter.unusedSimpArgs false
set_option linter.unusedVariables false
theorem rel_give {s : Snd} {x : RSnd} (h : SI s) (r : Rel s x) {b : Int} (hb : rng 256 b) : Rel (sGive s b) (rsGive x b) := by
  have ha := h.m.ok.at_
  have h0 := h.m.ok.reg 0
  have h2 := h.m.ok.reg 2
  have h3 := h.m.ok.reg 3
  have hl := h.m.left
  have mm := r.m
  unfold VX.rng at ha h0 h2 h3
  rw [give_eq s b h.m hb]
  have e64 : rBit (x.M.Reg 0) 64 = decide (s.sample.reg 0 / 64 % 2 = 1) := by rw [mm.reg 0 (by decide)]; exact rbit_eq _ _ h0 (by decide)
  have e128 : rBit (x.M.Reg 0) 128 = decide (s.sample.reg 0 / 128 % 2 = 1) := by rw [mm.reg 0 (by decide)]; exact rbit_eq _ _ h0 (by decide)
  unfold rsGive
  rw [rel_asks h r, asks_eq, e64, e128, mm.at_, mm.left, i64_in (s.sample.at_ + 1) (by omega), i64_in (s.sample.left - 1) (by omega)]
  unfold Smp.give
  by_cases c0 : s.sample.waits = true ∨ s.sample.left ≤ 0
  · have c0' : ¬ (s.sample.waits = false ∧ 0 < s.sample.left) := by
      rintro ⟨q1, q2⟩; rcases c0 with c0 | c0
      · rw [q1] at c0; cases c0
      · omega
    have d0 : (!decide (s.sample.waits = false ∧ 0 < s.sample.left)) = true := by rw [decide_eq_false c0']; rfl
    rw [if_pos d0, if_pos c0]
    exact r
  have c0' : s.sample.waits = false ∧ 0 < s.sample.left := by
    constructor
    · cases hw : s.sample.waits with
      | false => rfl
      | true => exact absurd (.inl hw) c0
    · exact Int.not_le.1 fun q => c0 (.inr q)
  have d0 : ¬ (!decide (s.sample.waits = false ∧ 0 < s.sample.left)) = true := by rw [decide_eq_true c0']; decide
  rw [if_neg d0, if_neg c0]
  have inner : ∀ a : Int, Rel { s with sample := (if 1 < s.sample.left then { s.sample with next := b, waits := true, at_ := a, left := s.sample.left - 1 }
        else if s.sample.reg 0 / 64 % 2 = 1 then { s.sample with next := b, waits := true, at_ := 49152 + 64 * s.sample.reg 2, left := 16 * s.sample.reg 3 + 1 }
        else if s.sample.reg 0 / 128 % 2 = 1 then { s.sample with next := b, waits := true, at_ := a, left := 0, irq := true }
        else { s.sample with next := b, waits := true, at_ := a, left := 0 }) }
      (if ((s.sample.left - 1 : Int) == 0) = true then
        if decide (s.sample.reg 0 / 64 % 2 = 1) = true then
          ({ x with M := ({ (rBegin ({ x.M with Next := b, At := a, Left := s.sample.left - 1 } : RSmp)) with Reg := (stN 4 x.M.Reg ((rBegin ({ x.M with Next := b, At := a, Left := s.sample.left - 1 } : RSmp)).Reg)) } : RSmp) } : RSnd)
        else
          if decide (s.sample.reg 0 / 128 % 2 = 1) = true then
            ({ x with M := ({ x.M with Next := b, At := a, Left := s.sample.left - 1, IRQ := true } : RSmp) } : RSnd)
          else
            ({ x with M := ({ x.M with Next := b, At := a, Left := s.sample.left - 1 } : RSmp) } : RSnd)
      else
        ({ x with M := ({ x.M with Next := b, At := a, Left := s.sample.left - 1 } : RSmp) } : RSnd)) := by
    intro a
    by_cases c1 : 1 < s.sample.left
    · have d1 : ¬ ((s.sample.left - 1 : Int) == 0) = true := by simp; omega
      rw [if_pos c1, if_neg d1]
      exact ⟨r.t0, r.t1, r.t2, r.t3, ⟨mm.reg, mm.level, rfl, mm.bits, mm.silent, mm.row, mm.timer, rfl, rfl, mm.irq⟩, r.cnt, r.long, r.bar, r.irq, r.cyc, r.rng⟩
    have e1 : s.sample.left - 1 = 0 := by omega
    have e0 : ((0 : Int) == 0) = true := by decide
    rw [if_neg c1, e1, if_pos e0]
    by_cases c2 : s.sample.reg 0 / 64 % 2 = 1
    · have d2 : decide (s.sample.reg 0 / 64 % 2 = 1) = true := by simpa using c2
      rw [if_pos c2, if_pos d2]
      refine ⟨r.t0, r.t1, r.t2, r.t3, ⟨fun j hj => (stN4 _ _ j hj).trans ((stN4 _ _ j hj).trans (mm.reg j hj)), mm.level, rfl, mm.bits, mm.silent, mm.row, mm.timer, ?_, ?_, mm.irq⟩, r.cnt, r.long, r.bar, r.irq, r.cyc, r.rng⟩
      · show i64.wrap (49152 + i64.wrap (64 * x.M.Reg 2)) = 49152 + 64 * s.sample.reg 2
        rw [mm.reg 2 (by decide), i64_in (64 * s.sample.reg 2) (by omega), i64_in _ (by omega)]
      · show i64.wrap (i64.wrap (16 * x.M.Reg 3) + 1) = 16 * s.sample.reg 3 + 1
        rw [mm.reg 3 (by decide), i64_in (16 * s.sample.reg 3) (by omega), i64_in _ (by omega)]
    have d2 : ¬ decide (s.sample.reg 0 / 64 % 2 = 1) = true := by simpa using c2
    rw [if_neg c2, if_neg d2]
    by_cases c3 : s.sample.reg 0 / 128 % 2 = 1
    · have d3 : decide (s.sample.reg 0 / 128 % 2 = 1) = true := by simpa using c3
      rw [if_pos c3, if_pos d3]
      exact ⟨r.t0, r.t1, r.t2, r.t3, ⟨mm.reg, mm.level, rfl, mm.bits, mm.silent, mm.row, mm.timer, rfl, rfl, rfl⟩, r.cnt, r.long, r.bar, r.irq, r.cyc, r.rng⟩
    · have d3 : ¬ decide (s.sample.reg 0 / 128 % 2 = 1) = true := by simpa using c3
      rw [if_neg c3, if_neg d3]
      exact ⟨r.t0, r.t1, r.t2, r.t3, ⟨mm.reg, mm.level, rfl, mm.bits, mm.silent, mm.row, mm.timer, rfl, rfl, mm.irq⟩, r.cnt, r.long, r.bar, r.irq, r.cyc, r.rng⟩
  by_cases q : s.sample.at_ = 65535
  · have d4 : decide (s.sample.at_ + 1 > 65535) = true := by simp [q]
    rw [if_pos d4, if_pos q]; exact inner 32768
  · have d4 : ¬ decide (s.sample.at_ + 1 > 65535) = true := by simp; omega
    rw [if_neg d4, if_neg q]; exact inner (s.sample.at_ + 1)
theorem ite01 {c : Prop} [Decidable c] (n : Int) : (if c then n else 0) = 0 ∨ (if c then n else 0) = n := by
  by_cases h : c
  · exact .inr (if_pos h)
  · exact .inl (if_neg h)
theorem rel_get {s : Snd} {x : RSnd} (h : SI s) (r : Rel s x) : (((i64.wrap ((sGet s).2)) : Int) == (rsGet x).2) = true ∧ Rel (sGet s).1 (rsGet x).1 := by
  refine ⟨?_, r.t0, r.t1, r.t2, r.t3, r.m, r.cnt, r.long, r.bar, rfl, r.cyc, r.rng⟩
  have l0 : decide (x.Tones_0.Length > 0) = tLive s.tones_0 := by rw [r.t0]; rfl
  have l1 : decide (x.Tones_1.Length > 0) = tLive s.tones_1 := by rw [r.t1]; rfl
  have l2 : decide (x.Tones_2.Length > 0) = tLive s.tones_2 := by rw [r.t2]; rfl
  have l3 : decide (x.Tones_3.Length > 0) = tLive s.tones_3 := by rw [r.t3]; rfl
  have l4 : decide (x.M.Left > 0) = decide (s.sample.left > 0) := by rw [r.m.left]
  have j1 : rsGet_J1 x = if tLive s.tones_0 = true then 1 else 0 := by unfold rsGet_J1; rw [l0]
  have j2 : rsGet_J2 x = rsGet_J1 x + if tLive s.tones_1 = true then 2 else 0 := by
    unfold rsGet_J2; rw [l1, j1]
    cases tLive s.tones_1 <;> cases tLive s.tones_0 <;> decide
  have j3 : rsGet_J3 x = rsGet_J2 x + if tLive s.tones_2 = true then 4 else 0 := by
    unfold rsGet_J3; rw [l2, j2, j1]
    cases tLive s.tones_2 <;> cases tLive s.tones_1 <;> cases tLive s.tones_0 <;> decide
  have j4 : rsGet_J4 x = rsGet_J3 x + if tLive s.tones_3 = true then 8 else 0 := by
    unfold rsGet_J4; rw [l3, j3, j2, j1]
    cases tLive s.tones_3 <;> cases tLive s.tones_2 <;> cases tLive s.tones_1 <;> cases tLive s.tones_0 <;> decide
  have b4 : 0 ≤ rsGet_J4 x ∧ rsGet_J4 x ≤ 15 := by
    rw [j4, j3, j2, j1]
    cases tLive s.tones_3 <;> cases tLive s.tones_2 <;> cases tLive s.tones_1 <;> cases tLive s.tones_0 <;> decide
  have j5 : rsGet_J5 x = rsGet_J4 x + if decide (s.sample.left > 0) = true then 16 else 0 := by
    unfold rsGet_J5; rw [l4]
    cases decide (s.sample.left > 0)
    · simp
    · rw [if_pos rfl, if_pos rfl, i64_in _ (by omega)]
  have b5 : 0 ≤ rsGet_J5 x ∧ rsGet_J5 x ≤ 31 := by rw [j5]; split <;> omega
  have j6 : rsGet_J6 x = rsGet_J5 x + if s.irq = true then 64 else 0 := by
    unfold rsGet_J6; rw [r.irq]
    cases s.irq
    · simp
    · rw [if_pos rfl, if_pos rfl, i64_in _ (by omega)]
  have b6 : 0 ≤ rsGet_J6 x ∧ rsGet_J6 x ≤ 95 := by rw [j6]; split <;> omega
  have j7 : rsGet_J7 x = rsGet_J6 x + if s.sample.irq = true then 128 else 0 := by
    unfold rsGet_J7; rw [r.m.irq]
    cases s.sample.irq
    · simp
    · rw [if_pos rfl, if_pos rfl, i64_in _ (by omega)]
  have b7 : 0 ≤ rsGet_J7 x ∧ rsGet_J7 x ≤ 223 := by rw [j7]; split <;> omega
  have e : (sGet s).2 = rsGet_J7 x := by
    show getF (sLives s) = _
    unfold sLives
    rw [getF_eq, j7, j6, j5, j4, j3, j2, j1]
  rw [e, i64_in _ (by omega)]
  show (rsGet_J7 x == rsGet_J7 x) = true
  exact beq_self_eq_true _
theorem par_flip {C : Int} (h : -9223372036854775808 ≤ C ∧ C ≤ 9223372036854775807) : ((Int.tmod (i64.wrap (C + 1)) 2 : Int) == 0) = !((Int.tmod C 2 : Int) == 0) := by
  have z : ∀ n : Int, ((Int.tmod n 2 : Int) == 0) = decide (n % 2 = 0) := by
    intro n
    by_cases c : n % 2 = 0
    · have : Int.tmod n 2 = 0 := Int.tmod_eq_zero_of_dvd (Int.dvd_of_emod_eq_zero c)
      rw [this]; simp [c]
    · have : ¬ Int.tmod n 2 = 0 := fun e => c (Int.emod_eq_zero_of_dvd (Int.dvd_of_tmod_eq_zero e))
      simp [c, this]
  rw [z, z, IntKind.wrap_i64]
  by_cases c : C % 2 = 0
  · rw [decide_eq_true c, decide_eq_false (by omega)]; rfl
  · rw [decide_eq_false c, decide_eq_true (by omega)]; rfl
structure TickR (s : Snd) (x Y : RSnd) : Prop where
  t0 : Y.Tones_0 = emb (beat s s.tones_0)
  t1 : Y.Tones_1 = emb (beat s s.tones_1)
  t2 : Y.Tones_2 = emb (beat s s.tones_2)
  t3 : Y.Tones_3 = emb (beat s s.tones_3)
  m : Y.M = x.M
  cnt : Y.Count = (tickS s).count
  long : Y.Long = x.Long
  bar : Y.Barred = x.Barred
  irq : Y.IRQ = (tickS s).irq
  cyc : Y.Cycles = i64.wrap (x.Cycles + 1)
theorem tick_rel {s : Snd} {x : RSnd} (h : SI s) (r : Rel s x) : TickR s x (rsClock_J3 x (({ x with Count := (i64.wrap (x.Count + 1)), Cycles := (i64.wrap (x.Cycles + 1)) } : RSnd), (rsClock_J2 x (((i64.wrap (x.Count + 1)) : Int) == 7457)))) := by
  obtain ⟨hm, c0, c1⟩ := h.c
  have hl : 29829 ≤ lastC s ∧ lastC s ≤ 37281 := by rcases man_cases hm with ⟨_, e⟩ | ⟨_, e⟩ <;> rw [e] <;> decide
  have en : i64.wrap (x.Count + 1) = s.count + 1 := by rw [r.cnt, i64_in _ (by omega)]
  have eJ1 : rsClock_J1 x = lastC s := by
    unfold rsClock_J1 lastC
    rw [r.long]
    simp only [decide_eq_true_eq]
  have eJ1w : i64.wrap (rsClock_J1 x + 1) = lastC s + 1 := by rw [eJ1, i64_in _ (by omega)]
  have hs2 : rsClock_J2 x (((i64.wrap (x.Count + 1)) : Int) == 7457) = decide (s.count + 1 = 7457 ∨ s.count + 1 = 22371) := by
    unfold rsClock_J2
    rw [en]
    by_cases q1 : s.count + 1 = 7457
    · simp [q1]
    · by_cases q2 : s.count + 1 = 22371 <;> simp [q1, q2]
  have hs4 : rsClock_J4n x (((i64.wrap (x.Count + 1)) : Int) == 14913) = decide (s.count + 1 = 14913 ∨ s.count + 1 = lastC s) := by
    unfold rsClock_J4n
    rw [en, eJ1]
    by_cases q1 : s.count + 1 = 14913
    · have d : (s.count + 1 == 14913) = true := by simpa using q1
      rw [d, if_pos rfl, decide_eq_true (.inl q1)]
    · have d : (s.count + 1 == 14913) = false := by simpa using q1
      rw [d, if_neg (by decide)]
      by_cases q2 : s.count + 1 = lastC s
      · rw [decide_eq_true (.inr q2)]; simpa using q2
      · rw [decide_eq_false (by omega)]; simpa using q2
  unfold rsClock_J3
  rw [hs2]
  by_cases A : s.count + 1 = 7457 ∨ s.count + 1 = 22371
  · rw [if_pos (by simpa using A)]
    have hb : ∀ t, beat s t = tQuarter t := by
      intro t; unfold beat
      rw [if_neg (by omega), if_pos A]
    have hgt : ¬ s.count + 1 > lastC s := by omega
    have hne : ¬ s.count + 1 = 29829 := by omega
    refine ⟨?_, ?_, ?_, ?_, rfl, ?_, rfl, rfl, ?_, rfl⟩
    · rw [hb]; exact q_alike h.t0.1 r.t0
    · rw [hb]; exact q_alike h.t1.1 r.t1
    · rw [hb]; exact q_alike h.t2.1 r.t2
    · rw [hb]; exact q_alike h.t3.1 r.t3
    · show i64.wrap (x.Count + 1) = if s.count + 1 > lastC s then 0 else s.count + 1
      rw [if_neg hgt, en]
    · show x.IRQ = (s.irq || (decide (s.count + 1 = 29829) && decide (s.manner = 0) && !s.bars))
      rw [r.irq, decide_eq_false hne]; simp
  rw [if_neg (by simpa using A)]
  unfold rsClock_J5n
  rw [hs4]
  by_cases B : s.count + 1 = 14913 ∨ s.count + 1 = lastC s
  · rw [if_pos (by simpa using B)]
    have hb : ∀ t, beat s t = tHalf (tQuarter t) := by
      intro t; unfold beat
      rw [if_pos B]
    have hgt : ¬ s.count + 1 > lastC s := by omega
    have hirq : (tickS s).irq = (s.irq || (decide (s.count + 1 = 29829) && !s.bars)) := by
      show (s.irq || (decide (s.count + 1 = 29829) && decide (s.manner = 0) && !s.bars)) = _
      by_cases q : s.count + 1 = 29829
      · have : s.manner = 0 := by
          rcases man_cases hm with ⟨m0, _⟩ | ⟨_, e⟩
          · exact m0
          · rw [e] at B; omega
        simp [q, this]
      · simp [q]
    have hcnt : i64.wrap (x.Count + 1) = (tickS s).count := by
      show _ = if s.count + 1 > lastC s then 0 else s.count + 1
      rw [if_neg hgt, en]
    have k0 := h_alike (inv_quarter h.t0.1) (q_alike h.t0.1 r.t0)
    have k1 := h_alike (inv_quarter h.t1.1) (q_alike h.t1.1 r.t1)
    have k2 := h_alike (inv_quarter h.t2.1) (q_alike h.t2.1 r.t2)
    have k3 := h_alike (inv_quarter h.t3.1) (q_alike h.t3.1 r.t3)
    have e6 : rsClock_J6ny (({ x with Count := (i64.wrap (x.Count + 1)), Cycles := (i64.wrap (x.Cycles + 1)) } : RSnd), decide (s.count + 1 = 14913 ∨ s.count + 1 = lastC s)) = (decide (s.count + 1 = 29829) && !s.bars) := by
      show (if ((i64.wrap (x.Count + 1) : Int) == 29829) = true then !x.Barred else false) = _
      rw [en, r.bar]
      by_cases q : s.count + 1 = 29829 <;> simp [q]
    unfold rsClock_J7ny
    rw [e6]
    cases hq : (decide (s.count + 1 = 29829) && !s.bars) with
    | true =>
      rw [if_pos rfl]
      refine ⟨?_, ?_, ?_, ?_, rfl, hcnt, rfl, rfl, ?_, rfl⟩
      · rw [hb]; exact k0
      · rw [hb]; exact k1
      · rw [hb]; exact k2
      · rw [hb]; exact k3
      · rw [hirq, hq]; simp
    | false =>
      rw [if_neg (by decide)]
      refine ⟨?_, ?_, ?_, ?_, rfl, hcnt, rfl, rfl, ?_, rfl⟩
      · rw [hb]; exact k0
      · rw [hb]; exact k1
      · rw [hb]; exact k2
      · rw [hb]; exact k3
      · rw [hirq, hq]; show x.IRQ = _; rw [r.irq]; simp
  rw [if_neg (by simpa using B)]
  have hb : ∀ t, beat s t = t := by
    intro t; unfold beat
    rw [if_neg B, if_neg A]
  have hirq : (tickS s).irq = s.irq := by
    show (s.irq || (decide (s.count + 1 = 29829) && decide (s.manner = 0) && !s.bars)) = _
    by_cases q : s.count + 1 = 29829
    · have : ¬ s.manner = 0 := by
        intro m0
        rcases man_cases hm with ⟨_, e⟩ | ⟨m1, _⟩
        · rw [e] at B; omega
        · omega
      simp [this]
    · simp [q]
  unfold rsClock_J6nn
  rw [en, eJ1w]
  by_cases D : s.count + 1 = lastC s + 1
  · rw [if_pos (by simpa using D)]
    refine ⟨by rw [hb]; exact r.t0, by rw [hb]; exact r.t1, by rw [hb]; exact r.t2, by rw [hb]; exact r.t3, rfl, ?_, rfl, rfl, ?_, rfl⟩
    · show (0 : Int) = if s.count + 1 > lastC s then 0 else s.count + 1
      rw [if_pos (by omega)]
    · rw [hirq]; exact r.irq
  · rw [if_neg (by simpa using D)]
    refine ⟨by rw [hb]; exact r.t0, by rw [hb]; exact r.t1, by rw [hb]; exact r.t2, by rw [hb]; exact r.t3, rfl, ?_, rfl, rfl, ?_, rfl⟩
    · show s.count + 1 = if s.count + 1 > lastC s then 0 else s.count + 1
      rw [if_neg (by omega)]
    · rw [hirq]; exact r.irq
theorem rel_clock {s : Snd} {x : RSnd} (h : SI s) (r : Rel s x) : Rel (sClock s) (rsClock x) := by
  obtain ⟨ec, _⟩ := sinv_clock iinv_cl.toClC h
  rw [ec]
  have T := tick_rel h r
  unfold rsClock
  generalize rsClock_J3 x (({ x with Count := (i64.wrap (x.Count + 1)), Cycles := (i64.wrap (x.Cycles + 1)) } : RSnd), (rsClock_J2 x (((i64.wrap (x.Count + 1)) : Int) == 7457))) = Y at *
  have hpar : ((Int.tmod Y.Cycles 2 : Int) == 0) = s.even := by rw [T.cyc, par_flip r.rng, r.cyc]; cases s.even <;> rfl
  rw [hpar]
  have hb : ∀ (k : Int) (t : Tone), IInv k t → Inv (beat s t) := fun k t ht => (beat_p iinv_cl.toClC s k t ht).1
  have c2 := c_alike (hb _ _ h.t2) T.t2
  have c3 := c_alike (hb _ _ h.t3) T.t3
  have c0 := c_alike (hb _ _ h.t0) T.t0
  have c1 := c_alike (hb _ _ h.t1) T.t1
  have sim : ∀ q : RSmp, q = x.M → RelM s.sample.clock ({ rSmp q with Reg := stN 4 q.Reg (rSmp q).Reg } : RSmp) := by
    rintro q rfl
    have S := smp_sim h.m r.m
    exact ⟨fun j hj => (stN4 _ _ j hj).trans (S.reg j hj), S.level, S.next, S.bits, S.silent, S.row, S.timer, S.at_, S.left, S.irq⟩
  have hcyc : ((Int.tmod Y.Cycles 2 : Int) == 0) = !!s.even := by rw [hpar]; cases s.even <;> rfl
  have hrng : -9223372036854775808 ≤ Y.Cycles ∧ Y.Cycles ≤ 9223372036854775807 := by rw [T.cyc, IntKind.wrap_i64]; omega
  have hlong : Y.Long = decide (s.manner = 1) := by rw [T.long]; exact r.long
  have hbar : Y.Barred = s.bars := by rw [T.bar]; exact r.bar
  unfold rsClock_J8
  cases he : s.even with
  | true =>
    simp only [if_true]
    refine ⟨?_, ?_, c2, c3, sim _ T.m, T.cnt, hlong, hbar, T.irq, ?_, hrng⟩
    · show _ = emb (if s.even = true then tClock (beat s s.tones_0) else beat s s.tones_0)
      rw [he]; exact c0
    · show _ = emb (if s.even = true then tClock (beat s s.tones_1) else beat s s.tones_1)
      rw [he]; exact c1
    · exact hcyc
  | false =>
    simp only [Bool.false_eq_true, if_false]
    refine ⟨?_, ?_, c2, c3, sim _ T.m, T.cnt, hlong, hbar, T.irq, ?_, hrng⟩
    · show _ = emb (if s.even = true then tClock (beat s s.tones_0) else beat s s.tones_0)
      rw [he]; exact T.t0
    · show _ = emb (if s.even = true then tClock (beat s s.tones_1) else beat s s.tones_1)
      rw [he]; exact T.t1
    · exact hcyc
end Go.Proofs.YtgpcfjokmonlgaaDoor
namespace Go.Proofs.YtgpcfjokmonlgaaDoor
open Go VX IntWalk
open Go.IntKind (i64 u8 u16)
set_option maxRecDepth 100000
set_option linter.unusedSimpArgs false
set_option linter.unusedVariables false
theorem new_si : SI sNew := ⟨⟨new_0.2, rfl⟩, ⟨new_1.2, rfl⟩, ⟨new_2.2, rfl⟩, ⟨new_3.2, rfl⟩, new_minv, new_cinv⟩
theorem new_rel : Rel sNew rsNew := by
  have z : ∀ j, 4 ≤ j → (fun j => List.getD ([0, 0, 0, 0] : List Int) j 0) j = 0 := by
    intro j hj
    match j, hj with
    | j + 4, _ => rfl
  have n : ∀ {X : RTone} {t : Tone}, X = emb t → ({ X with Reg := stN 4 (fun j => List.getD [0, 0, 0, 0] j 0) X.Reg } : RTone) = emb t := by
    rintro X t rfl
    exact st_new _ z t
  refine ⟨n new_0.1, n new_1.1, n new_2.1, n new_3.1, ⟨fun j hj => ?_, rfl, rfl, rfl, rfl, fun h => (by cases h), rfl, rfl, rfl, rfl⟩, rfl, rfl, rfl, rfl, rfl, by decide⟩
  match j, hj with
  | 0, _ => rfl
  | 1, _ => rfl
  | 2, _ => rfl
  | 3, _ => rfl
  | j + 4, h => omega
def placeA (a : Act) : Int := if a.N % 8 > 0 then 16384 + a.At % 24 else a.At
def doS (s : Snd) (a : Act) (most : Int) : Snd :=
  if a.Do % 8 = 4 ∨ a.Do % 8 = 5 then iterS sClock (a.N % most).toNat s
  else if a.Do % 8 = 6 then (sGet s).1
  else if a.Do % 8 = 7 then sGive s a.B
  else sPut s (placeA a) a.B
def doX (x : RSnd) (a : Act) (most : Int) : RSnd :=
  if a.Do % 8 = 4 ∨ a.Do % 8 = 5 then iterS rsClock (a.N % most).toNat x
  else if a.Do % 8 = 6 then (rsGet x).1
  else if a.Do % 8 = 7 then rsGive x a.B
  else rsPut x (placeA a) a.B
def doF (s : Snd) (x : RSnd) (a : Act) (most : Int) : Snd × RSnd × Bool := (doS s a most, doX x a most, true)
theorem clocks_rel : ∀ (k : Nat) {s : Snd} {x : RSnd}, SI s → Rel s x → SI (iterS sClock k s) ∧ Rel (iterS sClock k s) (iterS rsClock k x)
  | 0, s, x, h, r => ⟨h, r⟩
  | k + 1, s, x, h, r => clocks_rel k (sinv_clock iinv_cl.toClC h).2 (rel_clock h r)
theorem placeA_rng {a : Act} (wa : Act.ok a) : 0 ≤ placeA a ∧ placeA a < 65536 := by
  have h := wa.At
  unfold VX.rng at h
  unfold placeA
  split <;> omega
theorem do_rel {s : Snd} {x : RSnd} {a : Act} {most : Int} (h : SI s) (r : Rel s x) (wa : Act.ok a) : SI (doS s a most) ∧ Rel (doS s a most) (doX x a most) := by
  unfold doS doX
  have hp := placeA_rng wa
  repeat' split
  · exact clocks_rel _ h r
  · exact ⟨sinv_get h, (rel_get h r).2⟩
  · exact ⟨sinv_give h wa.B, rel_give h r wa.B⟩
  · exact ⟨sinv_put iinv_cl h _ wa.B, rel_put h r _ _ hp wa.B⟩
theorem irq_alike {s : Snd} {x : RSnd} (r : Rel s x) : sIRQ s = (x.IRQ || x.M.IRQ) := by
  unfold sIRQ
  rw [r.irq, r.m.irq]
  cases s.irq <;> simp
theorem do_loop (s : Snd) (x : RSnd) (a : Act) (most : Int) (hm : 0 < most ∧ most < 65536) (h : SI s) (r : Rel s x) (wa : Act.ok a) :
    LoopR (lDo_L1y s x a most) (0, false, s, x) (.inl (a.N % most, false, iterS sClock (a.N % most).toNat s, iterS rsClock (a.N % most).toNat x)) := by
  have hN := wa.N
  unfold VX.rng at hN
  have em : Int.tmod a.N most = a.N % most := Int.tmod_eq_emod_of_nonneg hN.1
  have h0 : 0 ≤ a.N % most := Int.emod_nonneg _ (by omega)
  have h1 : a.N % most < most := Int.emod_lt_of_pos _ hm.1
  have go : ∀ (k : Nat) (i : Int) (s' : Snd) (x' : RSnd), 0 ≤ i → i + k = a.N % most → SI s' → Rel s' x' →
      LoopR (lDo_L1y s x a most) (i, false, s', x') (.inl (a.N % most, false, iterS sClock k s', iterS rsClock k x')) := by
    intro k
    induction k with
    | zero =>
      intro i s' x' i0 hi h' r'
      have : i = a.N % most := by omega
      subst this
      exact .last (.p5 (xd := (a.N % most, false, s', x')) (by rw [em]; simp))
    | succ k ih =>
      intro i s' x' i0 hi h' r'
      have hs := (sinv_clock iinv_cl.toClC h').2
      have hr := rel_clock h' r'
      have L := ih (i + 1) _ _ (by omega) (by omega) hs hr
      refine .more ?_ L
      obtain ⟨g0, g1, g2, g3⟩ := h'.g r'
      obtain ⟨x1, x2, x3⟩ := h'.xh r'
      have d1 : (decide ((i : Int) < (Int.tmod a.N most))) = true := by rw [em]; simp; omega
      have ei : u16.wrap (i + 1) = i + 1 := u16_in _ (by omega)
      have hq := irq_alike hr
      cases hI : (rsClock x').IRQ with
      | true =>
        rw [hI] at hq
        have := lDo_L1y.p2 (s := s) (x := x) (a := a) (most := most) (xd := (i, false, s', x')) d1 h'.c.1 g0 g1 g2 g3 x1 x2 x3 hI (by rw [hq]; rfl)
        rw [ei] at this; exact this
      | false =>
        rw [hI] at hq
        have := lDo_L1y.p4 (s := s) (x := x) (a := a) (most := most) (xd := (i, false, s', x')) d1 h'.c.1 g0 g1 g2 g3 x1 x2 x3 hI (by rw [hq]; simp)
        rw [ei] at this; exact this
  exact go (a.N % most).toNat 0 s x (by decide) (by omega) h r
theorem doF_ok (s : Snd) (x : RSnd) (a : Act) (most : Int) (hi : SI s) (hx : Rel s x) (wa : Act.ok a) (hm : 0 < most ∧ most < 65536) : FnSpec Tryd.prog 20 1006 [.pointer (some ⟨1000, 0, none⟩), .pointer (some ⟨1005, 0, none⟩), Act.enc a, .int .u16 most] ([tb0, tb1, tb2, tb4] ++ (Snd.H0 s) ++ [(1005, RSnd.blk x)]) (.bool ((doF s x a most).2.2)) ((Snd.H0 ((doF s x a most).1)) ++ [(1005, RSnd.blk ((doF s x a most).2.1))]) := by
  show FnSpec _ _ _ _ _ (.bool true) ((Snd.H0 (doS s a most)) ++ [(1005, RSnd.blk (doX x a most))])
  obtain ⟨g0, g1, g2, g3⟩ := hi.g hx
  have hok := hi.ok iinv_cl.toClC
  have hN := wa.N
  have hD := wa.Do
  have hA := wa.At
  have hB := wa.B
  unfold VX.rng at hN hD hA hB
  have eD : Int.tmod a.Do 8 = a.Do % 8 := Int.tmod_eq_emod_of_nonneg hD.1
  have eN : Int.tmod a.N 8 = a.N % 8 := Int.tmod_eq_emod_of_nonneg hN.1
  have eA : Int.tmod a.At 24 = a.At % 24 := Int.tmod_eq_emod_of_nonneg hA.1
  have wm : VX.rng 65536 most := ⟨by omega, by omega⟩
  have L := do_loop s x a most hm hi hx wa
  unfold doS doX
  by_cases c4 : a.Do % 8 = 4
  · rw [if_pos (.inl c4), if_pos (.inl c4)]
    exact lDo_p1 s x a most hok wa wm g0 g1 g2 g3 hm.1 (by rw [eD, c4]; rfl) _ L
  have n4 : (((Int.tmod a.Do 8) : Int) == 4) = false := by rw [eD]; simpa using c4
  by_cases c5 : a.Do % 8 = 5
  · rw [if_pos (.inr c5), if_pos (.inr c5)]
    exact lDo_p2 s x a most hok wa wm g0 g1 g2 g3 hm.1 n4 (by rw [eD, c5]; rfl) _ L
  have n5 : (((Int.tmod a.Do 8) : Int) == 5) = false := by rw [eD]; simpa using c5
  have n45 : ¬ (a.Do % 8 = 4 ∨ a.Do % 8 = 5) := by omega
  rw [if_neg n45, if_neg n45]
  by_cases c6 : a.Do % 8 = 6
  · rw [if_pos c6, if_pos c6]
    have := lDo_p3 s x a most hok wa wm g0 g1 g2 g3 hm.1 n4 n5 (by rw [eD, c6]; rfl)
    rw [(rel_get hi hx).1] at this
    exact this
  have n6 : (((Int.tmod a.Do 8) : Int) == 6) = false := by rw [eD]; simpa using c6
  rw [if_neg c6, if_neg c6]
  have eB : i64.wrap a.B = a.B := i64_in _ (by omega)
  by_cases c7 : a.Do % 8 = 7
  · rw [if_pos c7, if_pos c7]
    have := lDo_p4 s x a most hok wa wm g0 g1 g2 g3 hm.1 n4 n5 n6 (by rw [eD, c7]; rfl)
    rw [eB] at this
    exact this
  have n7 : (((Int.tmod a.Do 8) : Int) == 7) = false := by rw [eD]; simpa using c7
  rw [if_neg c7, if_neg c7]
  have pr := placeA_rng wa
  by_cases c8 : a.N % 8 > 0
  · have ep : u16.wrap (16384 + (Int.tmod a.At 24)) = placeA a := by
      unfold placeA; rw [if_pos c8, eA, u16_in _ (by omega)]
    have ew : i64.wrap (u16.wrap (16384 + (Int.tmod a.At 24))) = placeA a := by rw [ep, i64_in _ (by omega)]
    have := lDo_p5 s x a most hok wa wm g0 g1 g2 g3 hm.1 n4 n5 n6 n7 (by rw [eN]; simpa using c8) (by rw [ew]; exact pr) (by rw [eB]; exact hB)
    rw [ew, ep, eB] at this
    exact this
  · have ep : a.At = placeA a := by unfold placeA; rw [if_neg c8]
    have ew : i64.wrap a.At = placeA a := by rw [i64_in _ (by omega), ep]
    have := lDo_p6 s x a most hok wa wm g0 g1 g2 g3 hm.1 n4 n5 n6 n7 (by rw [eN]; simpa using c8) (by rw [ew]; exact pr) (by rw [eB]; exact hB)
    rw [ew, eB] at this
    rw [← ep] at this ⊢
    exact this
end Go.Proofs.YtgpcfjokmonlgaaDoor
namespace Go.Proofs.YtgpcfjokmonlgaaDoor
open Go VX
open Go.IntKind (i64 u8 u16)
set_option linter.unusedVariables false
set_option linter.unusedSimpArgs false
set_option maxRecDepth 100000
inductive lawPlay_L1n (N_acts : Nat) (d_acts : Nat) (acts : Nat → Act) (xd : Int × Bool × Snd × RSnd) : (Int × Bool × Snd × RSnd) ⊕ ((Int × Bool × Snd × RSnd) ⊕ Bool) → Prop
  | p1 (d1 : (decide (xd.1 < ((N_acts : Nat) : Int))) = true) (w1d : 0 ≤ xd.1) (d2 : (decide (xd.1 ≥ 30)) = true) : lawPlay_L1n N_acts d_acts acts xd (.inr (.inl (xd.1, xd.2.1, xd.2.2.1, xd.2.2.2)))
  | p2 (d1 : (decide (xd.1 < ((N_acts : Nat) : Int))) = true) (w1d : 0 ≤ xd.1) (d2 : (decide (xd.1 ≥ 30)) = false) (w2d : SI xd.2.2.1) (w3d : Rel xd.2.2.1 xd.2.2.2) (d3 : (!((doF xd.2.2.1 xd.2.2.2 (acts (Int.toNat xd.1)) 2000).2.2)) = true) : lawPlay_L1n N_acts d_acts acts xd (.inr (.inr false))
  | p3 (d1 : (decide (xd.1 < ((N_acts : Nat) : Int))) = true) (w1d : 0 ≤ xd.1) (d2 : (decide (xd.1 ≥ 30)) = false) (w2d : SI xd.2.2.1) (w3d : Rel xd.2.2.1 xd.2.2.2) (d3 : (!((doF xd.2.2.1 xd.2.2.2 (acts (Int.toNat xd.1)) 2000).2.2)) = false) (w4d : Snd.ok ((doF xd.2.2.1 xd.2.2.2 (acts (Int.toNat xd.1)) 2000).1)) (w5d : Good ((doF xd.2.2.1 xd.2.2.2 (acts (Int.toNat xd.1)) 2000).2.1).Tones_0) (w6d : Good ((doF xd.2.2.1 xd.2.2.2 (acts (Int.toNat xd.1)) 2000).2.1).Tones_1) (w7d : Good ((doF xd.2.2.1 xd.2.2.2 (acts (Int.toNat xd.1)) 2000).2.1).Tones_2) (w8d : Good ((doF xd.2.2.1 xd.2.2.2 (acts (Int.toNat xd.1)) 2000).2.1).Tones_3) (d4 : (!(lLike ((doF xd.2.2.1 xd.2.2.2 (acts (Int.toNat xd.1)) 2000).1) ((doF xd.2.2.1 xd.2.2.2 (acts (Int.toNat xd.1)) 2000).2.1))) = true) : lawPlay_L1n N_acts d_acts acts xd (.inr (.inr false))
  | p4 (d1 : (decide (xd.1 < ((N_acts : Nat) : Int))) = true) (w1d : 0 ≤ xd.1) (d2 : (decide (xd.1 ≥ 30)) = false) (w2d : SI xd.2.2.1) (w3d : Rel xd.2.2.1 xd.2.2.2) (d3 : (!((doF xd.2.2.1 xd.2.2.2 (acts (Int.toNat xd.1)) 2000).2.2)) = false) (w4d : Snd.ok ((doF xd.2.2.1 xd.2.2.2 (acts (Int.toNat xd.1)) 2000).1)) (w5d : Good ((doF xd.2.2.1 xd.2.2.2 (acts (Int.toNat xd.1)) 2000).2.1).Tones_0) (w6d : Good ((doF xd.2.2.1 xd.2.2.2 (acts (Int.toNat xd.1)) 2000).2.1).Tones_1) (w7d : Good ((doF xd.2.2.1 xd.2.2.2 (acts (Int.toNat xd.1)) 2000).2.1).Tones_2) (w8d : Good ((doF xd.2.2.1 xd.2.2.2 (acts (Int.toNat xd.1)) 2000).2.1).Tones_3) (d4 : (!(lLike ((doF xd.2.2.1 xd.2.2.2 (acts (Int.toNat xd.1)) 2000).1) ((doF xd.2.2.1 xd.2.2.2 (acts (Int.toNat xd.1)) 2000).2.1))) = false) : lawPlay_L1n N_acts d_acts acts xd (.inl ((i64.wrap (xd.1 + 1)), xd.2.1, (doF xd.2.2.1 xd.2.2.2 (acts (Int.toNat xd.1)) 2000).1, (doF xd.2.2.1 xd.2.2.2 (acts (Int.toNat xd.1)) 2000).2.1))
  | p5 (d1 : (decide (xd.1 < ((N_acts : Nat) : Int))) = false) : lawPlay_L1n N_acts d_acts acts xd (.inr (.inl (xd.1, xd.2.1, xd.2.2.1, xd.2.2.2)))
def lawPlay_L1n_T (N_acts : Nat) (d_acts : Nat) (acts : Nat → Act) (xd : Int × Bool × Snd × RSnd) : Tm := [(2, .bool xd.2.1), (3, .pointer (some ⟨1001, 0, none⟩)), (4, .pointer (some ⟨1006, 0, none⟩)), (11, .slice (some ⟨1000, 0, (some d_acts)⟩) N_acts 0), (12, .int .i64 ((N_acts : Nat) : Int)), (13, .int .i64 xd.1)]
def lawPlay_L1n_H (N_acts : Nat) (d_acts : Nat) (acts : Nat → Act) (xd : Int × Bool × Snd × RSnd) : Heap := ([tb0, tb1, tb2, tb3, tb4, (1000, ⟨[.gap d_acts, .rows N_acts 4 (fun i => Act.cells (acts i))], 34, true⟩)] ++ (Snd.H 1001 1002 1003 1004 1005 xd.2.2.1) ++ [(1006, RSnd.blk xd.2.2.2)])
def lawPlay_L1n_T1 (N_acts : Nat) (d_acts : Nat) (acts : Nat → Act) : ((Int × Bool × Snd × RSnd) ⊕ Bool) → Tm
  | .inl q_ => lawPlay_L1n_T N_acts d_acts acts q_
  | .inr v => [(2, .bool v)]
def lawPlay_L1n_H1 (N_acts : Nat) (d_acts : Nat) (acts : Nat → Act) : ((Int × Bool × Snd × RSnd) ⊕ Bool) → Heap
  | .inl q_ => lawPlay_L1n_H N_acts d_acts acts q_
  | .inr v => []
def lawPlay_L1n_ex : ((Int × Bool × Snd × RSnd) ⊕ Bool) → Ex
  | .inl _ => .exit 0
  | .inr _ => .ret
theorem lawPlay_L1n_p1 (N_acts : Nat) (d_acts : Nat) (acts : Nat → Act) (xd : Int × Bool × Snd × RSnd) (w_acts : ∀ j, Act.ok (acts j)) (d1 : (decide (xd.1 < ((N_acts : Nat) : Int))) = true) (w1d : 0 ≤ xd.1) (d2 : (decide (xd.1 ≥ 30)) = true) : Runs Tryd.prog 32 (bodyOf Tryd.f6 [1, 1, 1, 0, 1, 0, 0]) (lawPlay_L1n_T N_acts d_acts acts xd) (lawPlay_L1n_H N_acts d_acts acts xd) 1007 (.exit 0) (lawPlay_L1n_T1 N_acts d_acts acts (.inl (xd.1, xd.2.1, xd.2.2.1, xd.2.2.2))) (lawPlay_L1n_H1 N_acts d_acts acts (.inl (xd.1, xd.2.1, xd.2.2.1, xd.2.2.2))) 1007 := by
  have o1 : 0 ≤ xd.1 ∧ xd.1 < ((N_acts : Nat) : Int) := by first | decide | omega | (simp only [decide_eq_true_eq, decide_eq_false_iff_not, rng, IntKind.wrap_i64, IntKind.wrap_u8, IntKind.wrap_u16] at *; omega)
  have o2 : Int.toNat xd.1 < N_acts := by first | decide | omega | (simp only [decide_eq_true_eq, decide_eq_false_iff_not, rng, IntKind.wrap_i64, IntKind.wrap_u8, IntKind.wrap_u16] at *; omega)
  exact runs_of_x hG hM 400 [.yes, .sym, .row (Int.toNat xd.1) 0, .yes] (J d1 (J o1 (J (Eq.refl d_acts) (J (Eq.refl ((Int.toNat xd.1 * 4) : Nat)) (J o2 (J d2 trivial)))))) (by kernel_rfl)
theorem lawPlay_L1n_p2 (N_acts : Nat) (d_acts : Nat) (acts : Nat → Act) (xd : Int × Bool × Snd × RSnd) (w_acts : ∀ j, Act.ok (acts j)) (d1 : (decide (xd.1 < ((N_acts : Nat) : Int))) = true) (w1d : 0 ≤ xd.1) (d2 : (decide (xd.1 ≥ 30)) = false) (w2d : SI xd.2.2.1) (w3d : Rel xd.2.2.1 xd.2.2.2) (d3 : (!((doF xd.2.2.1 xd.2.2.2 (acts (Int.toNat xd.1)) 2000).2.2)) = true) : Runs Tryd.prog 32 (bodyOf Tryd.f6 [1, 1, 1, 0, 1, 0, 0]) (lawPlay_L1n_T N_acts d_acts acts xd) (lawPlay_L1n_H N_acts d_acts acts xd) 1007 .ret (lawPlay_L1n_T1 N_acts d_acts acts (.inr false)) (lawPlay_L1n_H1 N_acts d_acts acts (.inr false)) 1007 := by
  have o1 : 0 ≤ xd.1 ∧ xd.1 < ((N_acts : Nat) : Int) := by first | decide | omega | (simp only [decide_eq_true_eq, decide_eq_false_iff_not, rng, IntKind.wrap_i64, IntKind.wrap_u8, IntKind.wrap_u16] at *; omega)
  have o2 : Int.toNat xd.1 < N_acts := by first | decide | omega | (simp only [decide_eq_true_eq, decide_eq_false_iff_not, rng, IntKind.wrap_i64, IntKind.wrap_u8, IntKind.wrap_u16] at *; omega)
  exact runs_of_x hG hM 400 [.yes, .sym, .row (Int.toNat xd.1) 0, .no, .call [(0, 0), (1, 1), (2, 2), (4, 4), (1001, 1000), (1002, 1001), (1003, 1002), (1004, 1003), (1005, 1004), (1006, 1005)] [] 1006 (.bool ((doF xd.2.2.1 xd.2.2.2 (acts (Int.toNat xd.1)) 2000).2.2)) ((Snd.H0 ((doF xd.2.2.1 xd.2.2.2 (acts (Int.toNat xd.1)) 2000).1)) ++ [(1005, RSnd.blk ((doF xd.2.2.1 xd.2.2.2 (acts (Int.toNat xd.1)) 2000).2.1))]), .yes, .yes, .yes, .yes, .yes, .yes] (J d1 (J o1 (J (Eq.refl d_acts) (J (Eq.refl ((Int.toNat xd.1 * 4) : Nat)) (J o2 (J d2 (J (doF_ok xd.2.2.1 xd.2.2.2 (acts (Int.toNat xd.1)) 2000 w2d w3d (w_acts (Int.toNat xd.1)) (by decide)) (J d3 (J d3 (J d3 (J d3 (J d3 (J T1 trivial))))))))))))) (by kernel_rfl)
theorem lawPlay_L1n_p3 (N_acts : Nat) (d_acts : Nat) (acts : Nat → Act) (xd : Int × Bool × Snd × RSnd) (w_acts : ∀ j, Act.ok (acts j)) (d1 : (decide (xd.1 < ((N_acts : Nat) : Int))) = true) (w1d : 0 ≤ xd.1) (d2 : (decide (xd.1 ≥ 30)) = false) (w2d : SI xd.2.2.1) (w3d : Rel xd.2.2.1 xd.2.2.2) (d3 : (!((doF xd.2.2.1 xd.2.2.2 (acts (Int.toNat xd.1)) 2000).2.2)) = false) (w4d : Snd.ok ((doF xd.2.2.1 xd.2.2.2 (acts (Int.toNat xd.1)) 2000).1)) (w5d : Good ((doF xd.2.2.1 xd.2.2.2 (acts (Int.toNat xd.1)) 2000).2.1).Tones_0) (w6d : Good ((doF xd.2.2.1 xd.2.2.2 (acts (Int.toNat xd.1)) 2000).2.1).Tones_1) (w7d : Good ((doF xd.2.2.1 xd.2.2.2 (acts (Int.toNat xd.1)) 2000).2.1).Tones_2) (w8d : Good ((doF xd.2.2.1 xd.2.2.2 (acts (Int.toNat xd.1)) 2000).2.1).Tones_3) (d4 : (!(lLike ((doF xd.2.2.1 xd.2.2.2 (acts (Int.toNat xd.1)) 2000).1) ((doF xd.2.2.1 xd.2.2.2 (acts (Int.toNat xd.1)) 2000).2.1))) = true) : Runs Tryd.prog 32 (bodyOf Tryd.f6 [1, 1, 1, 0, 1, 0, 0]) (lawPlay_L1n_T N_acts d_acts acts xd) (lawPlay_L1n_H N_acts d_acts acts xd) 1007 .ret (lawPlay_L1n_T1 N_acts d_acts acts (.inr false)) (lawPlay_L1n_H1 N_acts d_acts acts (.inr false)) 1007 := by
  have o1 : 0 ≤ xd.1 ∧ xd.1 < ((N_acts : Nat) : Int) := by first | decide | omega | (simp only [decide_eq_true_eq, decide_eq_false_iff_not, rng, IntKind.wrap_i64, IntKind.wrap_u8, IntKind.wrap_u16] at *; omega)
  have o2 : Int.toNat xd.1 < N_acts := by first | decide | omega | (simp only [decide_eq_true_eq, decide_eq_false_iff_not, rng, IntKind.wrap_i64, IntKind.wrap_u8, IntKind.wrap_u16] at *; omega)
  exact runs_of_x hG hM 400 [.yes, .sym, .row (Int.toNat xd.1) 0, .no, .call [(0, 0), (1, 1), (2, 2), (4, 4), (1001, 1000), (1002, 1001), (1003, 1002), (1004, 1003), (1005, 1004), (1006, 1005)] [] 1006 (.bool ((doF xd.2.2.1 xd.2.2.2 (acts (Int.toNat xd.1)) 2000).2.2)) ((Snd.H0 ((doF xd.2.2.1 xd.2.2.2 (acts (Int.toNat xd.1)) 2000).1)) ++ [(1005, RSnd.blk ((doF xd.2.2.1 xd.2.2.2 (acts (Int.toNat xd.1)) 2000).2.1))]), .no, .no, .no, .call [(3, 3), (1001, 1000), (1002, 1001), (1003, 1002), (1004, 1003), (1005, 1004), (1006, 1005)] [] 1006 (.bool (lLike ((doF xd.2.2.1 xd.2.2.2 (acts (Int.toNat xd.1)) 2000).1) ((doF xd.2.2.1 xd.2.2.2 (acts (Int.toNat xd.1)) 2000).2.1))) ((Snd.H0 ((doF xd.2.2.1 xd.2.2.2 (acts (Int.toNat xd.1)) 2000).1)) ++ [(1005, RSnd.blk ((doF xd.2.2.1 xd.2.2.2 (acts (Int.toNat xd.1)) 2000).2.1))]), .no, .no, .yes] (J d1 (J o1 (J (Eq.refl d_acts) (J (Eq.refl ((Int.toNat xd.1 * 4) : Nat)) (J o2 (J d2 (J (doF_ok xd.2.2.1 xd.2.2.2 (acts (Int.toNat xd.1)) 2000 w2d w3d (w_acts (Int.toNat xd.1)) (by decide)) (J d3 (J d3 (J d3 (J (lLike_ok ((doF xd.2.2.1 xd.2.2.2 (acts (Int.toNat xd.1)) 2000).1) ((doF xd.2.2.1 xd.2.2.2 (acts (Int.toNat xd.1)) 2000).2.1) w4d w5d w6d w7d w8d) (J d3 (J d3 (J d4 trivial)))))))))))))) (by kernel_rfl)
theorem lawPlay_L1n_p4 (N_acts : Nat) (d_acts : Nat) (acts : Nat → Act) (xd : Int × Bool × Snd × RSnd) (w_acts : ∀ j, Act.ok (acts j)) (d1 : (decide (xd.1 < ((N_acts : Nat) : Int))) = true) (w1d : 0 ≤ xd.1) (d2 : (decide (xd.1 ≥ 30)) = false) (w2d : SI xd.2.2.1) (w3d : Rel xd.2.2.1 xd.2.2.2) (d3 : (!((doF xd.2.2.1 xd.2.2.2 (acts (Int.toNat xd.1)) 2000).2.2)) = false) (w4d : Snd.ok ((doF xd.2.2.1 xd.2.2.2 (acts (Int.toNat xd.1)) 2000).1)) (w5d : Good ((doF xd.2.2.1 xd.2.2.2 (acts (Int.toNat xd.1)) 2000).2.1).Tones_0) (w6d : Good ((doF xd.2.2.1 xd.2.2.2 (acts (Int.toNat xd.1)) 2000).2.1).Tones_1) (w7d : Good ((doF xd.2.2.1 xd.2.2.2 (acts (Int.toNat xd.1)) 2000).2.1).Tones_2) (w8d : Good ((doF xd.2.2.1 xd.2.2.2 (acts (Int.toNat xd.1)) 2000).2.1).Tones_3) (d4 : (!(lLike ((doF xd.2.2.1 xd.2.2.2 (acts (Int.toNat xd.1)) 2000).1) ((doF xd.2.2.1 xd.2.2.2 (acts (Int.toNat xd.1)) 2000).2.1))) = false) : Runs Tryd.prog 32 (bodyOf Tryd.f6 [1, 1, 1, 0, 1, 0, 0]) (lawPlay_L1n_T N_acts d_acts acts xd) (lawPlay_L1n_H N_acts d_acts acts xd) 1007 .normal (lawPlay_L1n_T N_acts d_acts acts ((i64.wrap (xd.1 + 1)), xd.2.1, (doF xd.2.2.1 xd.2.2.2 (acts (Int.toNat xd.1)) 2000).1, (doF xd.2.2.1 xd.2.2.2 (acts (Int.toNat xd.1)) 2000).2.1)) (lawPlay_L1n_H N_acts d_acts acts ((i64.wrap (xd.1 + 1)), xd.2.1, (doF xd.2.2.1 xd.2.2.2 (acts (Int.toNat xd.1)) 2000).1, (doF xd.2.2.1 xd.2.2.2 (acts (Int.toNat xd.1)) 2000).2.1)) 1007 := by
  have o1 : 0 ≤ xd.1 ∧ xd.1 < ((N_acts : Nat) : Int) := by first | decide | omega | (simp only [decide_eq_true_eq, decide_eq_false_iff_not, rng, IntKind.wrap_i64, IntKind.wrap_u8, IntKind.wrap_u16] at *; omega)
  have o2 : Int.toNat xd.1 < N_acts := by first | decide | omega | (simp only [decide_eq_true_eq, decide_eq_false_iff_not, rng, IntKind.wrap_i64, IntKind.wrap_u8, IntKind.wrap_u16] at *; omega)
  exact runs_of_x hG hM 400 [.yes, .sym, .row (Int.toNat xd.1) 0, .no, .call [(0, 0), (1, 1), (2, 2), (4, 4), (1001, 1000), (1002, 1001), (1003, 1002), (1004, 1003), (1005, 1004), (1006, 1005)] [] 1006 (.bool ((doF xd.2.2.1 xd.2.2.2 (acts (Int.toNat xd.1)) 2000).2.2)) ((Snd.H0 ((doF xd.2.2.1 xd.2.2.2 (acts (Int.toNat xd.1)) 2000).1)) ++ [(1005, RSnd.blk ((doF xd.2.2.1 xd.2.2.2 (acts (Int.toNat xd.1)) 2000).2.1))]), .no, .no, .no, .call [(3, 3), (1001, 1000), (1002, 1001), (1003, 1002), (1004, 1003), (1005, 1004), (1006, 1005)] [] 1006 (.bool (lLike ((doF xd.2.2.1 xd.2.2.2 (acts (Int.toNat xd.1)) 2000).1) ((doF xd.2.2.1 xd.2.2.2 (acts (Int.toNat xd.1)) 2000).2.1))) ((Snd.H0 ((doF xd.2.2.1 xd.2.2.2 (acts (Int.toNat xd.1)) 2000).1)) ++ [(1005, RSnd.blk ((doF xd.2.2.1 xd.2.2.2 (acts (Int.toNat xd.1)) 2000).2.1))]), .no, .no, .no] (J d1 (J o1 (J (Eq.refl d_acts) (J (Eq.refl ((Int.toNat xd.1 * 4) : Nat)) (J o2 (J d2 (J (doF_ok xd.2.2.1 xd.2.2.2 (acts (Int.toNat xd.1)) 2000 w2d w3d (w_acts (Int.toNat xd.1)) (by decide)) (J d3 (J d3 (J d3 (J (lLike_ok ((doF xd.2.2.1 xd.2.2.2 (acts (Int.toNat xd.1)) 2000).1) ((doF xd.2.2.1 xd.2.2.2 (acts (Int.toNat xd.1)) 2000).2.1) w4d w5d w6d w7d w8d) (J d3 (J d3 (J d4 trivial)))))))))))))) (by kernel_rfl)
theorem lawPlay_L1n_p5 (N_acts : Nat) (d_acts : Nat) (acts : Nat → Act) (xd : Int × Bool × Snd × RSnd) (w_acts : ∀ j, Act.ok (acts j)) (d1 : (decide (xd.1 < ((N_acts : Nat) : Int))) = false) : Runs Tryd.prog 32 (bodyOf Tryd.f6 [1, 1, 1, 0, 1, 0, 0]) (lawPlay_L1n_T N_acts d_acts acts xd) (lawPlay_L1n_H N_acts d_acts acts xd) 1007 (.exit 0) (lawPlay_L1n_T1 N_acts d_acts acts (.inl (xd.1, xd.2.1, xd.2.2.1, xd.2.2.2))) (lawPlay_L1n_H1 N_acts d_acts acts (.inl (xd.1, xd.2.1, xd.2.2.1, xd.2.2.2))) 1007 := by
  exact runs_of_x hG hM 400 [.no] (J d1 trivial) (by kernel_rfl)
theorem lawPlay_L1n_runs (N_acts : Nat) (d_acts : Nat) (acts : Nat → Act) (w_acts : ∀ j, Act.ok (acts j)) (x_ : Int × Bool × Snd × RSnd) (y_ : (Int × Bool × Snd × RSnd) ⊕ Bool) (h_ : LoopR (lawPlay_L1n N_acts d_acts acts) x_ y_) : Runs Tryd.prog 32 (.block 0 (.loop (bodyOf Tryd.f6 [1, 1, 1, 0, 1, 0, 0]))) (lawPlay_L1n_T N_acts d_acts acts x_) (lawPlay_L1n_H N_acts d_acts acts x_) 1007 (outOf 0 (lawPlay_L1n_ex y_)) (lawPlay_L1n_T1 N_acts d_acts acts y_) (lawPlay_L1n_H1 N_acts d_acts acts y_) 1007 := by
  refine block_loop (lawPlay_L1n N_acts d_acts acts) (lawPlay_L1n_T N_acts d_acts acts) (lawPlay_L1n_H N_acts d_acts acts) lawPlay_L1n_ex (lawPlay_L1n_T1 N_acts d_acts acts) (lawPlay_L1n_H1 N_acts d_acts acts) ?_ ?_ ?_ x_ y_ h_
  · intro r hr; cases r <;> cases hr
  · intro xd y_ hx
    cases hx with
    | p4 d1 w1d d2 w2d w3d d3 w4d w5d w6d w7d w8d d4 => exact lawPlay_L1n_p4 N_acts d_acts acts xd w_acts d1 w1d d2 w2d w3d d3 w4d w5d w6d w7d w8d d4
  · intro xd y_ hx
    cases hx with
    | p1 d1 w1d d2 => exact lawPlay_L1n_p1 N_acts d_acts acts xd w_acts d1 w1d d2
    | p2 d1 w1d d2 w2d w3d d3 => exact lawPlay_L1n_p2 N_acts d_acts acts xd w_acts d1 w1d d2 w2d w3d d3
    | p3 d1 w1d d2 w2d w3d d3 w4d w5d w6d w7d w8d d4 => exact lawPlay_L1n_p3 N_acts d_acts acts xd w_acts d1 w1d d2 w2d w3d d3 w4d w5d w6d w7d w8d d4
    | p5 d1 => exact lawPlay_L1n_p5 N_acts d_acts acts xd w_acts d1
theorem lawPlay_p1 (N_acts : Nat) (d_acts : Nat) (acts : Nat → Act) (w_acts : ∀ j, Act.ok (acts j)) (c1 : (!awake) = false) (r1 : Int × Bool × Snd × RSnd) (l1 : LoopR (lawPlay_L1n N_acts d_acts acts) (0, false, sNew, rsNew) (.inl r1)) : FnSpec Tryd.prog 6 1001 [.slice (some ⟨1000, 0, (some d_acts)⟩) N_acts 0] [tb0, tb1, tb2, tb3, tb4, (1000, ⟨[.gap d_acts, .rows N_acts 4 (fun i => Act.cells (acts i))], 34, true⟩)] (.bool true) [] := by
  exact fn_of_x hG hM Tryd.func6 (by kernel_rfl) (by kernel_rfl) 400 [.call [(0, 0), (3, 3)] [] 1000 (.bool awake) [], .no, .call [(0, 0)] [(1000, 1001), (1001, 1002), (1002, 1003), (1003, 1004), (1004, 1005)] 1000 (.pointer (some ⟨1000, 0, none⟩)) (Snd.H0 sNew), .call [] [(1000, 1006)] 1000 (.pointer (some ⟨1000, 0, none⟩)) [(1000, RSnd.blk rsNew)], .segk 1 0 [2, 3, 4, 11, 12, 13] [0, 1, 2, 3, 4, 1000, 1001, 1002, 1003, 1004, 1005, 1006] .normal (lawPlay_L1n_T1 N_acts d_acts acts (.inl r1)) (lawPlay_L1n_H1 N_acts d_acts acts (.inl r1)) 1007] (J (awake_ok) (J c1 (J (sNew_ok) (J (rsNew_ok) (J (lawPlay_L1n_runs N_acts d_acts acts w_acts (0, false, sNew, rsNew) (.inl r1) l1) trivial))))) (by kernel_rfl)
theorem lawPlay_p2 (N_acts : Nat) (d_acts : Nat) (acts : Nat → Act) (w_acts : ∀ j, Act.ok (acts j)) (c1 : (!awake) = false) (r1 : Bool) (l1 : LoopR (lawPlay_L1n N_acts d_acts acts) (0, false, sNew, rsNew) (.inr r1)) : FnSpec Tryd.prog 6 1001 [.slice (some ⟨1000, 0, (some d_acts)⟩) N_acts 0] [tb0, tb1, tb2, tb3, tb4, (1000, ⟨[.gap d_acts, .rows N_acts 4 (fun i => Act.cells (acts i))], 34, true⟩)] (.bool r1) [] := by
  exact fn_of_x hG hM Tryd.func6 (by kernel_rfl) (by kernel_rfl) 400 [.call [(0, 0), (3, 3)] [] 1000 (.bool awake) [], .no, .call [(0, 0)] [(1000, 1001), (1001, 1002), (1002, 1003), (1003, 1004), (1004, 1005)] 1000 (.pointer (some ⟨1000, 0, none⟩)) (Snd.H0 sNew), .call [] [(1000, 1006)] 1000 (.pointer (some ⟨1000, 0, none⟩)) [(1000, RSnd.blk rsNew)], .segk 1 0 [2, 3, 4, 11, 12, 13] [0, 1, 2, 3, 4, 1000, 1001, 1002, 1003, 1004, 1005, 1006] .ret (lawPlay_L1n_T1 N_acts d_acts acts (.inr r1)) (lawPlay_L1n_H1 N_acts d_acts acts (.inr r1)) 1007] (J (awake_ok) (J c1 (J (sNew_ok) (J (rsNew_ok) (J (lawPlay_L1n_runs N_acts d_acts acts w_acts (0, false, sNew, rsNew) (.inr r1) l1) trivial))))) (by kernel_rfl)
end Go.Proofs.YtgpcfjokmonlgaaDoor
namespace Go.Proofs.YtgpcfjokmonlgaaDoor
open Go VX IntWalk
set_option maxRecDepth 100000
set_option linter.unusedSimpArgs false
set_option linter.unusedVariables false
theorem play_loop (N d : Nat) (acts : Nat → Act) (wa : ∀ j, Act.ok (acts j)) : ∀ (n : Nat) (i : Int) (s : Snd) (x : RSnd), 0 ≤ i → i + n = 30 → SI s → Rel s x → ∃ r, LoopR (lawPlay_L1n N d acts) (i, false, s, x) (.inl r)
  | n, i, s, x, i0, hn, h, r => by
    by_cases hN : i < N
    · cases n with
      | zero => exact ⟨_, .last (.p1 (by simpa using hN) i0 (by simp; omega))⟩
      | succ n =>
        obtain ⟨h', r'⟩ := do_rel (most := 2000) h r (wa i.toNat)
        obtain ⟨g0, g1, g2, g3⟩ := h'.g r'
        have st := lawPlay_L1n.p4 (N_acts := N) (d_acts := d) (acts := acts) (xd := (i, false, s, x)) (by simpa using hN) i0 (by simp; omega) h r rfl (h'.ok iinv_cl.toClC) g0 g1 g2 g3 (by
          show (!lLike (doS s (acts i.toNat) 2000) (doX x (acts i.toNat) 2000)) = false
          rw [rel_like h' r']; rfl)
        rw [i64_in (i + 1) (by omega)] at st
        obtain ⟨q, L⟩ := play_loop N d acts wa n (i + 1) _ _ (by omega) (by omega) h' r'
        exact ⟨q, .more st L⟩
    · exact ⟨_, .last (.p5 (by simpa using hN))⟩
theorem play_true (N d : Nat) (acts : Nat → Act) (wa : ∀ j, Act.ok (acts j)) : FnSpec Tryd.prog 6 1001 [.slice (some ⟨1000, 0, (some d)⟩) N 0] [tb0, tb1, tb2, tb3, tb4, (1000, ⟨[.gap d, .rows N 4 (fun i => Act.cells (acts i))], 34, true⟩)] (.bool true) [] := by
  obtain ⟨r, L⟩ := play_loop N d acts wa 30 0 sNew rsNew (by decide) (by decide) new_si new_rel
  exact lawPlay_p1 N d acts wa awake_t r L
end Go.Proofs.YtgpcfjokmonlgaaDoor
