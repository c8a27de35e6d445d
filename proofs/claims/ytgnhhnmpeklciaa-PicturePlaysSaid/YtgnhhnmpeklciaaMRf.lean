/-
  Texts laid together: NQ, NR, NS, NT, NU, NV, NX, NY, OF, OK, RB, RC, OP, OQ, OL, VW, VZ, KT, OH, OJ. No condition.
-/
import Derived.ChangeSame
import Derived.DataReads
import Derived.Deep.Fields
import Derived.Deep.Slices
import Derived.Test.YtgnhhnmpeklciaaMRe
set_option linter.unusedVariables false
set_option linter.unusedSimpArgs false
set_option linter.unusedSectionVars false
set_option maxRecDepth 100000
set_option maxHeartbeats 4000000
namespace Go.Proofs.Ytgnhhnmpeklciaa
open Go VX
open Go.IntKind (i64 u8 u16)
def qeJ2y (rM:Nat → Int) (rN:Nat → Int) (n:Int) (xd:(List Sprite) × (List Man) × Int × Bool × Pic × RPic × (Nat → Int)):Bool:=
 if ((rClockF xd.2.2.2.2.2.1 rM rN xd.2.2.2.2.2.2 xd.2.1).1).Blank = true then
  (!((pNMI ((pClock xd.2.2.2.2.1 xd.1).1) ((pClock xd.2.2.2.2.1 xd.1).2)) == (decide ((((rClockF xd.2.2.2.2.2.1 rM rN xd.2.2.2.2.2.2 xd.2.1).1).Control:Int) ≥ 128))))
 else
  (!((pNMI ((pClock xd.2.2.2.2.1 xd.1).1) ((pClock xd.2.2.2.2.1 xd.1).2)) == false))
def qeJ2y_T (rM:Nat → Int) (rN:Nat → Int) (n:Int) (xd:(List Sprite) × (List Man) × Int × Bool × Pic × RPic × (Nat → Int)):Tm:=[(0,pt 1000),(1,pt 1001),(6,.bool xd.2.2.2.1),(9,.int .i64 n),(10,.int .i64 xd.2.2.1)]
def qeJ2y_H (rM:Nat → Int) (rN:Nat → Int) (n:Int) (xd:(List Sprite) × (List Man) × Int × Bool × Pic × RPic × (Nat → Int)):Heap:=[(1000,(Pic.bl ((pClock xd.2.2.2.2.1 xd.1).1) (sl 1009 (List.length ((pClock xd.2.2.2.2.1 xd.1).2)) 5) false)),(1001,(RPic.bl ((rClockF xd.2.2.2.2.2.1 rM rN xd.2.2.2.2.2.2 xd.2.1).1) (sl 1002 16384 1) (sl 1003 256 1) (sl 1010 (List.length ((rClockF xd.2.2.2.2.2.1 rM rN xd.2.2.2.2.2.2 xd.2.1).2.2)) 4) (sl 1004 61440 1) false)),(1009,⟨[rowsL Sprite.cells Sprite.nil 5 ((pClock xd.2.2.2.2.1 xd.1).2)],92,false⟩)]
def qeJ2y_T1 (rM:Nat → Int) (rN:Nat → Int) (n:Int) (xd:(List Sprite) × (List Man) × Int × Bool × Pic × RPic × (Nat → Int)) (r_:Bool):Tm:=[(0,pt 1000),(1,pt 1001),(6,.bool xd.2.2.2.1),(9,.int .i64 n),(10,.int .i64 xd.2.2.1),(29,.bool r_)]
def qeJ2y_H1 (rM:Nat → Int) (rN:Nat → Int) (n:Int) (xd:(List Sprite) × (List Man) × Int × Bool × Pic × RPic × (Nat → Int)) (r_:Bool):Heap:=[(1000,(Pic.bl ((pClock xd.2.2.2.2.1 xd.1).1) (sl 1009 (List.length ((pClock xd.2.2.2.2.1 xd.1).2)) 5) false)),(1001,(RPic.bl ((rClockF xd.2.2.2.2.2.1 rM rN xd.2.2.2.2.2.2 xd.2.1).1) (sl 1002 16384 1) (sl 1003 256 1) (sl 1010 (List.length ((rClockF xd.2.2.2.2.2.1 rM rN xd.2.2.2.2.2.2 xd.2.1).2.2)) 4) (sl 1004 61440 1) false)),(1009,⟨[rowsL Sprite.cells Sprite.nil 5 ((pClock xd.2.2.2.2.1 xd.1).2)],92,false⟩)]
abbrev NQk0 (xd:(List Sprite) × (List Man) × Int × Bool × Pic × RPic × (Nat → Int)) (rM rN:Nat → Int):=(rClockF xd.2.2.2.2.2.1 rM rN xd.2.2.2.2.2.2 xd.2.1)
abbrev NQk1 (xd:(List Sprite) × (List Man) × Int × Bool × Pic × RPic × (Nat → Int)):=(pClock xd.2.2.2.2.1 xd.1)
theorem qeJ2y_p1 (rM:Nat → Int) (rN:Nat → Int) (n:Int) (xd:(List Sprite) × (List Man) × Int × Bool × Pic × RPic × (Nat → Int)) (e1:((NQk0 xd rM rN).1).Blank = true):Runs Try.prog 59 (bodyOf Try.f29 [1,0,1,0,0,1,1,0,0,1,1,0]) (qeJ2y_T rM rN n xd) (qeJ2y_H rM rN n xd) 1011 .normal (qeJ2y_T1 rM rN n xd (!((pNMI ((NQk1 xd).1) ((NQk1 xd).2)) == (decide ((((NQk0 xd rM rN).1).Control:Int) ≥ 128))))) (qeJ2y_H1 rM rN n xd (!((pNMI ((NQk1 xd).1) ((NQk1 xd).2)) == (decide ((((NQk0 xd rM rN).1).Control:Int) ≥ 128))))) 1011:=by
 exact runs_of_x hG hM 400 [.callr [(1000,1000),(1009,1001)] [1000,1009] [] 1002 (.bool (pNMI ((NQk1 xd).1) ((NQk1 xd).2))) [],.yes,.yes,.yes,.yes,.yes,.yes] (J (pNMI_ok ((NQk1 xd).1) ((NQk1 xd).2)) (J e1 (J e1 (J e1 (J e1 (J e1 (J e1 trivial))))))) (by kernel_rfl)
theorem qeJ2y_p2 (rM:Nat → Int) (rN:Nat → Int) (n:Int) (xd:(List Sprite) × (List Man) × Int × Bool × Pic × RPic × (Nat → Int)) (e1:((NQk0 xd rM rN).1).Blank = false):Runs Try.prog 59 (bodyOf Try.f29 [1,0,1,0,0,1,1,0,0,1,1,0]) (qeJ2y_T rM rN n xd) (qeJ2y_H rM rN n xd) 1011 .normal (qeJ2y_T1 rM rN n xd (!((pNMI ((NQk1 xd).1) ((NQk1 xd).2)) == false))) (qeJ2y_H1 rM rN n xd (!((pNMI ((NQk1 xd).1) ((NQk1 xd).2)) == false))) 1011:=by
 exact runs_of_x hG hM 400 [.callr [(1000,1000),(1009,1001)] [1000,1009] [] 1002 (.bool (pNMI ((NQk1 xd).1) ((NQk1 xd).2))) [],.no,.no,.no,.no,.no,.no] (J (pNMI_ok ((NQk1 xd).1) ((NQk1 xd).2)) (J e1 (J e1 (J e1 (J e1 (J e1 (J e1 trivial))))))) (by kernel_rfl)
theorem qeJ2y_runs (rM:Nat → Int) (rN:Nat → Int) (n:Int) (xd:(List Sprite) × (List Man) × Int × Bool × Pic × RPic × (Nat → Int)):Runs Try.prog 59 (bodyOf Try.f29 [1,0,1,0,0,1,1,0,0,1,1,0]) (qeJ2y_T rM rN n xd) (qeJ2y_H rM rN n xd) 1011 .normal (qeJ2y_T1 rM rN n xd (qeJ2y rM rN n xd)) (qeJ2y_H1 rM rN n xd (qeJ2y rM rN n xd)) 1011:=by
 rcases bt (((NQk0 xd rM rN).1).Blank) with e1 | e1
 ·
  rw [show qeJ2y rM rN n xd = (!((pNMI ((NQk1 xd).1) ((NQk1 xd).2)) == (decide ((((NQk0 xd rM rN).1).Control:Int) ≥ 128)))) from by unfold qeJ2y;rw [if_pos e1]]
  exact qeJ2y_p1 rM rN n xd e1
 ·
  rw [show qeJ2y rM rN n xd = (!((pNMI ((NQk1 xd).1) ((NQk1 xd).2)) == false)) from by unfold qeJ2y;rw [if_neg (nt e1)]]
  exact qeJ2y_p2 rM rN n xd e1
inductive qeL1 (p:Pic) (rM:Nat → Int) (rN:Nat → Int) (rS:Nat → Int) (n:Int) (xd:(List Sprite) × (List Man) × Int × Bool × Pic × RPic × (Nat → Int)):((List Sprite) × (List Man) × Int × Bool × Pic × RPic × (Nat → Int)) ⊕ (((List Sprite) × (List Man) × Int × Bool × Pic × RPic × (Nat → Int)) ⊕ ((List Sprite) × (List Man) × Int × Bool × Pic × RPic × (Nat → Int))) → Prop
 | p1 (d1:(decide (xd.2.2.1 < n)) = true) (w1d:Pic.ok xd.2.2.2.2.1) (w2d:0 ≤ xd.2.2.2.2.1.line) (w3d:(List.length xd.1) ≤ 8) (w4d:ROk xd.2.2.2.2.2.1) (w5d:∀ j,rng 256 (rM j)) (w6d:∀ j,rng 256 (rN j)) (w7d:∀ c ∈ xd.2.1,ManOk c) (w8d:xd.2.1.length ≤ 8) (d2:(qeJ2y rM rN n xd) = true):qeL1 p rM rN rS n xd (.inr (.inr ((pClock xd.2.2.2.2.1 xd.1).2,(rClockF xd.2.2.2.2.2.1 rM rN xd.2.2.2.2.2.2 xd.2.1).2.2,xd.2.2.1,false,(pClock xd.2.2.2.2.1 xd.1).1,(rClockF xd.2.2.2.2.2.1 rM rN xd.2.2.2.2.2.2 xd.2.1).1,(rClockF xd.2.2.2.2.2.1 rM rN xd.2.2.2.2.2.2 xd.2.1).2.1)))
 | p2 (d1:(decide (xd.2.2.1 < n)) = true) (w1d:Pic.ok xd.2.2.2.2.1) (w2d:0 ≤ xd.2.2.2.2.1.line) (w3d:(List.length xd.1) ≤ 8) (w4d:ROk xd.2.2.2.2.2.1) (w5d:∀ j,rng 256 (rM j)) (w6d:∀ j,rng 256 (rN j)) (w7d:∀ c ∈ xd.2.1,ManOk c) (w8d:xd.2.1.length ≤ 8) (d2:(qeJ2y rM rN n xd) = false):qeL1 p rM rN rS n xd (.inl ((pClock xd.2.2.2.2.1 xd.1).2,(rClockF xd.2.2.2.2.2.1 rM rN xd.2.2.2.2.2.2 xd.2.1).2.2,(i64.wrap (xd.2.2.1 + 1)),xd.2.2.2.1,(pClock xd.2.2.2.2.1 xd.1).1,(rClockF xd.2.2.2.2.2.1 rM rN xd.2.2.2.2.2.2 xd.2.1).1,(rClockF xd.2.2.2.2.2.1 rM rN xd.2.2.2.2.2.2 xd.2.1).2.1))
 | p3 (d1:(decide (xd.2.2.1 < n)) = false):qeL1 p rM rN rS n xd (.inr (.inl (xd.1,xd.2.1,xd.2.2.1,xd.2.2.2.1,xd.2.2.2.2.1,xd.2.2.2.2.2.1,xd.2.2.2.2.2.2)))
def qeL1_T (p:Pic) (rM:Nat → Int) (rN:Nat → Int) (rS:Nat → Int) (n:Int) (xd:(List Sprite) × (List Man) × Int × Bool × Pic × RPic × (Nat → Int)):Tm:=[(0,pt 1000),(1,pt 1001),(6,.bool xd.2.2.2.1),(9,.int .i64 n),(10,.int .i64 xd.2.2.1)]
def qeL1_H (p:Pic) (rM:Nat → Int) (rN:Nat → Int) (rS:Nat → Int) (n:Int) (xd:(List Sprite) × (List Man) × Int × Bool × Pic × RPic × (Nat → Int)):Heap:=[(1000,(Pic.bl xd.2.2.2.2.1 (sl 1007 (List.length xd.1) 5) false)),(1001,(RPic.bl xd.2.2.2.2.2.1 (sl 1002 16384 1) (sl 1003 256 1) (sl 1008 (List.length xd.2.1) 4) (sl 1004 61440 1) false)),(1002,iB 16384 rM false),(1003,iB 256 rN false),(1004,⟨[.ints .u8 61440 xd.2.2.2.2.2.2],5,false⟩),(1007,⟨[rowsL Sprite.cells Sprite.nil 5 xd.1],92,false⟩),(1008,⟨[rowsL Man.cells Man.nil 4 xd.2.1],119,false⟩)]
def qeL1_T1 (p:Pic) (rM:Nat → Int) (rN:Nat → Int) (rS:Nat → Int) (n:Int):(((List Sprite) × (List Man) × Int × Bool × Pic × RPic × (Nat → Int)) ⊕ ((List Sprite) × (List Man) × Int × Bool × Pic × RPic × (Nat → Int))) → Tm
 | .inl q_ => qeL1_T p rM rN rS n q_
 | .inr q_ => qeL1_T p rM rN rS n q_
def qeL1_H1 (p:Pic) (rM:Nat → Int) (rN:Nat → Int) (rS:Nat → Int) (n:Int):(((List Sprite) × (List Man) × Int × Bool × Pic × RPic × (Nat → Int)) ⊕ ((List Sprite) × (List Man) × Int × Bool × Pic × RPic × (Nat → Int))) → Heap
 | .inl q_ => qeL1_H p rM rN rS n q_
 | .inr q_ => qeL1_H p rM rN rS n q_
def qeL1_ex:(((List Sprite) × (List Man) × Int × Bool × Pic × RPic × (Nat → Int)) ⊕ ((List Sprite) × (List Man) × Int × Bool × Pic × RPic × (Nat → Int))) → Ex
 | .inl _ => .exit 0
 | .inr _ => .ret
theorem qeL1_p1 (p:Pic) (rM:Nat → Int) (rN:Nat → Int) (rS:Nat → Int) (n:Int) (xd:(List Sprite) × (List Man) × Int × Bool × Pic × RPic × (Nat → Int)) (d1:(decide (xd.2.2.1 < n)) = true) (w1d:Pic.ok xd.2.2.2.2.1) (w2d:0 ≤ xd.2.2.2.2.1.line) (w3d:(List.length xd.1) ≤ 8) (w4d:ROk xd.2.2.2.2.2.1) (w5d:∀ j,rng 256 (rM j)) (w6d:∀ j,rng 256 (rN j)) (w7d:∀ c ∈ xd.2.1,ManOk c) (w8d:xd.2.1.length ≤ 8) (d2:(qeJ2y rM rN n xd) = true):RunsM Try.prog 59 (bodyOf Try.f29 [1,0,1,0,0]) 1007 (qeL1_T p rM rN rS n xd) (qeL1_H p rM rN rS n xd) 1009 .ret (qeL1_T1 p rM rN rS n (.inr ((NQk1 xd).2,(NQk0 xd rM rN).2.2,xd.2.2.1,false,(NQk1 xd).1,(NQk0 xd rM rN).1,(NQk0 xd rM rN).2.1))) (qeL1_H1 p rM rN rS n (.inr ((NQk1 xd).2,(NQk0 xd rM rN).2.2,xd.2.2.1,false,(NQk1 xd).1,(NQk0 xd rM rN).1,(NQk0 xd rM rN).2.1))) 1009:=by
 exact runsM_of_x hG hM 400 1007 [.yes,.call [(1000,1000),(1007,1001)] [(1002,1009)] 1002 (.tuple ⟨[]⟩) [(1000,(Pic.bl ((NQk1 xd).1) (sl 1002 (List.length ((NQk1 xd).2)) 5) false)),(1002,⟨[rowsL Sprite.cells Sprite.nil 5 ((NQk1 xd).2)],92,false⟩)],.call [(1001,1000),(1002,1001),(1003,1002),(1004,1003),(1008,1004)] [(1005,1010)] 1005 (.tuple ⟨[]⟩) [(1000,(RPic.bl ((NQk0 xd rM rN).1) (sl 1001 16384 1) (sl 1002 256 1) (sl 1005 (List.length ((NQk0 xd rM rN).2.2)) 4) (sl 1003 61440 1) false)),(1001,iB 16384 rM false),(1002,iB 256 rN false),(1003,⟨[.ints .u8 61440 ((NQk0 xd rM rN).2.1)],5,false⟩),(1005,⟨[rowsL Man.cells Man.nil 4 ((NQk0 xd rM rN).2.2)],119,false⟩)],.segk 0 5 [0,1,6,9,10] [1000,1001,1009] .normal (qeJ2y_T1 rM rN n xd (qeJ2y rM rN n xd)) (qeJ2y_H1 rM rN n xd (qeJ2y rM rN n xd)) 1011,.yes] [(1000,1000),(1001,1001),(1002,1002),(1003,1003),(1004,1004),(1009,1007),(1010,1008)] (J d1 (J (pClock_ok xd.2.2.2.2.1 xd.1 w1d w2d w3d) (J (rClockF_ok xd.2.2.2.2.2.1 rM rN xd.2.2.2.2.2.2 xd.2.1 w4d w5d w6d w7d w8d) (J (qeJ2y_runs rM rN n xd) (J d2 trivial))))) (by kernel_rfl)
theorem qeL1_p2 (p:Pic) (rM:Nat → Int) (rN:Nat → Int) (rS:Nat → Int) (n:Int) (xd:(List Sprite) × (List Man) × Int × Bool × Pic × RPic × (Nat → Int)) (d1:(decide (xd.2.2.1 < n)) = true) (w1d:Pic.ok xd.2.2.2.2.1) (w2d:0 ≤ xd.2.2.2.2.1.line) (w3d:(List.length xd.1) ≤ 8) (w4d:ROk xd.2.2.2.2.2.1) (w5d:∀ j,rng 256 (rM j)) (w6d:∀ j,rng 256 (rN j)) (w7d:∀ c ∈ xd.2.1,ManOk c) (w8d:xd.2.1.length ≤ 8) (d2:(qeJ2y rM rN n xd) = false):RunsM Try.prog 59 (bodyOf Try.f29 [1,0,1,0,0]) 1007 (qeL1_T p rM rN rS n xd) (qeL1_H p rM rN rS n xd) 1009 .normal (qeL1_T p rM rN rS n ((NQk1 xd).2,(NQk0 xd rM rN).2.2,(i64.wrap (xd.2.2.1 + 1)),xd.2.2.2.1,(NQk1 xd).1,(NQk0 xd rM rN).1,(NQk0 xd rM rN).2.1)) (qeL1_H p rM rN rS n ((NQk1 xd).2,(NQk0 xd rM rN).2.2,(i64.wrap (xd.2.2.1 + 1)),xd.2.2.2.1,(NQk1 xd).1,(NQk0 xd rM rN).1,(NQk0 xd rM rN).2.1)) 1009:=by
 exact runsM_of_x hG hM 400 1007 [.yes,.call [(1000,1000),(1007,1001)] [(1002,1009)] 1002 (.tuple ⟨[]⟩) [(1000,(Pic.bl ((NQk1 xd).1) (sl 1002 (List.length ((NQk1 xd).2)) 5) false)),(1002,⟨[rowsL Sprite.cells Sprite.nil 5 ((NQk1 xd).2)],92,false⟩)],.call [(1001,1000),(1002,1001),(1003,1002),(1004,1003),(1008,1004)] [(1005,1010)] 1005 (.tuple ⟨[]⟩) [(1000,(RPic.bl ((NQk0 xd rM rN).1) (sl 1001 16384 1) (sl 1002 256 1) (sl 1005 (List.length ((NQk0 xd rM rN).2.2)) 4) (sl 1003 61440 1) false)),(1001,iB 16384 rM false),(1002,iB 256 rN false),(1003,⟨[.ints .u8 61440 ((NQk0 xd rM rN).2.1)],5,false⟩),(1005,⟨[rowsL Man.cells Man.nil 4 ((NQk0 xd rM rN).2.2)],119,false⟩)],.segk 0 5 [0,1,6,9,10] [1000,1001,1009] .normal (qeJ2y_T1 rM rN n xd (qeJ2y rM rN n xd)) (qeJ2y_H1 rM rN n xd (qeJ2y rM rN n xd)) 1011,.no] [(1000,1000),(1001,1001),(1002,1002),(1003,1003),(1004,1004),(1009,1007),(1010,1008)] (J d1 (J (pClock_ok xd.2.2.2.2.1 xd.1 w1d w2d w3d) (J (rClockF_ok xd.2.2.2.2.2.1 rM rN xd.2.2.2.2.2.2 xd.2.1 w4d w5d w6d w7d w8d) (J (qeJ2y_runs rM rN n xd) (J d2 trivial))))) (by kernel_rfl)
theorem qeL1_p3 (p:Pic) (rM:Nat → Int) (rN:Nat → Int) (rS:Nat → Int) (n:Int) (xd:(List Sprite) × (List Man) × Int × Bool × Pic × RPic × (Nat → Int)) (d1:(decide (xd.2.2.1 < n)) = false):RunsM Try.prog 59 (bodyOf Try.f29 [1,0,1,0,0]) 1007 (qeL1_T p rM rN rS n xd) (qeL1_H p rM rN rS n xd) 1009 (.exit 0) (qeL1_T1 p rM rN rS n (.inl (xd.1,xd.2.1,xd.2.2.1,xd.2.2.2.1,xd.2.2.2.2.1,xd.2.2.2.2.2.1,xd.2.2.2.2.2.2))) (qeL1_H1 p rM rN rS n (.inl (xd.1,xd.2.1,xd.2.2.1,xd.2.2.2.1,xd.2.2.2.2.1,xd.2.2.2.2.2.1,xd.2.2.2.2.2.2))) 1009:=by
 exact runsM_of_x hG hM 400 1007 [.no] [(1000,1000),(1001,1001),(1002,1002),(1003,1003),(1004,1004),(1007,1007),(1008,1008)] (J d1 trivial) (by kernel_rfl)
theorem qeL1_runs (p:Pic) (rM:Nat → Int) (rN:Nat → Int) (rS:Nat → Int) (n:Int) (x_:(List Sprite) × (List Man) × Int × Bool × Pic × RPic × (Nat → Int)) (y_:((List Sprite) × (List Man) × Int × Bool × Pic × RPic × (Nat → Int)) ⊕ ((List Sprite) × (List Man) × Int × Bool × Pic × RPic × (Nat → Int))) (h_:LoopR (qeL1 p rM rN rS n) x_ y_):RunsM Try.prog 59 (.block 0 (.loop (bodyOf Try.f29 [1,0,1,0,0]))) 1007 (qeL1_T p rM rN rS n x_) (qeL1_H p rM rN rS n x_) 1009 (outOf 0 (qeL1_ex y_)) (qeL1_T1 p rM rN rS n y_) (qeL1_H1 p rM rN rS n y_) 1009:=by
 refine block_loopM hG (qeL1 p rM rN rS n) (qeL1_T p rM rN rS n) (qeL1_H p rM rN rS n) qeL1_ex (qeL1_T1 p rM rN rS n) (qeL1_H1 p rM rN rS n) ?_ ?_ ?_ x_ y_ h_
 ·intro s r _ hr;cases r <;> cases hr
 ·intro xd y_ hx
  cases hx with
  | p2 d1 w1d w2d w3d w4d w5d w6d w7d w8d d2 => exact qeL1_p2 p rM rN rS n xd d1 w1d w2d w3d w4d w5d w6d w7d w8d d2
 ·intro xd y_ hx
  cases hx with
  | p1 d1 w1d w2d w3d w4d w5d w6d w7d w8d d2 => exact qeL1_p1 p rM rN rS n xd d1 w1d w2d w3d w4d w5d w6d w7d w8d d2
  | p3 d1 => exact qeL1_p3 p rM rN rS n xd d1
def qeJ3y (r1:(List Sprite) × (List Man) × Int × Bool × Pic × RPic × (Nat → Int)):Bool:=
 if (((pDot r1.2.2.2.2.1 r1.1).1:Int) == r1.2.2.2.2.2.1.Line) = true then
  if (((pDot r1.2.2.2.2.1 r1.1).2:Int) == r1.2.2.2.2.2.1.Dot) = true then
   ((pFrame r1.2.2.2.2.1 r1.1) == r1.2.2.2.2.2.1.Done)
  else
   false
 else
  false
def qeJ3y_T (r1:(List Sprite) × (List Man) × Int × Bool × Pic × RPic × (Nat → Int)):Tm:=[(0,pt 1000),(1,pt 1001),(6,.bool r1.2.2.2.1),(7,.int .i64 ((pDot r1.2.2.2.2.1 r1.1).1)),(8,.int .i64 ((pDot r1.2.2.2.2.1 r1.1).2))]
def qeJ3y_H (r1:(List Sprite) × (List Man) × Int × Bool × Pic × RPic × (Nat → Int)):Heap:=[(1000,(Pic.bl r1.2.2.2.2.1 (sl 1007 (List.length r1.1) 5) false)),(1001,(RPic.bl r1.2.2.2.2.2.1 (sl 1002 16384 1) (sl 1003 256 1) (sl 1008 (List.length r1.2.1) 4) (sl 1004 61440 1) false)),(1007,⟨[rowsL Sprite.cells Sprite.nil 5 r1.1],92,false⟩)]
def qeJ3y_T1 (r1:(List Sprite) × (List Man) × Int × Bool × Pic × RPic × (Nat → Int)) (r_:Bool):Tm:=[(6,.bool r_)]
def qeJ3y_H1 (r1:(List Sprite) × (List Man) × Int × Bool × Pic × RPic × (Nat → Int)) (r_:Bool):Heap:=[(1000,(Pic.bl r1.2.2.2.2.1 (sl 1007 (List.length r1.1) 5) false)),(1001,(RPic.bl r1.2.2.2.2.2.1 (sl 1002 16384 1) (sl 1003 256 1) (sl 1008 (List.length r1.2.1) 4) (sl 1004 61440 1) false)),(1007,⟨[rowsL Sprite.cells Sprite.nil 5 r1.1],92,false⟩)]
theorem qeJ3y_p1 (r1:(List Sprite) × (List Man) × Int × Bool × Pic × RPic × (Nat → Int)) (d1:(((pDot r1.2.2.2.2.1 r1.1).1:Int) == r1.2.2.2.2.2.1.Line) = true) (d2:(((pDot r1.2.2.2.2.1 r1.1).2:Int) == r1.2.2.2.2.2.1.Dot) = true):Runs Try.prog 59 (bodyOf Try.f29 [1,1,1,0]) (qeJ3y_T r1) (qeJ3y_H r1) 1009 .normal (qeJ3y_T1 r1 ((pFrame r1.2.2.2.2.1 r1.1) == r1.2.2.2.2.2.1.Done)) (qeJ3y_H1 r1 ((pFrame r1.2.2.2.2.1 r1.1) == r1.2.2.2.2.2.1.Done)) 1009:=by
 exact runs_of_x hG hM 400 [.yes,.yes,.yes,.yes,.yes,.yes,.yes,.yes,.yes,.callr [(1000,1000),(1007,1001)] [1000,1007] [] 1002 (.int .i64 (pFrame r1.2.2.2.2.1 r1.1)) [],.yes,.yes,.yes,.yes,.yes,.yes] (J d1 (J d1 (J d1 (J d1 (J d1 (J d1 (J d1 (J d2 (J d2 (J (pFrame_ok r1.2.2.2.2.1 r1.1) (J d2 (J d2 (J d2 (J d2 (J d2 (J d2 trivial)))))))))))))))) (by kernel_rfl)
theorem qeJ3y_p2 (r1:(List Sprite) × (List Man) × Int × Bool × Pic × RPic × (Nat → Int)) (d1:(((pDot r1.2.2.2.2.1 r1.1).1:Int) == r1.2.2.2.2.2.1.Line) = true) (d2:(((pDot r1.2.2.2.2.1 r1.1).2:Int) == r1.2.2.2.2.2.1.Dot) = false):Runs Try.prog 59 (bodyOf Try.f29 [1,1,1,0]) (qeJ3y_T r1) (qeJ3y_H r1) 1009 .normal (qeJ3y_T1 r1 false) (qeJ3y_H1 r1 false) 1009:=by
 exact runs_of_x hG hM 400 [.yes,.yes,.yes,.yes,.yes,.yes,.yes,.no,.no,.no,.no,.no,.no,.no,.no] (J d1 (J d1 (J d1 (J d1 (J d1 (J d1 (J d1 (J d2 (J d2 (J d2 (J d2 (J d2 (J d2 (J d2 (J d2 trivial))))))))))))))) (by kernel_rfl)
theorem qeJ3y_p3 (r1:(List Sprite) × (List Man) × Int × Bool × Pic × RPic × (Nat → Int)) (d1:(((pDot r1.2.2.2.2.1 r1.1).1:Int) == r1.2.2.2.2.2.1.Line) = false):Runs Try.prog 59 (bodyOf Try.f29 [1,1,1,0]) (qeJ3y_T r1) (qeJ3y_H r1) 1009 .normal (qeJ3y_T1 r1 false) (qeJ3y_H1 r1 false) 1009:=by
 exact runs_of_x hG hM 400 [.no,.no,.no,.no,.no,.no,.no,.no,.no,.no,.no,.no,.no,.no,.no] (J d1 (J d1 (J d1 (J d1 (J d1 (J d1 (J d1 (J T0 (J T0 (J T0 (J T0 (J T0 (J T0 (J T0 (J T0 trivial))))))))))))))) (by kernel_rfl)
theorem qeJ3y_runs (r1:(List Sprite) × (List Man) × Int × Bool × Pic × RPic × (Nat → Int)):Runs Try.prog 59 (bodyOf Try.f29 [1,1,1,0]) (qeJ3y_T r1) (qeJ3y_H r1) 1009 .normal (qeJ3y_T1 r1 (qeJ3y r1)) (qeJ3y_H1 r1 (qeJ3y r1)) 1009:=by
 rcases bt (((pDot r1.2.2.2.2.1 r1.1).1:Int) == r1.2.2.2.2.2.1.Line) with d1 | d1
 ·
  rcases bt (((pDot r1.2.2.2.2.1 r1.1).2:Int) == r1.2.2.2.2.2.1.Dot) with d2 | d2
  ·
   rw [show qeJ3y r1 = ((pFrame r1.2.2.2.2.1 r1.1) == r1.2.2.2.2.2.1.Done) from by unfold qeJ3y;rw [if_pos d1,if_pos d2]]
   exact qeJ3y_p1 r1 d1 d2
  ·
   rw [show qeJ3y r1 = false from by unfold qeJ3y;rw [if_pos d1,if_neg (nt d2)]]
   exact qeJ3y_p2 r1 d1 d2
 ·
  rw [show qeJ3y r1 = false from by unfold qeJ3y;rw [if_neg (nt d1)]]
  exact qeJ3y_p3 r1 d1
abbrev NQk2 (r1:(List Sprite) × (List Man) × Int × Bool × Pic × RPic × (Nat → Int)):=(r1.2.2.2.2.1,r1.2.2.2.2.2.1,r1.2.2.2.2.2.2,r1.1,r1.2.1,(qeJ3y r1))
theorem wStep_p1 (p:Pic) (r:RPic) (rM:Nat → Int) (rN:Nat → Int) (rS:Nat → Int) (n:Int) (pC:List Sprite) (rC:List Man) (r1:(List Sprite) × (List Man) × Int × Bool × Pic × RPic × (Nat → Int)) (l1:LoopR (qeL1 p rM rN rS n) (pC,rC,0,false,p,r,rS) (.inl r1)):FnSpec Try.prog 29 1007 [pt 1000,pt 1001,.int .i64 n] [(1000,(Pic.bl p (sl 1005 (List.length pC) 5) false)),(1001,(RPic.bl r (sl 1002 16384 1) (sl 1003 256 1) (sl 1006 (List.length rC) 4) (sl 1004 61440 1) false)),(1002,iB 16384 rM false),(1003,iB 256 rN false),(1004,iB 61440 rS false),(1005,sB pC false),(1006,mB rC false)] (.bool ((NQk2 r1).2.2.2.2.2)) [(1000,(Pic.bl ((NQk2 r1).1) (sl 1007 (List.length ((NQk2 r1).2.2.2.1)) 5) false)),(1001,(RPic.bl ((NQk2 r1).2.1) (sl 1002 16384 1) (sl 1003 256 1) (sl 1008 (List.length ((NQk2 r1).2.2.2.2.1)) 4) (sl 1004 61440 1) false)),(1002,iB 16384 rM false),(1003,iB 256 rN false),(1004,⟨[.ints .u8 61440 ((NQk2 r1).2.2.1)],5,false⟩),(1007,⟨[rowsL Sprite.cells Sprite.nil 5 ((NQk2 r1).2.2.2.1)],92,false⟩),(1008,⟨[rowsL Man.cells Man.nil 4 ((NQk2 r1).2.2.2.2.1)],119,false⟩)]:=by
 exact fn_ren (v:=.bool (qeJ3y r1)) (H1:=[(1000,(Pic.bl r1.2.2.2.2.1 (sl 1007 (List.length r1.1) 5) false)),(1001,(RPic.bl r1.2.2.2.2.2.1 (sl 1002 16384 1) (sl 1003 256 1) (sl 1008 (List.length r1.2.1) 4) (sl 1004 61440 1) false)),(1002,iB 16384 rM false),(1003,iB 256 rN false),(1004,⟨[.ints .u8 61440 r1.2.2.2.2.2.2],5,false⟩),(1007,⟨[rowsL Sprite.cells Sprite.nil 5 r1.1],92,false⟩),(1008,⟨[rowsL Man.cells Man.nil 4 r1.2.1],119,false⟩)]) (fn_of_x hG hM Try.func29 (by kernel_rfl) (by kernel_rfl) 400 [.segk 1 0 [0,1,6,9,10] [1000,1001,1002,1003,1004,1005,1006] .normal (qeL1_T1 p rM rN rS n (.inl r1)) (qeL1_H1 p rM rN rS n (.inl r1)) 1009,.callr [(1000,1000),(1007,1001)] [1000,1007] [] 1002 (.tuple ⟨[.int .i64 ((pDot r1.2.2.2.2.1 r1.1).1),.int .i64 ((pDot r1.2.2.2.2.1 r1.1).2)]⟩) [],.segk 0 9 [0,1,6,7,8] [1000,1001,1007] .normal (qeJ3y_T1 r1 (qeJ3y r1)) (qeJ3y_H1 r1 (qeJ3y r1)) 1009] (J (runs_of_pre hG (qeL1_runs p rM rN rS n (pC,rC,0,false,p,r,rS) (.inl r1) l1) [(1000,1000),(1001,1001),(1002,1002),(1003,1003),(1004,1004),(1005,1007),(1006,1008)] (T:=[(0,pt 1000),(1,pt 1001),(6,.bool false),(9,.int .i64 n),(10,.int .i64 0)]) (H:=[(1000,(Pic.bl p (sl 1005 (List.length pC) 5) false)),(1001,(RPic.bl r (sl 1002 16384 1) (sl 1003 256 1) (sl 1006 (List.length rC) 4) (sl 1004 61440 1) false)),(1002,iB 16384 rM false),(1003,iB 256 rN false),(1004,iB 61440 rS false),(1005,sB pC false),(1006,mB rC false)]) (by kernel_rfl)) (J (pDot_ok r1.2.2.2.2.1 r1.1) (J (qeJ3y_runs r1) trivial))) (by kernel_rfl)) [(1000,1000),(1001,1001),(1002,1002),(1003,1003),(1004,1004),(1007,1007),(1008,1008)] 1009 (by kernel_rfl)
end Go.Proofs.Ytgnhhnmpeklciaa
namespace Go.Proofs.Ytgnhhnmpeklciaa
open Go VX
open Go.IntKind (i64 u8 u16)
abbrev St:=Pic × RPic × (Nat → Int) × List Sprite × List Man
def BothS (M N:Nat → Int) (z:St):Prop:=Both z.1 z.2.2.2.1 z.2.1 M N z.2.2.1 z.2.2.2.2
def oneS (M N:Nat → Int) (z:St):St:=
 ((pClock z.1 z.2.2.2.1).1,(rClockF z.2.1 M N z.2.2.1 z.2.2.2.2).1,(rClockF z.2.1 M N z.2.2.1 z.2.2.2.2).2.1,(pClock z.1 z.2.2.2.1).2,(rClockF z.2.1 M N z.2.2.1 z.2.2.2.2).2.2)
def runS (M N:Nat → Int):Nat → St → St
 | 0,z => z
 | n + 1,z => runS M N n (oneS M N z)
def stepF (p:Pic) (r:RPic) (rM:Nat → Int) (rN:Nat → Int) (rS:Nat → Int) (n:Int) (pC:List Sprite) (rC:List Man):St:=runS rM rN n.toNat (p,r,rS,pC,rC)
theorem one_both {M N:Nat → Int} {z:St} (b:BothS M N z):BothS M N (oneS M N z):=by
 have:=clock_same b
 rw [← clock_eq] at this
 exact this
theorem run_both {M N:Nat → Int}:∀ (n:Nat) {z:St},BothS M N z → BothS M N (runS M N n z)
 | 0,_,b => b
 | n + 1,_,b => run_both n (one_both b)
theorem hi_bit {c:Int} (w:rng 256 c):rBit c 128 = decide (c ≥ 128):=by
 have w0:=w.1
 have w1:c < 256:=w.2
 unfold rBit
 rw [td_e 128 w0,w64 (by omega) (by omega),tm_e 2 (by omega)]
 by_cases k:c ≥ 128
 ·rw [decide_eq_true k,beq_iff_eq];omega
 ·rw [decide_eq_false k,beq_eq_false_iff_ne];omega
theorem flag_hi (b h m:Bool):((bAnd .u8 (flagsOf b h m) 128:Int) != 0) = b:=by cases b <;> cases h <;> cases m <;> decide
theorem nmi_same {p:Pic} {r:RPic} {M N:Nat → Int} (h:Same p r M N) (L:List Sprite):pNMI p L = if r.Blank = true then decide ((r.Control:Int) ≥ 128) else false:=by
 have f0:p.flags = flagsOf r.Blank r.Hit r.Many:=h.flags
 unfold pNMI
 rw [f0,flag_hi,mbit h.ok.control (k:=128) (by decide),h.control,hi_bit h.ok.control]
theorem step_loop (p0:Pic) (M N S0:Nat → Int) (n:Int) (hn:n < 1000000000):∀ (m:Nat) (z:St) (i:Int),BothS M N z → 0 ≤ i → i + m = n →
  LoopR (qeL1 p0 M N S0 n) (z.2.2.2.1,z.2.2.2.2,i,false,z.1,z.2.1,z.2.2.1) (.inl ((runS M N m z).2.2.2.1,(runS M N m z).2.2.2.2,n,false,(runS M N m z).1,(runS M N m z).2.1,(runS M N m z).2.2.1))
 | 0,z,i,b,h0,hi => by
  have:i = n:=by omega
  subst this
  exact .last (.p3 (decide_eq_false (by simp)))
 | m + 1,z,i,b,h0,hi => by
  have b1:=one_both b
  obtain ⟨k1,k2,k3⟩:=b.rok
  have hw:i64.wrap (i + 1) = i + 1:=w64 (by omega) (by omega)
  have en:=nmi_same b1.same (oneS M N z).2.2.2.1
  have st:=qeL1.p2 (p:=p0) (rM:=M) (rN:=N) (rS:=S0) (n:=n) (xd:=(z.2.2.2.1,z.2.2.2.2,i,false,z.1,z.2.1,z.2.2.1)) (decide_eq_true (by show i < n;omega)) b.same.ok b.lb.1 b.len k1 b.wM b.wN k2 k3 (by
   unfold qeJ2y
   show (if (oneS M N z).2.1.Blank = true then !(pNMI (oneS M N z).1 (oneS M N z).2.2.2.1 == decide ((oneS M N z).2.1.Control ≥ 128)) else !(pNMI (oneS M N z).1 (oneS M N z).2.2.2.1 == false)) = false
   rw [en]
   cases (oneS M N z).2.1.Blank <;> simp)
  simp only [hw] at st
  exact .more st (step_loop p0 M N S0 n hn m (oneS M N z) (i + 1) b1 (by omega) (by omega))
theorem stepF_ok (p:Pic) (r:RPic) (rM:Nat → Int) (rN:Nat → Int) (rS:Nat → Int) (n:Int) (pC:List Sprite) (rC:List Man) (b:Both p pC r rM rN rS rC) (hn:0 ≤ n ∧ n < 1000000000):FnSpec Try.prog 29 1007 [pt 1000,pt 1001,.int .i64 n] [(1000,(Pic.bl p (sl 1005 (List.length pC) 5) false)),(1001,(RPic.bl r (sl 1002 16384 1) (sl 1003 256 1) (sl 1006 (List.length rC) 4) (sl 1004 61440 1) false)),(1002,iB 16384 rM false),(1003,iB 256 rN false),(1004,iB 61440 rS false),(1005,sB pC false),(1006,mB rC false)] (.bool true) [(1000,(Pic.bl (stepF p r rM rN rS n pC rC).1 (sl 1007 (List.length (stepF p r rM rN rS n pC rC).2.2.2.1) 5) false)),(1001,(RPic.bl (stepF p r rM rN rS n pC rC).2.1 (sl 1002 16384 1) (sl 1003 256 1) (sl 1008 (List.length (stepF p r rM rN rS n pC rC).2.2.2.2) 4) (sl 1004 61440 1) false)),(1002,iB 16384 rM false),(1003,iB 256 rN false),(1004,⟨[.ints .u8 61440 (stepF p r rM rN rS n pC rC).2.2.1],5,false⟩),(1007,⟨[rowsL Sprite.cells Sprite.nil 5 (stepF p r rM rN rS n pC rC).2.2.2.1],92,false⟩),(1008,⟨[rowsL Man.cells Man.nil 4 (stepF p r rM rN rS n pC rC).2.2.2.2],119,false⟩)]:=by
 have lp:=step_loop p rM rN rS n hn.2 n.toNat (p,r,rS,pC,rC) 0 b (by decide) (by omega)
 have b2:BothS rM rN (stepF p r rM rN rS n pC rC):=run_both n.toNat (z:=(p,r,rS,pC,rC)) b
 have P:=wStep_p1 p r rM rN rS n pC rC _ lp
 have e:qeJ3y ((stepF p r rM rN rS n pC rC).2.2.2.1,(stepF p r rM rN rS n pC rC).2.2.2.2,n,false,(stepF p r rM rN rS n pC rC).1,(stepF p r rM rN rS n pC rC).2.1,(stepF p r rM rN rS n pC rC).2.2.1) = true:=by
  unfold qeJ3y pDot pFrame
  simp only [b2.line,b2.dot,b2.frames,beq_self_eq_true,if_true]
 show FnSpec Try.prog 29 1007 [pt 1000,pt 1001,.int .i64 n] [(1000,(Pic.bl p (sl 1005 (List.length pC) 5) false)),(1001,(RPic.bl r (sl 1002 16384 1) (sl 1003 256 1) (sl 1006 (List.length rC) 4) (sl 1004 61440 1) false)),(1002,iB 16384 rM false),(1003,iB 256 rN false),(1004,iB 61440 rS false),(1005,sB pC false),(1006,mB rC false)] (.bool true) [(1000,(Pic.bl (stepF p r rM rN rS n pC rC).1 (sl 1007 (List.length (stepF p r rM rN rS n pC rC).2.2.2.1) 5) false)),(1001,(RPic.bl (stepF p r rM rN rS n pC rC).2.1 (sl 1002 16384 1) (sl 1003 256 1) (sl 1008 (List.length (stepF p r rM rN rS n pC rC).2.2.2.2) 4) (sl 1004 61440 1) false)),(1002,iB 16384 rM false),(1003,iB 256 rN false),(1004,⟨[.ints .u8 61440 (stepF p r rM rN rS n pC rC).2.2.1],5,false⟩),(1007,⟨[rowsL Sprite.cells Sprite.nil 5 (stepF p r rM rN rS n pC rC).2.2.2.1],92,false⟩),(1008,⟨[rowsL Man.cells Man.nil 4 (stepF p r rM rN rS n pC rC).2.2.2.2],119,false⟩)]
 rw [← e]
 exact P
end Go.Proofs.Ytgnhhnmpeklciaa
namespace Go.Proofs.Ytgnhhnmpeklciaa
open Go VX
theorem wAgain_p1 (N_p:Nat) (d_p:Nat) (p:Nat → Int) (i:Int) (w_p:∀ j,rng 256 (p j)) (c1:((((N_p:Nat):Int):Int) == 0) = true):FnSpec Try.prog 57 1001 [sd 1000 d_p N_p,.int .i64 i] [(1000,gB d_p N_p p)] (.int .u8 0) []:=by
 exact fn_of_x hG hM Try.func57 (by kernel_rfl) (by kernel_rfl) 400 [.yes] (J c1 trivial) (by kernel_rfl)
theorem wAgain_p2 (N_p:Nat) (d_p:Nat) (p:Nat → Int) (i:Int) (w_p:∀ j,rng 256 (p j)) (c1:((((N_p:Nat):Int):Int) == 0) = false) (w1c:0 ≤ (Int.tmod i ((N_p:Nat):Int)) ∧ (Int.tmod i ((N_p:Nat):Int)) < ((N_p:Nat):Int)):FnSpec Try.prog 57 1001 [sd 1000 d_p N_p,.int .i64 i] [(1000,gB d_p N_p p)] (.int .u8 (p (Int.toNat (Int.tmod i ((N_p:Nat):Int))))) []:=by
 have o1:((N_p:Nat):Int) ≠ 0:=by first | decide | omega | (simp only [decide_eq_true_eq,decide_eq_false_iff_not,rng,IntKind.wrap_i64,IntKind.wrap_u8,IntKind.wrap_u16] at *;omega)
 exact fn_of_x hG hM Try.func57 (by kernel_rfl) (by kernel_rfl) 400 [.no,.sym] (J c1 (J o1 (J w1c (J (Eq.refl d_p) (J (lt_nat w1c) trivial))))) (by kernel_rfl)
end Go.Proofs.Ytgnhhnmpeklciaa
namespace Go.Proofs.Ytgnhhnmpeklciaa
open Go VX
open Go.IntKind (i64 u8 u16)
theorem wPut_p1 (a:Int) (b:Int) (p:Pic) (r:RPic) (rM:Nat → Int) (rN:Nat → Int) (rS:Nat → Int) (pC:List Sprite) (rC:List Man) (w1c:0 ≤ a):FnSpec Try.prog 56 1009 [.int .i64 a,.int .u8 b,pt 1007,pt 1008] [(1000,(Pic.bl p (sl 1005 (List.length pC) 5) false)),(1001,(RPic.bl r (sl 1002 16384 1) (sl 1003 256 1) (sl 1006 (List.length rC) 4) (sl 1004 61440 1) false)),(1002,iB 16384 rM false),(1003,iB 256 rN false),(1004,iB 61440 rS false),(1005,sB pC false),(1006,mB rC false),(1007,⟨[.one (pt 1000)],26,true⟩),(1008,⟨[.one (pt 1001)],28,true⟩)] (.tuple ⟨[]⟩) [(1000,(Pic.bl (((pPoke p pC (u16.wrap a) b),(rPoke r rM rN rS rC a (i64.wrap b))).1) (sl 1005 (List.length pC) 5) false)),(1001,(RPic.bl r (sl 1002 16384 1) (sl 1003 256 1) (sl 1006 (List.length rC) 4) (sl 1004 61440 1) false)),(1002,⟨[.ints .u8 16384 (((pPoke p pC (u16.wrap a) b),(rPoke r rM rN rS rC a (i64.wrap b))).2)],5,false⟩),(1003,iB 256 rN false),(1004,iB 61440 rS false),(1005,sB pC false),(1006,mB rC false)]:=by
 exact fn_of_x hG hM Try.func56 (by kernel_rfl) (by kernel_rfl) 400 [.call [(1000,1000),(1005,1001)] [] 1002 (.tuple ⟨[]⟩) [(1000,(Pic.bl (pPoke p pC (u16.wrap a) b) (sl 1001 (List.length pC) 5) false)),(1001,sB pC false)],.call [(1001,1000),(1002,1001),(1003,1002),(1004,1003),(1006,1004)] [] 1005 (.tuple ⟨[]⟩) [(1000,(RPic.bl r (sl 1001 16384 1) (sl 1002 256 1) (sl 1004 (List.length rC) 4) (sl 1003 61440 1) false)),(1001,⟨[.ints .u8 16384 (rPoke r rM rN rS rC a (i64.wrap b))],5,false⟩),(1002,iB 256 rN false),(1003,iB 61440 rS false),(1004,mB rC false)]] (J (pPoke_ok p pC (u16.wrap a) b) (J (rPoke_ok r rM rN rS rC a (i64.wrap b) w1c) trivial)) (by kernel_rfl)
end Go.Proofs.Ytgnhhnmpeklciaa
namespace Go.Proofs.Ytgnhhnmpeklciaa
open Go VX
open Go.IntKind (i64 u8 u16)
def againF (N_p:Nat) (d_p:Nat) (p:Nat → Int) (i:Int):Int:=if N_p = 0 then 0 else p (i % (N_p:Int)).toNat
theorem againF_ok (N_p:Nat) (d_p:Nat) (p:Nat → Int) (i:Int) (w_p:∀ j,rng 256 (p j)) (hi:0 ≤ i):FnSpec Try.prog 57 1001 [sd 1000 d_p N_p,.int .i64 i] [(1000,gB d_p N_p p)] (.int .u8 (againF N_p d_p p i)) []:=by
 unfold againF
 by_cases c:N_p = 0
 ·rw [if_pos c]
  exact wAgain_p1 N_p d_p p i w_p (by rw [c];rfl)
 ·rw [if_neg c]
  have e:Int.tmod i ((N_p:Nat):Int) = i % (N_p:Int):=tm_e _ hi
  have P:=wAgain_p2 N_p d_p p i w_p (beq_eq_false_iff_ne.2 (by omega)) (by rw [e];exact ⟨Int.emod_nonneg _ (by omega),Int.emod_lt_of_pos _ (by omega)⟩)
  rw [e] at P
  exact P
def putF (a:Int) (b:Int) (p:Pic) (r:RPic) (rM:Nat → Int) (rN:Nat → Int) (rS:Nat → Int) (pC:List Sprite) (rC:List Man):Pic × (Nat → Int):=(pPoke p pC (u16.wrap a) b,rPoke r rM rN rS rC a (i64.wrap b))
theorem putF_ok (a:Int) (b:Int) (p:Pic) (r:RPic) (rM:Nat → Int) (rN:Nat → Int) (rS:Nat → Int) (pC:List Sprite) (rC:List Man) (ha:0 ≤ a):FnSpec Try.prog 56 1009 [.int .i64 a,.int .u8 b,pt 1007,pt 1008] [(1000,(Pic.bl p (sl 1005 (List.length pC) 5) false)),(1001,(RPic.bl r (sl 1002 16384 1) (sl 1003 256 1) (sl 1006 (List.length rC) 4) (sl 1004 61440 1) false)),(1002,iB 16384 rM false),(1003,iB 256 rN false),(1004,iB 61440 rS false),(1005,sB pC false),(1006,mB rC false),(1007,⟨[.one (pt 1000)],26,true⟩),(1008,⟨[.one (pt 1001)],28,true⟩)] (.tuple ⟨[]⟩) [(1000,(Pic.bl ((putF a b p r rM rN rS pC rC).1) (sl 1005 (List.length pC) 5) false)),(1001,(RPic.bl r (sl 1002 16384 1) (sl 1003 256 1) (sl 1006 (List.length rC) 4) (sl 1004 61440 1) false)),(1002,⟨[.ints .u8 16384 ((putF a b p r rM rN rS pC rC).2)],5,false⟩),(1003,iB 256 rN false),(1004,iB 61440 rS false),(1005,sB pC false),(1006,mB rC false)]:=wPut_p1 a b p r rM rN rS pC rC ha
end Go.Proofs.Ytgnhhnmpeklciaa
namespace Go.Proofs.Ytgnhhnmpeklciaa
open Go VX
open Go.IntKind (i64 u8 u16)
inductive qlL1 (p:Pic) (rM:Nat → Int) (rN:Nat → Int) (rS:Nat → Int) (nTz:Nat) (dTz:Nat) (sTz:Nat → Int) (nNz:Nat) (dNz:Nat) (sNz:Nat → Int) (nKz:Nat) (dKz:Nat) (sKz:Nat → Int) (nMz:Nat) (dMz:Nat) (sMz:Nat → Int) (sUz:Bool) (pC:List Sprite) (rC:List Man) (xd:Int × Pic × RPic × (Nat → Int)):(Int × Pic × RPic × (Nat → Int)) ⊕ (Int × Pic × RPic × (Nat → Int)) → Prop
 | p1 (d1:(decide (xd.1 < 8192)) = true) (w1d:∀ j,rng 256 (sTz j)) (w2d:0 ≤ xd.1):qlL1 p rM rN rS nTz dTz sTz nNz dNz sNz nKz dKz sKz nMz dMz sMz sUz pC rC xd (.inl ((i64.wrap (xd.1 + 1)),(putF xd.1 (againF nTz dTz sTz xd.1) xd.2.1 xd.2.2.1 xd.2.2.2 rN rS pC rC).1,xd.2.2.1,(putF xd.1 (againF nTz dTz sTz xd.1) xd.2.1 xd.2.2.1 xd.2.2.2 rN rS pC rC).2))
 | p2 (d1:(decide (xd.1 < 8192)) = false):qlL1 p rM rN rS nTz dTz sTz nNz dNz sNz nKz dKz sKz nMz dMz sMz sUz pC rC xd (.inr (xd.1,xd.2.1,xd.2.2.1,xd.2.2.2))
def qlL1_T (p:Pic) (rM:Nat → Int) (rN:Nat → Int) (rS:Nat → Int) (nTz:Nat) (dTz:Nat) (sTz:Nat → Int) (nNz:Nat) (dNz:Nat) (sNz:Nat → Int) (nKz:Nat) (dKz:Nat) (sKz:Nat → Int) (nMz:Nat) (dMz:Nat) (sMz:Nat → Int) (sUz:Bool) (pC:List Sprite) (rC:List Man) (xd:Int × Pic × RPic × (Nat → Int)):Tm:=[(3,pt 1011),(4,pt 1012),(5,pt 1013),(6,.func (.func 56) ⟨[]⟩ ⟨[pt 1011,pt 1012]⟩),(21,.int .i64 xd.1)]
def qlL1_H (p:Pic) (rM:Nat → Int) (rN:Nat → Int) (rS:Nat → Int) (nTz:Nat) (dTz:Nat) (sTz:Nat → Int) (nNz:Nat) (dNz:Nat) (sNz:Nat → Int) (nKz:Nat) (dKz:Nat) (sKz:Nat → Int) (nMz:Nat) (dMz:Nat) (sMz:Nat → Int) (sUz:Bool) (pC:List Sprite) (rC:List Man) (xd:Int × Pic × RPic × (Nat → Int)):Heap:=[(1000,(Pic.bl xd.2.1 (sl 1009 (List.length pC) 5) false)),(1001,(RPic.bl xd.2.2.1 (sl 1002 16384 1) (sl 1003 256 1) (sl 1010 (List.length rC) 4) (sl 1004 61440 1) false)),(1002,⟨[.ints .u8 16384 xd.2.2.2],5,false⟩),(1003,iB 256 rN false),(1004,iB 61440 rS false),(1005,gB dTz nTz sTz),(1009,sB pC false),(1010,mB rC false),(1011,⟨[.one (pt 1000)],26,false⟩),(1012,⟨[.one (pt 1001)],28,false⟩),(1013,⟨[.one (sd 1005 dTz nTz),.one (sd 1006 dNz nNz),.one (sd 1007 dKz nKz),.one (sd 1008 dMz nMz),.one (.bool sUz)],45,false⟩)]
def qlL1_T1 (p:Pic) (rM:Nat → Int) (rN:Nat → Int) (rS:Nat → Int) (nTz:Nat) (dTz:Nat) (sTz:Nat → Int) (nNz:Nat) (dNz:Nat) (sNz:Nat → Int) (nKz:Nat) (dKz:Nat) (sKz:Nat → Int) (nMz:Nat) (dMz:Nat) (sMz:Nat → Int) (sUz:Bool) (pC:List Sprite) (rC:List Man) (y_:Int × Pic × RPic × (Nat → Int)):Tm:=qlL1_T p rM rN rS nTz dTz sTz nNz dNz sNz nKz dKz sKz nMz dMz sMz sUz pC rC y_
def qlL1_H1 (p:Pic) (rM:Nat → Int) (rN:Nat → Int) (rS:Nat → Int) (nTz:Nat) (dTz:Nat) (sTz:Nat → Int) (nNz:Nat) (dNz:Nat) (sNz:Nat → Int) (nKz:Nat) (dKz:Nat) (sKz:Nat → Int) (nMz:Nat) (dMz:Nat) (sMz:Nat → Int) (sUz:Bool) (pC:List Sprite) (rC:List Man) (y_:Int × Pic × RPic × (Nat → Int)):Heap:=qlL1_H p rM rN rS nTz dTz sTz nNz dNz sNz nKz dKz sKz nMz dMz sMz sUz pC rC y_
def qlL1_ex (_:Int × Pic × RPic × (Nat → Int)):Ex:=.exit 0
theorem qlL1_p1 (p:Pic) (rM:Nat → Int) (rN:Nat → Int) (rS:Nat → Int) (nTz:Nat) (dTz:Nat) (sTz:Nat → Int) (nNz:Nat) (dNz:Nat) (sNz:Nat → Int) (nKz:Nat) (dKz:Nat) (sKz:Nat → Int) (nMz:Nat) (dMz:Nat) (sMz:Nat → Int) (sUz:Bool) (pC:List Sprite) (rC:List Man) (xd:Int × Pic × RPic × (Nat → Int)) (d1:(decide (xd.1 < 8192)) = true) (w1d:∀ j,rng 256 (sTz j)) (w2d:0 ≤ xd.1):Runs Try.prog 73 (bodyOf Try.f28 [1,1,1,1,0,1,0,0]) (qlL1_T p rM rN rS nTz dTz sTz nNz dNz sNz nKz dKz sKz nMz dMz sMz sUz pC rC xd) (qlL1_H p rM rN rS nTz dTz sTz nNz dNz sNz nKz dKz sKz nMz dMz sMz sUz pC rC xd) 1014 .normal (qlL1_T p rM rN rS nTz dTz sTz nNz dNz sNz nKz dKz sKz nMz dMz sMz sUz pC rC ((i64.wrap (xd.1 + 1)),(putF xd.1 (againF nTz dTz sTz xd.1) xd.2.1 xd.2.2.1 xd.2.2.2 rN rS pC rC).1,xd.2.2.1,(putF xd.1 (againF nTz dTz sTz xd.1) xd.2.1 xd.2.2.1 xd.2.2.2 rN rS pC rC).2)) (qlL1_H p rM rN rS nTz dTz sTz nNz dNz sNz nKz dKz sKz nMz dMz sMz sUz pC rC ((i64.wrap (xd.1 + 1)),(putF xd.1 (againF nTz dTz sTz xd.1) xd.2.1 xd.2.2.1 xd.2.2.2 rN rS pC rC).1,xd.2.2.1,(putF xd.1 (againF nTz dTz sTz xd.1) xd.2.1 xd.2.2.1 xd.2.2.2 rN rS pC rC).2)) 1014:=by
 exact runs_of_x hG hM 400 [.yes,.call [(1005,1000)] [] 1001 (.int .u8 (againF nTz dTz sTz xd.1)) [],.callr [(1000,1000),(1001,1001),(1002,1002),(1003,1003),(1004,1004),(1009,1005),(1010,1006),(1011,1007),(1012,1008)] [1011,1012] [] 1009 (.tuple ⟨[]⟩) [(1000,(Pic.bl ((putF xd.1 (againF nTz dTz sTz xd.1) xd.2.1 xd.2.2.1 xd.2.2.2 rN rS pC rC).1) (sl 1005 (List.length pC) 5) false)),(1001,(RPic.bl xd.2.2.1 (sl 1002 16384 1) (sl 1003 256 1) (sl 1006 (List.length rC) 4) (sl 1004 61440 1) false)),(1002,⟨[.ints .u8 16384 ((putF xd.1 (againF nTz dTz sTz xd.1) xd.2.1 xd.2.2.1 xd.2.2.2 rN rS pC rC).2)],5,false⟩),(1003,iB 256 rN false),(1004,iB 61440 rS false),(1005,sB pC false),(1006,mB rC false)]] (J d1 (J (againF_ok nTz dTz sTz xd.1 w1d w2d) (J (putF_ok xd.1 (againF nTz dTz sTz xd.1) xd.2.1 xd.2.2.1 xd.2.2.2 rN rS pC rC w2d) trivial))) (by kernel_rfl)
theorem qlL1_p2 (p:Pic) (rM:Nat → Int) (rN:Nat → Int) (rS:Nat → Int) (nTz:Nat) (dTz:Nat) (sTz:Nat → Int) (nNz:Nat) (dNz:Nat) (sNz:Nat → Int) (nKz:Nat) (dKz:Nat) (sKz:Nat → Int) (nMz:Nat) (dMz:Nat) (sMz:Nat → Int) (sUz:Bool) (pC:List Sprite) (rC:List Man) (xd:Int × Pic × RPic × (Nat → Int)) (d1:(decide (xd.1 < 8192)) = false):Runs Try.prog 73 (bodyOf Try.f28 [1,1,1,1,0,1,0,0]) (qlL1_T p rM rN rS nTz dTz sTz nNz dNz sNz nKz dKz sKz nMz dMz sMz sUz pC rC xd) (qlL1_H p rM rN rS nTz dTz sTz nNz dNz sNz nKz dKz sKz nMz dMz sMz sUz pC rC xd) 1014 (.exit 0) (qlL1_T1 p rM rN rS nTz dTz sTz nNz dNz sNz nKz dKz sKz nMz dMz sMz sUz pC rC (xd.1,xd.2.1,xd.2.2.1,xd.2.2.2)) (qlL1_H1 p rM rN rS nTz dTz sTz nNz dNz sNz nKz dKz sKz nMz dMz sMz sUz pC rC (xd.1,xd.2.1,xd.2.2.1,xd.2.2.2)) 1014:=by
 exact runs_of_x hG hM 400 [.no] (J d1 trivial) (by kernel_rfl)
theorem qlL1_runs (p:Pic) (rM:Nat → Int) (rN:Nat → Int) (rS:Nat → Int) (nTz:Nat) (dTz:Nat) (sTz:Nat → Int) (nNz:Nat) (dNz:Nat) (sNz:Nat → Int) (nKz:Nat) (dKz:Nat) (sKz:Nat → Int) (nMz:Nat) (dMz:Nat) (sMz:Nat → Int) (sUz:Bool) (pC:List Sprite) (rC:List Man) (x_:Int × Pic × RPic × (Nat → Int)) (y_:Int × Pic × RPic × (Nat → Int)) (h_:LoopR (qlL1 p rM rN rS nTz dTz sTz nNz dNz sNz nKz dKz sKz nMz dMz sMz sUz pC rC) x_ y_):Runs Try.prog 73 (.block 0 (.loop (bodyOf Try.f28 [1,1,1,1,0,1,0,0]))) (qlL1_T p rM rN rS nTz dTz sTz nNz dNz sNz nKz dKz sKz nMz dMz sMz sUz pC rC x_) (qlL1_H p rM rN rS nTz dTz sTz nNz dNz sNz nKz dKz sKz nMz dMz sMz sUz pC rC x_) 1014 (outOf 0 (qlL1_ex y_)) (qlL1_T1 p rM rN rS nTz dTz sTz nNz dNz sNz nKz dKz sKz nMz dMz sMz sUz pC rC y_) (qlL1_H1 p rM rN rS nTz dTz sTz nNz dNz sNz nKz dKz sKz nMz dMz sMz sUz pC rC y_) 1014:=by
 refine block_loop (qlL1 p rM rN rS nTz dTz sTz nNz dNz sNz nKz dKz sKz nMz dMz sMz sUz pC rC) (qlL1_T p rM rN rS nTz dTz sTz nNz dNz sNz nKz dKz sKz nMz dMz sMz sUz pC rC) (qlL1_H p rM rN rS nTz dTz sTz nNz dNz sNz nKz dKz sKz nMz dMz sMz sUz pC rC) qlL1_ex (qlL1_T1 p rM rN rS nTz dTz sTz nNz dNz sNz nKz dKz sKz nMz dMz sMz sUz pC rC) (qlL1_H1 p rM rN rS nTz dTz sTz nNz dNz sNz nKz dKz sKz nMz dMz sMz sUz pC rC) ?_ ?_ ?_ x_ y_ h_
 ·intro r hr;cases hr
 ·intro xd y_ hx
  cases hx with
  | p1 d1 w1d w2d => exact qlL1_p1 p rM rN rS nTz dTz sTz nNz dNz sNz nKz dKz sKz nMz dMz sMz sUz pC rC xd d1 w1d w2d
 ·intro xd y_ hx
  cases hx with
  | p2 d1 => exact qlL1_p2 p rM rN rS nTz dTz sTz nNz dNz sNz nKz dKz sKz nMz dMz sMz sUz pC rC xd d1
inductive qlL2 (p:Pic) (r:RPic) (rM:Nat → Int) (rN:Nat → Int) (rS:Nat → Int) (nTz:Nat) (dTz:Nat) (sTz:Nat → Int) (nNz:Nat) (dNz:Nat) (sNz:Nat → Int) (nKz:Nat) (dKz:Nat) (sKz:Nat → Int) (nMz:Nat) (dMz:Nat) (sMz:Nat → Int) (sUz:Bool) (pC:List Sprite) (rC:List Man) (r1:Int × Pic × RPic × (Nat → Int)) (xd:Int × Pic × (Nat → Int)):(Int × Pic × (Nat → Int)) ⊕ (Int × Pic × (Nat → Int)) → Prop
 | p1 (d1:(decide (xd.1 < 4096)) = true) (w1d:∀ j,rng 256 (sNz j)) (w2d:0 ≤ xd.1) (w3d:0 ≤ (i64.wrap (8192 + xd.1))):qlL2 p r rM rN rS nTz dTz sTz nNz dNz sNz nKz dKz sKz nMz dMz sMz sUz pC rC r1 xd (.inl ((i64.wrap (xd.1 + 1)),(putF (i64.wrap (8192 + xd.1)) (againF nNz dNz sNz xd.1) xd.2.1 r1.2.2.1 xd.2.2 rN rS pC rC).1,(putF (i64.wrap (8192 + xd.1)) (againF nNz dNz sNz xd.1) xd.2.1 r1.2.2.1 xd.2.2 rN rS pC rC).2))
 | p2 (d1:(decide (xd.1 < 4096)) = false):qlL2 p r rM rN rS nTz dTz sTz nNz dNz sNz nKz dKz sKz nMz dMz sMz sUz pC rC r1 xd (.inr (xd.1,xd.2.1,xd.2.2))
def qlL2_T (p:Pic) (r:RPic) (rM:Nat → Int) (rN:Nat → Int) (rS:Nat → Int) (nTz:Nat) (dTz:Nat) (sTz:Nat → Int) (nNz:Nat) (dNz:Nat) (sNz:Nat → Int) (nKz:Nat) (dKz:Nat) (sKz:Nat → Int) (nMz:Nat) (dMz:Nat) (sMz:Nat → Int) (sUz:Bool) (pC:List Sprite) (rC:List Man) (r1:Int × Pic × RPic × (Nat → Int)) (xd:Int × Pic × (Nat → Int)):Tm:=[(3,pt 1011),(4,pt 1012),(5,pt 1013),(6,.func (.func 56) ⟨[]⟩ ⟨[pt 1011,pt 1012]⟩),(32,.int .i64 xd.1)]
def qlL2_H (p:Pic) (r:RPic) (rM:Nat → Int) (rN:Nat → Int) (rS:Nat → Int) (nTz:Nat) (dTz:Nat) (sTz:Nat → Int) (nNz:Nat) (dNz:Nat) (sNz:Nat → Int) (nKz:Nat) (dKz:Nat) (sKz:Nat → Int) (nMz:Nat) (dMz:Nat) (sMz:Nat → Int) (sUz:Bool) (pC:List Sprite) (rC:List Man) (r1:Int × Pic × RPic × (Nat → Int)) (xd:Int × Pic × (Nat → Int)):Heap:=[(1000,(Pic.bl xd.2.1 (sl 1009 (List.length pC) 5) false)),(1001,(RPic.bl r1.2.2.1 (sl 1002 16384 1) (sl 1003 256 1) (sl 1010 (List.length rC) 4) (sl 1004 61440 1) false)),(1002,⟨[.ints .u8 16384 xd.2.2],5,false⟩),(1003,iB 256 rN false),(1004,iB 61440 rS false),(1006,gB dNz nNz sNz),(1009,sB pC false),(1010,mB rC false),(1011,⟨[.one (pt 1000)],26,false⟩),(1012,⟨[.one (pt 1001)],28,false⟩),(1013,⟨[.one (sd 1005 dTz nTz),.one (sd 1006 dNz nNz),.one (sd 1007 dKz nKz),.one (sd 1008 dMz nMz),.one (.bool sUz)],45,false⟩)]
def qlL2_T1 (p:Pic) (r:RPic) (rM:Nat → Int) (rN:Nat → Int) (rS:Nat → Int) (nTz:Nat) (dTz:Nat) (sTz:Nat → Int) (nNz:Nat) (dNz:Nat) (sNz:Nat → Int) (nKz:Nat) (dKz:Nat) (sKz:Nat → Int) (nMz:Nat) (dMz:Nat) (sMz:Nat → Int) (sUz:Bool) (pC:List Sprite) (rC:List Man) (r1:Int × Pic × RPic × (Nat → Int)) (y_:Int × Pic × (Nat → Int)):Tm:=qlL2_T p r rM rN rS nTz dTz sTz nNz dNz sNz nKz dKz sKz nMz dMz sMz sUz pC rC r1 y_
def qlL2_H1 (p:Pic) (r:RPic) (rM:Nat → Int) (rN:Nat → Int) (rS:Nat → Int) (nTz:Nat) (dTz:Nat) (sTz:Nat → Int) (nNz:Nat) (dNz:Nat) (sNz:Nat → Int) (nKz:Nat) (dKz:Nat) (sKz:Nat → Int) (nMz:Nat) (dMz:Nat) (sMz:Nat → Int) (sUz:Bool) (pC:List Sprite) (rC:List Man) (r1:Int × Pic × RPic × (Nat → Int)) (y_:Int × Pic × (Nat → Int)):Heap:=qlL2_H p r rM rN rS nTz dTz sTz nNz dNz sNz nKz dKz sKz nMz dMz sMz sUz pC rC r1 y_
def qlL2_ex (_:Int × Pic × (Nat → Int)):Ex:=.exit 2
theorem qlL2_p1 (p:Pic) (r:RPic) (rM:Nat → Int) (rN:Nat → Int) (rS:Nat → Int) (nTz:Nat) (dTz:Nat) (sTz:Nat → Int) (nNz:Nat) (dNz:Nat) (sNz:Nat → Int) (nKz:Nat) (dKz:Nat) (sKz:Nat → Int) (nMz:Nat) (dMz:Nat) (sMz:Nat → Int) (sUz:Bool) (pC:List Sprite) (rC:List Man) (r1:Int × Pic × RPic × (Nat → Int)) (xd:Int × Pic × (Nat → Int)) (d1:(decide (xd.1 < 4096)) = true) (w1d:∀ j,rng 256 (sNz j)) (w2d:0 ≤ xd.1) (w3d:0 ≤ (i64.wrap (8192 + xd.1))):Runs Try.prog 73 (bodyOf Try.f28 [1,1,1,1,1,0,1,0,0]) (qlL2_T p r rM rN rS nTz dTz sTz nNz dNz sNz nKz dKz sKz nMz dMz sMz sUz pC rC r1 xd) (qlL2_H p r rM rN rS nTz dTz sTz nNz dNz sNz nKz dKz sKz nMz dMz sMz sUz pC rC r1 xd) 1014 .normal (qlL2_T p r rM rN rS nTz dTz sTz nNz dNz sNz nKz dKz sKz nMz dMz sMz sUz pC rC r1 ((i64.wrap (xd.1 + 1)),(putF (i64.wrap (8192 + xd.1)) (againF nNz dNz sNz xd.1) xd.2.1 r1.2.2.1 xd.2.2 rN rS pC rC).1,(putF (i64.wrap (8192 + xd.1)) (againF nNz dNz sNz xd.1) xd.2.1 r1.2.2.1 xd.2.2 rN rS pC rC).2)) (qlL2_H p r rM rN rS nTz dTz sTz nNz dNz sNz nKz dKz sKz nMz dMz sMz sUz pC rC r1 ((i64.wrap (xd.1 + 1)),(putF (i64.wrap (8192 + xd.1)) (againF nNz dNz sNz xd.1) xd.2.1 r1.2.2.1 xd.2.2 rN rS pC rC).1,(putF (i64.wrap (8192 + xd.1)) (againF nNz dNz sNz xd.1) xd.2.1 r1.2.2.1 xd.2.2 rN rS pC rC).2)) 1014:=by
 exact runs_of_x hG hM 400 [.yes,.call [(1006,1000)] [] 1001 (.int .u8 (againF nNz dNz sNz xd.1)) [],.callr [(1000,1000),(1001,1001),(1002,1002),(1003,1003),(1004,1004),(1009,1005),(1010,1006),(1011,1007),(1012,1008)] [1011,1012] [] 1009 (.tuple ⟨[]⟩) [(1000,(Pic.bl ((putF (i64.wrap (8192 + xd.1)) (againF nNz dNz sNz xd.1) xd.2.1 r1.2.2.1 xd.2.2 rN rS pC rC).1) (sl 1005 (List.length pC) 5) false)),(1001,(RPic.bl r1.2.2.1 (sl 1002 16384 1) (sl 1003 256 1) (sl 1006 (List.length rC) 4) (sl 1004 61440 1) false)),(1002,⟨[.ints .u8 16384 ((putF (i64.wrap (8192 + xd.1)) (againF nNz dNz sNz xd.1) xd.2.1 r1.2.2.1 xd.2.2 rN rS pC rC).2)],5,false⟩),(1003,iB 256 rN false),(1004,iB 61440 rS false),(1005,sB pC false),(1006,mB rC false)]] (J d1 (J (againF_ok nNz dNz sNz xd.1 w1d w2d) (J (putF_ok (i64.wrap (8192 + xd.1)) (againF nNz dNz sNz xd.1) xd.2.1 r1.2.2.1 xd.2.2 rN rS pC rC w3d) trivial))) (by kernel_rfl)
theorem qlL2_p2 (p:Pic) (r:RPic) (rM:Nat → Int) (rN:Nat → Int) (rS:Nat → Int) (nTz:Nat) (dTz:Nat) (sTz:Nat → Int) (nNz:Nat) (dNz:Nat) (sNz:Nat → Int) (nKz:Nat) (dKz:Nat) (sKz:Nat → Int) (nMz:Nat) (dMz:Nat) (sMz:Nat → Int) (sUz:Bool) (pC:List Sprite) (rC:List Man) (r1:Int × Pic × RPic × (Nat → Int)) (xd:Int × Pic × (Nat → Int)) (d1:(decide (xd.1 < 4096)) = false):Runs Try.prog 73 (bodyOf Try.f28 [1,1,1,1,1,0,1,0,0]) (qlL2_T p r rM rN rS nTz dTz sTz nNz dNz sNz nKz dKz sKz nMz dMz sMz sUz pC rC r1 xd) (qlL2_H p r rM rN rS nTz dTz sTz nNz dNz sNz nKz dKz sKz nMz dMz sMz sUz pC rC r1 xd) 1014 (.exit 2) (qlL2_T1 p r rM rN rS nTz dTz sTz nNz dNz sNz nKz dKz sKz nMz dMz sMz sUz pC rC r1 (xd.1,xd.2.1,xd.2.2)) (qlL2_H1 p r rM rN rS nTz dTz sTz nNz dNz sNz nKz dKz sKz nMz dMz sMz sUz pC rC r1 (xd.1,xd.2.1,xd.2.2)) 1014:=by
 exact runs_of_x hG hM 400 [.no] (J d1 trivial) (by kernel_rfl)
theorem qlL2_runs (p:Pic) (r:RPic) (rM:Nat → Int) (rN:Nat → Int) (rS:Nat → Int) (nTz:Nat) (dTz:Nat) (sTz:Nat → Int) (nNz:Nat) (dNz:Nat) (sNz:Nat → Int) (nKz:Nat) (dKz:Nat) (sKz:Nat → Int) (nMz:Nat) (dMz:Nat) (sMz:Nat → Int) (sUz:Bool) (pC:List Sprite) (rC:List Man) (r1:Int × Pic × RPic × (Nat → Int)) (x_:Int × Pic × (Nat → Int)) (y_:Int × Pic × (Nat → Int)) (h_:LoopR (qlL2 p r rM rN rS nTz dTz sTz nNz dNz sNz nKz dKz sKz nMz dMz sMz sUz pC rC r1) x_ y_):Runs Try.prog 73 (.block 2 (.loop (bodyOf Try.f28 [1,1,1,1,1,0,1,0,0]))) (qlL2_T p r rM rN rS nTz dTz sTz nNz dNz sNz nKz dKz sKz nMz dMz sMz sUz pC rC r1 x_) (qlL2_H p r rM rN rS nTz dTz sTz nNz dNz sNz nKz dKz sKz nMz dMz sMz sUz pC rC r1 x_) 1014 (outOf 2 (qlL2_ex y_)) (qlL2_T1 p r rM rN rS nTz dTz sTz nNz dNz sNz nKz dKz sKz nMz dMz sMz sUz pC rC r1 y_) (qlL2_H1 p r rM rN rS nTz dTz sTz nNz dNz sNz nKz dKz sKz nMz dMz sMz sUz pC rC r1 y_) 1014:=by
 refine block_loop (qlL2 p r rM rN rS nTz dTz sTz nNz dNz sNz nKz dKz sKz nMz dMz sMz sUz pC rC r1) (qlL2_T p r rM rN rS nTz dTz sTz nNz dNz sNz nKz dKz sKz nMz dMz sMz sUz pC rC r1) (qlL2_H p r rM rN rS nTz dTz sTz nNz dNz sNz nKz dKz sKz nMz dMz sMz sUz pC rC r1) qlL2_ex (qlL2_T1 p r rM rN rS nTz dTz sTz nNz dNz sNz nKz dKz sKz nMz dMz sMz sUz pC rC r1) (qlL2_H1 p r rM rN rS nTz dTz sTz nNz dNz sNz nKz dKz sKz nMz dMz sMz sUz pC rC r1) ?_ ?_ ?_ x_ y_ h_
 ·intro r hr;cases hr
 ·intro xd y_ hx
  cases hx with
  | p1 d1 w1d w2d w3d => exact qlL2_p1 p r rM rN rS nTz dTz sTz nNz dNz sNz nKz dKz sKz nMz dMz sMz sUz pC rC r1 xd d1 w1d w2d w3d
 ·intro xd y_ hx
  cases hx with
  | p2 d1 => exact qlL2_p2 p r rM rN rS nTz dTz sTz nNz dNz sNz nKz dKz sKz nMz dMz sMz sUz pC rC r1 xd d1
inductive qlL3 (p:Pic) (r:RPic) (rM:Nat → Int) (rN:Nat → Int) (rS:Nat → Int) (nTz:Nat) (dTz:Nat) (sTz:Nat → Int) (nNz:Nat) (dNz:Nat) (sNz:Nat → Int) (nKz:Nat) (dKz:Nat) (sKz:Nat → Int) (nMz:Nat) (dMz:Nat) (sMz:Nat → Int) (sUz:Bool) (pC:List Sprite) (rC:List Man) (r1:Int × Pic × RPic × (Nat → Int)) (r2:Int × Pic × (Nat → Int)) (xd:Int × Pic × (Nat → Int)):(Int × Pic × (Nat → Int)) ⊕ (Int × Pic × (Nat → Int)) → Prop
 | p1 (d1:(decide (xd.1 < 32)) = true) (w1d:∀ j,rng 256 (sKz j)) (w2d:0 ≤ xd.1) (w3d:0 ≤ (i64.wrap (16128 + xd.1))):qlL3 p r rM rN rS nTz dTz sTz nNz dNz sNz nKz dKz sKz nMz dMz sMz sUz pC rC r1 r2 xd (.inl ((i64.wrap (xd.1 + 1)),(putF (i64.wrap (16128 + xd.1)) (againF nKz dKz sKz xd.1) xd.2.1 r1.2.2.1 xd.2.2 rN rS pC rC).1,(putF (i64.wrap (16128 + xd.1)) (againF nKz dKz sKz xd.1) xd.2.1 r1.2.2.1 xd.2.2 rN rS pC rC).2))
 | p2 (d1:(decide (xd.1 < 32)) = false):qlL3 p r rM rN rS nTz dTz sTz nNz dNz sNz nKz dKz sKz nMz dMz sMz sUz pC rC r1 r2 xd (.inr (xd.1,xd.2.1,xd.2.2))
def qlL3_T (p:Pic) (r:RPic) (rM:Nat → Int) (rN:Nat → Int) (rS:Nat → Int) (nTz:Nat) (dTz:Nat) (sTz:Nat → Int) (nNz:Nat) (dNz:Nat) (sNz:Nat → Int) (nKz:Nat) (dKz:Nat) (sKz:Nat → Int) (nMz:Nat) (dMz:Nat) (sMz:Nat → Int) (sUz:Bool) (pC:List Sprite) (rC:List Man) (r1:Int × Pic × RPic × (Nat → Int)) (r2:Int × Pic × (Nat → Int)) (xd:Int × Pic × (Nat → Int)):Tm:=[(3,pt 1011),(4,pt 1012),(5,pt 1013),(6,.func (.func 56) ⟨[]⟩ ⟨[pt 1011,pt 1012]⟩),(44,.int .i64 xd.1)]
def qlL3_H (p:Pic) (r:RPic) (rM:Nat → Int) (rN:Nat → Int) (rS:Nat → Int) (nTz:Nat) (dTz:Nat) (sTz:Nat → Int) (nNz:Nat) (dNz:Nat) (sNz:Nat → Int) (nKz:Nat) (dKz:Nat) (sKz:Nat → Int) (nMz:Nat) (dMz:Nat) (sMz:Nat → Int) (sUz:Bool) (pC:List Sprite) (rC:List Man) (r1:Int × Pic × RPic × (Nat → Int)) (r2:Int × Pic × (Nat → Int)) (xd:Int × Pic × (Nat → Int)):Heap:=[(1000,(Pic.bl xd.2.1 (sl 1009 (List.length pC) 5) false)),(1001,(RPic.bl r1.2.2.1 (sl 1002 16384 1) (sl 1003 256 1) (sl 1010 (List.length rC) 4) (sl 1004 61440 1) false)),(1002,⟨[.ints .u8 16384 xd.2.2],5,false⟩),(1003,iB 256 rN false),(1004,iB 61440 rS false),(1007,gB dKz nKz sKz),(1009,sB pC false),(1010,mB rC false),(1011,⟨[.one (pt 1000)],26,false⟩),(1012,⟨[.one (pt 1001)],28,false⟩),(1013,⟨[.one (sd 1005 dTz nTz),.one (sd 1006 dNz nNz),.one (sd 1007 dKz nKz),.one (sd 1008 dMz nMz),.one (.bool sUz)],45,false⟩)]
def qlL3_T1 (p:Pic) (r:RPic) (rM:Nat → Int) (rN:Nat → Int) (rS:Nat → Int) (nTz:Nat) (dTz:Nat) (sTz:Nat → Int) (nNz:Nat) (dNz:Nat) (sNz:Nat → Int) (nKz:Nat) (dKz:Nat) (sKz:Nat → Int) (nMz:Nat) (dMz:Nat) (sMz:Nat → Int) (sUz:Bool) (pC:List Sprite) (rC:List Man) (r1:Int × Pic × RPic × (Nat → Int)) (r2:Int × Pic × (Nat → Int)) (y_:Int × Pic × (Nat → Int)):Tm:=qlL3_T p r rM rN rS nTz dTz sTz nNz dNz sNz nKz dKz sKz nMz dMz sMz sUz pC rC r1 r2 y_
def qlL3_H1 (p:Pic) (r:RPic) (rM:Nat → Int) (rN:Nat → Int) (rS:Nat → Int) (nTz:Nat) (dTz:Nat) (sTz:Nat → Int) (nNz:Nat) (dNz:Nat) (sNz:Nat → Int) (nKz:Nat) (dKz:Nat) (sKz:Nat → Int) (nMz:Nat) (dMz:Nat) (sMz:Nat → Int) (sUz:Bool) (pC:List Sprite) (rC:List Man) (r1:Int × Pic × RPic × (Nat → Int)) (r2:Int × Pic × (Nat → Int)) (y_:Int × Pic × (Nat → Int)):Heap:=qlL3_H p r rM rN rS nTz dTz sTz nNz dNz sNz nKz dKz sKz nMz dMz sMz sUz pC rC r1 r2 y_
def qlL3_ex (_:Int × Pic × (Nat → Int)):Ex:=.exit 4
theorem qlL3_p1 (p:Pic) (r:RPic) (rM:Nat → Int) (rN:Nat → Int) (rS:Nat → Int) (nTz:Nat) (dTz:Nat) (sTz:Nat → Int) (nNz:Nat) (dNz:Nat) (sNz:Nat → Int) (nKz:Nat) (dKz:Nat) (sKz:Nat → Int) (nMz:Nat) (dMz:Nat) (sMz:Nat → Int) (sUz:Bool) (pC:List Sprite) (rC:List Man) (r1:Int × Pic × RPic × (Nat → Int)) (r2:Int × Pic × (Nat → Int)) (xd:Int × Pic × (Nat → Int)) (d1:(decide (xd.1 < 32)) = true) (w1d:∀ j,rng 256 (sKz j)) (w2d:0 ≤ xd.1) (w3d:0 ≤ (i64.wrap (16128 + xd.1))):Runs Try.prog 73 (bodyOf Try.f28 [1,1,1,1,1,1,0,1,0,0]) (qlL3_T p r rM rN rS nTz dTz sTz nNz dNz sNz nKz dKz sKz nMz dMz sMz sUz pC rC r1 r2 xd) (qlL3_H p r rM rN rS nTz dTz sTz nNz dNz sNz nKz dKz sKz nMz dMz sMz sUz pC rC r1 r2 xd) 1014 .normal (qlL3_T p r rM rN rS nTz dTz sTz nNz dNz sNz nKz dKz sKz nMz dMz sMz sUz pC rC r1 r2 ((i64.wrap (xd.1 + 1)),(putF (i64.wrap (16128 + xd.1)) (againF nKz dKz sKz xd.1) xd.2.1 r1.2.2.1 xd.2.2 rN rS pC rC).1,(putF (i64.wrap (16128 + xd.1)) (againF nKz dKz sKz xd.1) xd.2.1 r1.2.2.1 xd.2.2 rN rS pC rC).2)) (qlL3_H p r rM rN rS nTz dTz sTz nNz dNz sNz nKz dKz sKz nMz dMz sMz sUz pC rC r1 r2 ((i64.wrap (xd.1 + 1)),(putF (i64.wrap (16128 + xd.1)) (againF nKz dKz sKz xd.1) xd.2.1 r1.2.2.1 xd.2.2 rN rS pC rC).1,(putF (i64.wrap (16128 + xd.1)) (againF nKz dKz sKz xd.1) xd.2.1 r1.2.2.1 xd.2.2 rN rS pC rC).2)) 1014:=by
 exact runs_of_x hG hM 400 [.yes,.call [(1007,1000)] [] 1001 (.int .u8 (againF nKz dKz sKz xd.1)) [],.callr [(1000,1000),(1001,1001),(1002,1002),(1003,1003),(1004,1004),(1009,1005),(1010,1006),(1011,1007),(1012,1008)] [1011,1012] [] 1009 (.tuple ⟨[]⟩) [(1000,(Pic.bl ((putF (i64.wrap (16128 + xd.1)) (againF nKz dKz sKz xd.1) xd.2.1 r1.2.2.1 xd.2.2 rN rS pC rC).1) (sl 1005 (List.length pC) 5) false)),(1001,(RPic.bl r1.2.2.1 (sl 1002 16384 1) (sl 1003 256 1) (sl 1006 (List.length rC) 4) (sl 1004 61440 1) false)),(1002,⟨[.ints .u8 16384 ((putF (i64.wrap (16128 + xd.1)) (againF nKz dKz sKz xd.1) xd.2.1 r1.2.2.1 xd.2.2 rN rS pC rC).2)],5,false⟩),(1003,iB 256 rN false),(1004,iB 61440 rS false),(1005,sB pC false),(1006,mB rC false)]] (J d1 (J (againF_ok nKz dKz sKz xd.1 w1d w2d) (J (putF_ok (i64.wrap (16128 + xd.1)) (againF nKz dKz sKz xd.1) xd.2.1 r1.2.2.1 xd.2.2 rN rS pC rC w3d) trivial))) (by kernel_rfl)
theorem qlL3_p2 (p:Pic) (r:RPic) (rM:Nat → Int) (rN:Nat → Int) (rS:Nat → Int) (nTz:Nat) (dTz:Nat) (sTz:Nat → Int) (nNz:Nat) (dNz:Nat) (sNz:Nat → Int) (nKz:Nat) (dKz:Nat) (sKz:Nat → Int) (nMz:Nat) (dMz:Nat) (sMz:Nat → Int) (sUz:Bool) (pC:List Sprite) (rC:List Man) (r1:Int × Pic × RPic × (Nat → Int)) (r2:Int × Pic × (Nat → Int)) (xd:Int × Pic × (Nat → Int)) (d1:(decide (xd.1 < 32)) = false):Runs Try.prog 73 (bodyOf Try.f28 [1,1,1,1,1,1,0,1,0,0]) (qlL3_T p r rM rN rS nTz dTz sTz nNz dNz sNz nKz dKz sKz nMz dMz sMz sUz pC rC r1 r2 xd) (qlL3_H p r rM rN rS nTz dTz sTz nNz dNz sNz nKz dKz sKz nMz dMz sMz sUz pC rC r1 r2 xd) 1014 (.exit 4) (qlL3_T1 p r rM rN rS nTz dTz sTz nNz dNz sNz nKz dKz sKz nMz dMz sMz sUz pC rC r1 r2 (xd.1,xd.2.1,xd.2.2)) (qlL3_H1 p r rM rN rS nTz dTz sTz nNz dNz sNz nKz dKz sKz nMz dMz sMz sUz pC rC r1 r2 (xd.1,xd.2.1,xd.2.2)) 1014:=by
 exact runs_of_x hG hM 400 [.no] (J d1 trivial) (by kernel_rfl)
theorem qlL3_runs (p:Pic) (r:RPic) (rM:Nat → Int) (rN:Nat → Int) (rS:Nat → Int) (nTz:Nat) (dTz:Nat) (sTz:Nat → Int) (nNz:Nat) (dNz:Nat) (sNz:Nat → Int) (nKz:Nat) (dKz:Nat) (sKz:Nat → Int) (nMz:Nat) (dMz:Nat) (sMz:Nat → Int) (sUz:Bool) (pC:List Sprite) (rC:List Man) (r1:Int × Pic × RPic × (Nat → Int)) (r2:Int × Pic × (Nat → Int)) (x_:Int × Pic × (Nat → Int)) (y_:Int × Pic × (Nat → Int)) (h_:LoopR (qlL3 p r rM rN rS nTz dTz sTz nNz dNz sNz nKz dKz sKz nMz dMz sMz sUz pC rC r1 r2) x_ y_):Runs Try.prog 73 (.block 4 (.loop (bodyOf Try.f28 [1,1,1,1,1,1,0,1,0,0]))) (qlL3_T p r rM rN rS nTz dTz sTz nNz dNz sNz nKz dKz sKz nMz dMz sMz sUz pC rC r1 r2 x_) (qlL3_H p r rM rN rS nTz dTz sTz nNz dNz sNz nKz dKz sKz nMz dMz sMz sUz pC rC r1 r2 x_) 1014 (outOf 4 (qlL3_ex y_)) (qlL3_T1 p r rM rN rS nTz dTz sTz nNz dNz sNz nKz dKz sKz nMz dMz sMz sUz pC rC r1 r2 y_) (qlL3_H1 p r rM rN rS nTz dTz sTz nNz dNz sNz nKz dKz sKz nMz dMz sMz sUz pC rC r1 r2 y_) 1014:=by
 refine block_loop (qlL3 p r rM rN rS nTz dTz sTz nNz dNz sNz nKz dKz sKz nMz dMz sMz sUz pC rC r1 r2) (qlL3_T p r rM rN rS nTz dTz sTz nNz dNz sNz nKz dKz sKz nMz dMz sMz sUz pC rC r1 r2) (qlL3_H p r rM rN rS nTz dTz sTz nNz dNz sNz nKz dKz sKz nMz dMz sMz sUz pC rC r1 r2) qlL3_ex (qlL3_T1 p r rM rN rS nTz dTz sTz nNz dNz sNz nKz dKz sKz nMz dMz sMz sUz pC rC r1 r2) (qlL3_H1 p r rM rN rS nTz dTz sTz nNz dNz sNz nKz dKz sKz nMz dMz sMz sUz pC rC r1 r2) ?_ ?_ ?_ x_ y_ h_
 ·intro r hr;cases hr
 ·intro xd y_ hx
  cases hx with
  | p1 d1 w1d w2d w3d => exact qlL3_p1 p r rM rN rS nTz dTz sTz nNz dNz sNz nKz dKz sKz nMz dMz sMz sUz pC rC r1 r2 xd d1 w1d w2d w3d
 ·intro xd y_ hx
  cases hx with
  | p2 d1 => exact qlL3_p2 p r rM rN rS nTz dTz sTz nNz dNz sNz nKz dKz sKz nMz dMz sMz sUz pC rC r1 r2 xd d1
inductive qlL4 (p:Pic) (r:RPic) (rM:Nat → Int) (rN:Nat → Int) (rS:Nat → Int) (nTz:Nat) (dTz:Nat) (sTz:Nat → Int) (nNz:Nat) (dNz:Nat) (sNz:Nat → Int) (nKz:Nat) (dKz:Nat) (sKz:Nat → Int) (nMz:Nat) (dMz:Nat) (sMz:Nat → Int) (sUz:Bool) (pC:List Sprite) (rC:List Man) (r1:Int × Pic × RPic × (Nat → Int)) (r2:Int × Pic × (Nat → Int)) (r3:Int × Pic × (Nat → Int)) (xd:Int × Pic × RPic × (Nat → Int) × (Nat → Int)):(Int × Pic × RPic × (Nat → Int) × (Nat → Int)) ⊕ (Int × Pic × RPic × (Nat → Int) × (Nat → Int)) → Prop
 | p1 (d1:(decide (xd.1 < 256)) = true) (w1d:∀ j,rng 256 (sMz j)) (w2d:0 ≤ xd.1) (w3d:Pic.ok xd.2.1) (w4d:0 ≤ xd.2.2.1.At ∧ xd.2.2.1.At < ((256:Nat):Int)) (w5d:0 ≤ rBits xd.2.2.1.S.V):qlL4 p r rM rN rS nTz dTz sTz nNz dNz sNz nKz dKz sKz nMz dMz sMz sUz pC rC r1 r2 r3 xd (.inl ((i64.wrap (xd.1 + 1)),(pPut xd.2.1 pC 4 (againF nMz dMz sMz xd.1)),(rPut xd.2.2.1 xd.2.2.2.1 xd.2.2.2.2 rS rC 4 (i64.wrap (againF nMz dMz sMz xd.1))).1,(rPut xd.2.2.1 xd.2.2.2.1 xd.2.2.2.2 rS rC 4 (i64.wrap (againF nMz dMz sMz xd.1))).2.1,(rPut xd.2.2.1 xd.2.2.2.1 xd.2.2.2.2 rS rC 4 (i64.wrap (againF nMz dMz sMz xd.1))).2.2))
 | p2 (d1:(decide (xd.1 < 256)) = false):qlL4 p r rM rN rS nTz dTz sTz nNz dNz sNz nKz dKz sKz nMz dMz sMz sUz pC rC r1 r2 r3 xd (.inr (xd.1,xd.2.1,xd.2.2.1,xd.2.2.2.1,xd.2.2.2.2))
def qlL4_T (p:Pic) (r:RPic) (rM:Nat → Int) (rN:Nat → Int) (rS:Nat → Int) (nTz:Nat) (dTz:Nat) (sTz:Nat → Int) (nNz:Nat) (dNz:Nat) (sNz:Nat → Int) (nKz:Nat) (dKz:Nat) (sKz:Nat → Int) (nMz:Nat) (dMz:Nat) (sMz:Nat → Int) (sUz:Bool) (pC:List Sprite) (rC:List Man) (r1:Int × Pic × RPic × (Nat → Int)) (r2:Int × Pic × (Nat → Int)) (r3:Int × Pic × (Nat → Int)) (xd:Int × Pic × RPic × (Nat → Int) × (Nat → Int)):Tm:=[(3,pt 1011),(4,pt 1012),(5,pt 1013),(56,.int .i64 xd.1)]
def qlL4_H (p:Pic) (r:RPic) (rM:Nat → Int) (rN:Nat → Int) (rS:Nat → Int) (nTz:Nat) (dTz:Nat) (sTz:Nat → Int) (nNz:Nat) (dNz:Nat) (sNz:Nat → Int) (nKz:Nat) (dKz:Nat) (sKz:Nat → Int) (nMz:Nat) (dMz:Nat) (sMz:Nat → Int) (sUz:Bool) (pC:List Sprite) (rC:List Man) (r1:Int × Pic × RPic × (Nat → Int)) (r2:Int × Pic × (Nat → Int)) (r3:Int × Pic × (Nat → Int)) (xd:Int × Pic × RPic × (Nat → Int) × (Nat → Int)):Heap:=[(1000,(Pic.bl xd.2.1 (sl 1009 (List.length pC) 5) false)),(1001,(RPic.bl xd.2.2.1 (sl 1002 16384 1) (sl 1003 256 1) (sl 1010 (List.length rC) 4) (sl 1004 61440 1) false)),(1002,⟨[.ints .u8 16384 xd.2.2.2.1],5,false⟩),(1003,⟨[.ints .u8 256 xd.2.2.2.2],5,false⟩),(1004,iB 61440 rS false),(1008,gB dMz nMz sMz),(1009,sB pC false),(1010,mB rC false),(1011,⟨[.one (pt 1000)],26,false⟩),(1012,⟨[.one (pt 1001)],28,false⟩),(1013,⟨[.one (sd 1005 dTz nTz),.one (sd 1006 dNz nNz),.one (sd 1007 dKz nKz),.one (sd 1008 dMz nMz),.one (.bool sUz)],45,false⟩)]
def qlL4_T1 (p:Pic) (r:RPic) (rM:Nat → Int) (rN:Nat → Int) (rS:Nat → Int) (nTz:Nat) (dTz:Nat) (sTz:Nat → Int) (nNz:Nat) (dNz:Nat) (sNz:Nat → Int) (nKz:Nat) (dKz:Nat) (sKz:Nat → Int) (nMz:Nat) (dMz:Nat) (sMz:Nat → Int) (sUz:Bool) (pC:List Sprite) (rC:List Man) (r1:Int × Pic × RPic × (Nat → Int)) (r2:Int × Pic × (Nat → Int)) (r3:Int × Pic × (Nat → Int)) (y_:Int × Pic × RPic × (Nat → Int) × (Nat → Int)):Tm:=qlL4_T p r rM rN rS nTz dTz sTz nNz dNz sNz nKz dKz sKz nMz dMz sMz sUz pC rC r1 r2 r3 y_
def qlL4_H1 (p:Pic) (r:RPic) (rM:Nat → Int) (rN:Nat → Int) (rS:Nat → Int) (nTz:Nat) (dTz:Nat) (sTz:Nat → Int) (nNz:Nat) (dNz:Nat) (sNz:Nat → Int) (nKz:Nat) (dKz:Nat) (sKz:Nat → Int) (nMz:Nat) (dMz:Nat) (sMz:Nat → Int) (sUz:Bool) (pC:List Sprite) (rC:List Man) (r1:Int × Pic × RPic × (Nat → Int)) (r2:Int × Pic × (Nat → Int)) (r3:Int × Pic × (Nat → Int)) (y_:Int × Pic × RPic × (Nat → Int) × (Nat → Int)):Heap:=qlL4_H p r rM rN rS nTz dTz sTz nNz dNz sNz nKz dKz sKz nMz dMz sMz sUz pC rC r1 r2 r3 y_
def qlL4_ex (_:Int × Pic × RPic × (Nat → Int) × (Nat → Int)):Ex:=.exit 6
abbrev NVk0 (xd:Int × Pic × RPic × (Nat → Int) × (Nat → Int)) (rS:Nat → Int) (rC:List Man) (nMz dMz:Nat) (sMz:Nat → Int):=(rPut xd.2.2.1 xd.2.2.2.1 xd.2.2.2.2 rS rC 4 (i64.wrap (againF nMz dMz sMz xd.1)))
theorem qlL4_p1 (p:Pic) (r:RPic) (rM:Nat → Int) (rN:Nat → Int) (rS:Nat → Int) (nTz:Nat) (dTz:Nat) (sTz:Nat → Int) (nNz:Nat) (dNz:Nat) (sNz:Nat → Int) (nKz:Nat) (dKz:Nat) (sKz:Nat → Int) (nMz:Nat) (dMz:Nat) (sMz:Nat → Int) (sUz:Bool) (pC:List Sprite) (rC:List Man) (r1:Int × Pic × RPic × (Nat → Int)) (r2:Int × Pic × (Nat → Int)) (r3:Int × Pic × (Nat → Int)) (xd:Int × Pic × RPic × (Nat → Int) × (Nat → Int)) (d1:(decide (xd.1 < 256)) = true) (w1d:∀ j,rng 256 (sMz j)) (w2d:0 ≤ xd.1) (w3d:Pic.ok xd.2.1) (w4d:0 ≤ xd.2.2.1.At ∧ xd.2.2.1.At < ((256:Nat):Int)) (w5d:0 ≤ rBits xd.2.2.1.S.V):Runs Try.prog 73 (bodyOf Try.f28 [1,1,1,1,1,1,1,1,0,0]) (qlL4_T p r rM rN rS nTz dTz sTz nNz dNz sNz nKz dKz sKz nMz dMz sMz sUz pC rC r1 r2 r3 xd) (qlL4_H p r rM rN rS nTz dTz sTz nNz dNz sNz nKz dKz sKz nMz dMz sMz sUz pC rC r1 r2 r3 xd) 1014 .normal (qlL4_T p r rM rN rS nTz dTz sTz nNz dNz sNz nKz dKz sKz nMz dMz sMz sUz pC rC r1 r2 r3 ((i64.wrap (xd.1 + 1)),(pPut xd.2.1 pC 4 (againF nMz dMz sMz xd.1)),(NVk0 xd rS rC nMz dMz sMz).1,(NVk0 xd rS rC nMz dMz sMz).2.1,(NVk0 xd rS rC nMz dMz sMz).2.2)) (qlL4_H p r rM rN rS nTz dTz sTz nNz dNz sNz nKz dKz sKz nMz dMz sMz sUz pC rC r1 r2 r3 ((i64.wrap (xd.1 + 1)),(pPut xd.2.1 pC 4 (againF nMz dMz sMz xd.1)),(NVk0 xd rS rC nMz dMz sMz).1,(NVk0 xd rS rC nMz dMz sMz).2.1,(NVk0 xd rS rC nMz dMz sMz).2.2)) 1014:=by
 exact runs_of_x hG hM 400 [.yes,.call [(1008,1000)] [] 1001 (.int .u8 (againF nMz dMz sMz xd.1)) [],.call [(1000,1000),(1009,1001)] [] 1002 (.tuple ⟨[]⟩) [(1000,(Pic.bl (pPut xd.2.1 pC 4 (againF nMz dMz sMz xd.1)) (sl 1001 (List.length pC) 5) false)),(1001,sB pC false)],.call [(1008,1000)] [] 1001 (.int .u8 (againF nMz dMz sMz xd.1)) [],.call [(1001,1000),(1002,1001),(1003,1002),(1004,1003),(1010,1004)] [] 1005 (.tuple ⟨[]⟩) [(1000,(RPic.bl ((NVk0 xd rS rC nMz dMz sMz).1) (sl 1001 16384 1) (sl 1002 256 1) (sl 1004 (List.length rC) 4) (sl 1003 61440 1) false)),(1001,⟨[.ints .u8 16384 ((NVk0 xd rS rC nMz dMz sMz).2.1)],5,false⟩),(1002,⟨[.ints .u8 256 ((NVk0 xd rS rC nMz dMz sMz).2.2)],5,false⟩),(1003,iB 61440 rS false),(1004,mB rC false)]] (J d1 (J (againF_ok nMz dMz sMz xd.1 w1d w2d) (J (pPut_ok xd.2.1 pC 4 (againF nMz dMz sMz xd.1) w3d) (J (againF_ok nMz dMz sMz xd.1 w1d w2d) (J (rPut_ok xd.2.2.1 xd.2.2.2.1 xd.2.2.2.2 rS rC 4 (i64.wrap (againF nMz dMz sMz xd.1)) w4d w5d) trivial))))) (by kernel_rfl)
theorem qlL4_p2 (p:Pic) (r:RPic) (rM:Nat → Int) (rN:Nat → Int) (rS:Nat → Int) (nTz:Nat) (dTz:Nat) (sTz:Nat → Int) (nNz:Nat) (dNz:Nat) (sNz:Nat → Int) (nKz:Nat) (dKz:Nat) (sKz:Nat → Int) (nMz:Nat) (dMz:Nat) (sMz:Nat → Int) (sUz:Bool) (pC:List Sprite) (rC:List Man) (r1:Int × Pic × RPic × (Nat → Int)) (r2:Int × Pic × (Nat → Int)) (r3:Int × Pic × (Nat → Int)) (xd:Int × Pic × RPic × (Nat → Int) × (Nat → Int)) (d1:(decide (xd.1 < 256)) = false):Runs Try.prog 73 (bodyOf Try.f28 [1,1,1,1,1,1,1,1,0,0]) (qlL4_T p r rM rN rS nTz dTz sTz nNz dNz sNz nKz dKz sKz nMz dMz sMz sUz pC rC r1 r2 r3 xd) (qlL4_H p r rM rN rS nTz dTz sTz nNz dNz sNz nKz dKz sKz nMz dMz sMz sUz pC rC r1 r2 r3 xd) 1014 (.exit 6) (qlL4_T1 p r rM rN rS nTz dTz sTz nNz dNz sNz nKz dKz sKz nMz dMz sMz sUz pC rC r1 r2 r3 (xd.1,xd.2.1,xd.2.2.1,xd.2.2.2.1,xd.2.2.2.2)) (qlL4_H1 p r rM rN rS nTz dTz sTz nNz dNz sNz nKz dKz sKz nMz dMz sMz sUz pC rC r1 r2 r3 (xd.1,xd.2.1,xd.2.2.1,xd.2.2.2.1,xd.2.2.2.2)) 1014:=by
 exact runs_of_x hG hM 400 [.no] (J d1 trivial) (by kernel_rfl)
theorem qlL4_runs (p:Pic) (r:RPic) (rM:Nat → Int) (rN:Nat → Int) (rS:Nat → Int) (nTz:Nat) (dTz:Nat) (sTz:Nat → Int) (nNz:Nat) (dNz:Nat) (sNz:Nat → Int) (nKz:Nat) (dKz:Nat) (sKz:Nat → Int) (nMz:Nat) (dMz:Nat) (sMz:Nat → Int) (sUz:Bool) (pC:List Sprite) (rC:List Man) (r1:Int × Pic × RPic × (Nat → Int)) (r2:Int × Pic × (Nat → Int)) (r3:Int × Pic × (Nat → Int)) (x_:Int × Pic × RPic × (Nat → Int) × (Nat → Int)) (y_:Int × Pic × RPic × (Nat → Int) × (Nat → Int)) (h_:LoopR (qlL4 p r rM rN rS nTz dTz sTz nNz dNz sNz nKz dKz sKz nMz dMz sMz sUz pC rC r1 r2 r3) x_ y_):Runs Try.prog 73 (.block 6 (.loop (bodyOf Try.f28 [1,1,1,1,1,1,1,1,0,0]))) (qlL4_T p r rM rN rS nTz dTz sTz nNz dNz sNz nKz dKz sKz nMz dMz sMz sUz pC rC r1 r2 r3 x_) (qlL4_H p r rM rN rS nTz dTz sTz nNz dNz sNz nKz dKz sKz nMz dMz sMz sUz pC rC r1 r2 r3 x_) 1014 (outOf 6 (qlL4_ex y_)) (qlL4_T1 p r rM rN rS nTz dTz sTz nNz dNz sNz nKz dKz sKz nMz dMz sMz sUz pC rC r1 r2 r3 y_) (qlL4_H1 p r rM rN rS nTz dTz sTz nNz dNz sNz nKz dKz sKz nMz dMz sMz sUz pC rC r1 r2 r3 y_) 1014:=by
 refine block_loop (qlL4 p r rM rN rS nTz dTz sTz nNz dNz sNz nKz dKz sKz nMz dMz sMz sUz pC rC r1 r2 r3) (qlL4_T p r rM rN rS nTz dTz sTz nNz dNz sNz nKz dKz sKz nMz dMz sMz sUz pC rC r1 r2 r3) (qlL4_H p r rM rN rS nTz dTz sTz nNz dNz sNz nKz dKz sKz nMz dMz sMz sUz pC rC r1 r2 r3) qlL4_ex (qlL4_T1 p r rM rN rS nTz dTz sTz nNz dNz sNz nKz dKz sKz nMz dMz sMz sUz pC rC r1 r2 r3) (qlL4_H1 p r rM rN rS nTz dTz sTz nNz dNz sNz nKz dKz sKz nMz dMz sMz sUz pC rC r1 r2 r3) ?_ ?_ ?_ x_ y_ h_
 ·intro r hr;cases hr
 ·intro xd y_ hx
  cases hx with
  | p1 d1 w1d w2d w3d w4d w5d => exact qlL4_p1 p r rM rN rS nTz dTz sTz nNz dNz sNz nKz dKz sKz nMz dMz sMz sUz pC rC r1 r2 r3 xd d1 w1d w2d w3d w4d w5d
 ·intro xd y_ hx
  cases hx with
  | p2 d1 => exact qlL4_p2 p r rM rN rS nTz dTz sTz nNz dNz sNz nKz dKz sKz nMz dMz sMz sUz pC rC r1 r2 r3 xd d1
theorem wLay_p1 (p:Pic) (r:RPic) (rM:Nat → Int) (rN:Nat → Int) (rS:Nat → Int) (nTz:Nat) (dTz:Nat) (sTz:Nat → Int) (nNz:Nat) (dNz:Nat) (sNz:Nat → Int) (nKz:Nat) (dKz:Nat) (sKz:Nat → Int) (nMz:Nat) (dMz:Nat) (sMz:Nat → Int) (sUz:Bool) (pC:List Sprite) (rC:List Man) (r1:Int × Pic × RPic × (Nat → Int)) (l1:LoopR (qlL1 p rM rN rS nTz dTz sTz nNz dNz sNz nKz dKz sKz nMz dMz sMz sUz pC rC) (0,(pUpright p pC sUz),({ r with Upright:=sUz }:RPic),rM) r1) (r2:Int × Pic × (Nat → Int)) (l2:LoopR (qlL2 p r rM rN rS nTz dTz sTz nNz dNz sNz nKz dKz sKz nMz dMz sMz sUz pC rC r1) (0,r1.2.1,r1.2.2.2) r2) (r3:Int × Pic × (Nat → Int)) (l3:LoopR (qlL3 p r rM rN rS nTz dTz sTz nNz dNz sNz nKz dKz sKz nMz dMz sMz sUz pC rC r1 r2) (0,r2.2.1,r2.2.2) r3) (r4:Int × Pic × RPic × (Nat → Int) × (Nat → Int)) (l4:LoopR (qlL4 p r rM rN rS nTz dTz sTz nNz dNz sNz nKz dKz sKz nMz dMz sMz sUz pC rC r1 r2 r3) (0,r3.2.1,r1.2.2.1,r3.2.2,rN) r4):FnSpec Try.prog 28 1011 [pt 1000,pt 1001,.agg ⟨[sd 1005 dTz nTz,sd 1006 dNz nNz,sd 1007 dKz nKz,sd 1008 dMz nMz,.bool sUz]⟩] [(1000,(Pic.bl p (sl 1009 (List.length pC) 5) false)),(1001,(RPic.bl r (sl 1002 16384 1) (sl 1003 256 1) (sl 1010 (List.length rC) 4) (sl 1004 61440 1) false)),(1002,iB 16384 rM false),(1003,iB 256 rN false),(1004,iB 61440 rS false),(1009,sB pC false),(1010,mB rC false),(1005,gB dTz nTz sTz),(1006,gB dNz nNz sNz),(1007,gB dKz nKz sKz),(1008,gB dMz nMz sMz)] (.tuple ⟨[]⟩) [(1000,(Pic.bl ((r4.2.1,r4.2.2.1,r4.2.2.2.1,r4.2.2.2.2).1) (sl 1009 (List.length pC) 5) false)),(1001,(RPic.bl ((r4.2.1,r4.2.2.1,r4.2.2.2.1,r4.2.2.2.2).2.1) (sl 1002 16384 1) (sl 1003 256 1) (sl 1010 (List.length rC) 4) (sl 1004 61440 1) false)),(1002,⟨[.ints .u8 16384 ((r4.2.1,r4.2.2.1,r4.2.2.2.1,r4.2.2.2.2).2.2.1)],5,false⟩),(1003,⟨[.ints .u8 256 ((r4.2.1,r4.2.2.1,r4.2.2.2.1,r4.2.2.2.2).2.2.2)],5,false⟩),(1004,iB 61440 rS false),(1009,sB pC false),(1010,mB rC false)]:=by
 exact fn_of_x hG hM Try.func28 (by kernel_rfl) (by kernel_rfl) 400 [.call [(1000,1000),(1009,1001)] [] 1002 (.tuple ⟨[]⟩) [(1000,(Pic.bl (pUpright p pC sUz) (sl 1001 (List.length pC) 5) false)),(1001,sB pC false)],.segk 1 0 [3,4,5,6,21] [1000,1001,1002,1003,1004,1005,1009,1010,1011,1012,1013] .normal (qlL1_T1 p rM rN rS nTz dTz sTz nNz dNz sNz nKz dKz sKz nMz dMz sMz sUz pC rC r1) (qlL1_H1 p rM rN rS nTz dTz sTz nNz dNz sNz nKz dKz sKz nMz dMz sMz sUz pC rC r1) 1014,.segk 1 2 [3,4,5,6,32] [1000,1001,1002,1003,1004,1006,1009,1010,1011,1012,1013] .normal (qlL2_T1 p r rM rN rS nTz dTz sTz nNz dNz sNz nKz dKz sKz nMz dMz sMz sUz pC rC r1 r2) (qlL2_H1 p r rM rN rS nTz dTz sTz nNz dNz sNz nKz dKz sKz nMz dMz sMz sUz pC rC r1 r2) 1014,.segk 1 4 [3,4,5,6,44] [1000,1001,1002,1003,1004,1007,1009,1010,1011,1012,1013] .normal (qlL3_T1 p r rM rN rS nTz dTz sTz nNz dNz sNz nKz dKz sKz nMz dMz sMz sUz pC rC r1 r2 r3) (qlL3_H1 p r rM rN rS nTz dTz sTz nNz dNz sNz nKz dKz sKz nMz dMz sMz sUz pC rC r1 r2 r3) 1014,.segk 1 6 [3,4,5,56] [1000,1001,1002,1003,1004,1008,1009,1010,1011,1012,1013] .normal (qlL4_T1 p r rM rN rS nTz dTz sTz nNz dNz sNz nKz dKz sKz nMz dMz sMz sUz pC rC r1 r2 r3 r4) (qlL4_H1 p r rM rN rS nTz dTz sTz nNz dNz sNz nKz dKz sKz nMz dMz sMz sUz pC rC r1 r2 r3 r4) 1014] (J (pUpright_ok p pC sUz) (J (qlL1_runs p rM rN rS nTz dTz sTz nNz dNz sNz nKz dKz sKz nMz dMz sMz sUz pC rC (0,(pUpright p pC sUz),({ r with Upright:=sUz }:RPic),rM) r1 l1) (J (qlL2_runs p r rM rN rS nTz dTz sTz nNz dNz sNz nKz dKz sKz nMz dMz sMz sUz pC rC r1 (0,r1.2.1,r1.2.2.2) r2 l2) (J (qlL3_runs p r rM rN rS nTz dTz sTz nNz dNz sNz nKz dKz sKz nMz dMz sMz sUz pC rC r1 r2 (0,r2.2.1,r2.2.2) r3 l3) (J (qlL4_runs p r rM rN rS nTz dTz sTz nNz dNz sNz nKz dKz sKz nMz dMz sMz sUz pC rC r1 r2 r3 (0,r3.2.1,r1.2.2.1,r3.2.2,rN) r4 l4) trivial))))) (by kernel_rfl)
end Go.Proofs.Ytgnhhnmpeklciaa
namespace Go.Proofs.Ytgnhhnmpeklciaa
open Go VX
open Go.IntKind (i64 u8 u16)
theorem pPoke_keep (p:Pic) (L:List Sprite) (a b:Int):(pPoke p L a b).line = p.line ∧ (pPoke p L a b).dot = p.dot ∧ (pPoke p L a b).odd = p.odd ∧ (pPoke p L a b).frames = p.frames ∧ (pPoke p L a b).screen = p.screen:=by
 unfold pPoke;repeat' split
 all_goals exact ⟨rfl,rfl,rfl,rfl,rfl⟩
theorem pPut_keep (p:Pic) (L:List Sprite) (reg b:Int):(pPut p L reg b).line = p.line ∧ (pPut p L reg b).dot = p.dot ∧ (pPut p L reg b).odd = p.odd ∧ (pPut p L reg b).frames = p.frames ∧ (pPut p L reg b).screen = p.screen:=by
 unfold pPut;repeat' split
 all_goals first | exact ⟨rfl,rfl,rfl,rfl,rfl⟩ | exact pPoke_keep _ _ _ _
theorem rPut_keep (r:RPic) (M N S:Nat → Int) (C:List Man) (reg b:Int):(rPut r M N S C reg b).1.Line = r.Line ∧ (rPut r M N S C reg b).1.Dot = r.Dot ∧ (rPut r M N S C reg b).1.Begun = r.Begun ∧ (rPut r M N S C reg b).1.Done = r.Done:=by
 unfold rPut;repeat' split
 all_goals exact ⟨rfl,rfl,rfl,rfl⟩
theorem upd_rng {f:Nat → Int} (w:∀ j,rng 256 (f j)) (i:Nat) {v:Int} (wv:rng 256 v):∀ j,rng 256 (upd f i v j):=by
 intro j;unfold upd
 cases Nat.beq j i
 ·exact w j
 ·exact wv
theorem u8_rng (x:Int):rng 256 (u8.wrap x):=rng_wrap_u8 x
theorem rPoke_rng {r:RPic} {M N S:Nat → Int} {C:List Man} (w:∀ j,rng 256 (M j)) (a b:Int):∀ j,rng 256 (rPoke r M N S C a b j):=by
 unfold rPoke;split
 ·exact upd_rng w _ (u8_rng _)
 ·exact upd_rng w _ (u8_rng _)
theorem rPut_rng {r:RPic} {M N S:Nat → Int} {C:List Man} (w:∀ j,rng 256 (M j)) (wN:∀ j,rng 256 (N j)) (reg b:Int):(∀ j,rng 256 ((rPut r M N S C reg b).2.1 j)) ∧ ∀ j,rng 256 ((rPut r M N S C reg b).2.2 j):=by
 unfold rPut;repeat' split
 all_goals first | exact ⟨w,wN⟩ | exact ⟨w,upd_rng wN _ (u8_rng _)⟩ | exact ⟨rPoke_rng w _ _,wN⟩
theorem pGet_keep (p:Pic) (L:List Sprite) (reg:Int):(pGet p L reg).1.line = p.line ∧ (pGet p L reg).1.dot = p.dot ∧ (pGet p L reg).1.odd = p.odd ∧ (pGet p L reg).1.frames = p.frames ∧ (pGet p L reg).1.screen = p.screen:=by
 unfold pGet;repeat' split
 all_goals first | exact ⟨rfl,rfl,rfl,rfl,rfl⟩ | (unfold pRead;repeat' split)
 all_goals exact ⟨rfl,rfl,rfl,rfl,rfl⟩
theorem rGet_keep (r:RPic) (M N S:Nat → Int) (C:List Man) (reg:Int):(rGet r M N S C reg).1.Line = r.Line ∧ (rGet r M N S C reg).1.Dot = r.Dot ∧ (rGet r M N S C reg).1.Begun = r.Begun ∧ (rGet r M N S C reg).1.Done = r.Done:=by
 unfold rGet;repeat' split
 all_goals exact ⟨rfl,rfl,rfl,rfl⟩
section
variable {p:Pic} {L:List Sprite} {r:RPic} {M N S:Nat → Int} {C:List Man} (b:Both p L r M N S C)
include b
theorem both_poke (a v:Int) (h0:0 ≤ a) (h1:a < 65536) (wv:rng 256 v):Both (pPoke p L a v) L r (rPoke r M N S C a v) N S C:=by
 obtain ⟨k1,k2,k3,k4,k5⟩:=pPoke_keep p L a v
 exact ⟨poke_same b.same a v h0 h1 wv L S C,rPoke_rng b.wM a v,b.wN,by rw [k1];exact b.line,by rw [k2];exact b.dot,by rw [k1];exact b.lb,by rw [k2];exact b.db,by rw [k3];exact b.odd,by rw [k4];exact b.frames,by rw [k5];exact b.screen,b.chosen,b.sok,b.len⟩
theorem both_put (reg v:Int) (wr:rng 256 reg) (wv:rng 256 v):Both (pPut p L reg v) L (rPut r M N S C reg v).1 (rPut r M N S C reg v).2.1 (rPut r M N S C reg v).2.2 S C:=by
 obtain ⟨k1,k2,k3,k4,k5⟩:=pPut_keep p L reg v
 obtain ⟨q1,q2,q3,q4⟩:=rPut_keep r M N S C reg v
 obtain ⟨w1,w2⟩:=rPut_rng (r:=r) (S:=S) (C:=C) b.wM b.wN reg v
 exact ⟨put_same b.same reg v wr wv L S C,w1,w2,by rw [q1,k1];exact b.line,by rw [q2,k2];exact b.dot,by rw [k1];exact b.lb,by rw [k2];exact b.db,by rw [k3,q3];exact b.odd,by rw [k4,q4];exact b.frames,by rw [k5];exact b.screen,b.chosen,b.sok,b.len⟩
theorem both_get (reg:Int):(rGet r M N S C reg).2 = (pGet p L reg).2 ∧ Both (pGet p L reg).1 L (rGet r M N S C reg).1 M N S C:=by
 obtain ⟨e,g⟩:=get_same b.same reg L S C
 obtain ⟨k1,k2,k3,k4,k5⟩:=pGet_keep p L reg
 obtain ⟨q1,q2,q3,q4⟩:=rGet_keep r M N S C reg
 exact ⟨e,g,b.wM,b.wN,by rw [q1,k1];exact b.line,by rw [q2,k2];exact b.dot,by rw [k1];exact b.lb,by rw [k2];exact b.db,by rw [k3,q3];exact b.odd,by rw [k4,q4];exact b.frames,by rw [k5];exact b.screen,b.chosen,b.sok,b.len⟩
theorem both_up (u:Bool):Both (pUpright p L u) L ({ r with Upright:=u }:RPic) M N S C:=by
 have h:=b.same
 exact ⟨⟨pUpright_w p L u h.ok,h.low,h.tiles,h.names,h.colours,h.men,h.man,h.sc,h.control,h.mask,h.flags,h.waits,h.bus,rfl⟩,b.wM,b.wN,b.line,b.dot,b.lb,b.db,b.odd,b.frames,b.screen,b.chosen,b.sok,b.len⟩
end
end Go.Proofs.Ytgnhhnmpeklciaa
namespace Go.Proofs.Ytgnhhnmpeklciaa
open Go VX
open Go.IntKind (i64 u8 u16)
abbrev Ly:=Pic × RPic × (Nat → Int) × (Nat → Int)
def BothY (L:List Sprite) (S:Nat → Int) (C:List Man) (z:Ly):Prop:=Both z.1 L z.2.1 z.2.2.1 z.2.2.2 S C
def pokeY (L:List Sprite) (S:Nat → Int) (C:List Man) (f:Int → Int) (base:Int) (k:Nat) (z:Ly):Ly:=(pPoke z.1 L (base + k) (f k),z.2.1,rPoke z.2.1 z.2.2.1 z.2.2.2 S C (base + k) (f k),z.2.2.2)
def putY (L:List Sprite) (S:Nat → Int) (C:List Man) (f:Int → Int) (k:Nat) (z:Ly):Ly:=
 (pPut z.1 L 4 (f k),(rPut z.2.1 z.2.2.1 z.2.2.2 S C 4 (f k)).1,(rPut z.2.1 z.2.2.1 z.2.2.2 S C 4 (f k)).2.1,(rPut z.2.1 z.2.2.1 z.2.2.2 S C 4 (f k)).2.2)
def upto (g:Nat → Ly → Ly):Nat → Nat → Ly → Ly
 | 0,_,z => z
 | n + 1,k,z => upto g n (k + 1) (g k z)
theorem upto_both {L:List Sprite} {S:Nat → Int} {C:List Man} {g:Nat → Ly → Ly} {top:Nat} (h:∀ k z,k < top → BothY L S C z → BothY L S C (g k z)):∀ (n k:Nat) (z:Ly),n + k ≤ top → BothY L S C z → BothY L S C (upto g n k z)
 | 0,_,_,_,b => b
 | n + 1,k,z,hk,b => upto_both h n (k + 1) _ (by omega) (h k z (by omega) b)
theorem again_rng {N d:Nat} {f:Nat → Int} (w:∀ j,rng 256 (f j)) (i:Int):rng 256 (againF N d f i):=by
 unfold againF;split
 ·exact ⟨by decide,by decide⟩
 ·exact w _
theorem poke_both {L:List Sprite} {S:Nat → Int} {C:List Man} {f:Int → Int} (w:∀ i,rng 256 (f i)) {base:Int} (h0:0 ≤ base) {top:Nat} (h1:base + top < 65536) (k:Nat) (z:Ly) (hk:k < top) (b:BothY L S C z):BothY L S C (pokeY L S C f base k z):=
 both_poke b _ _ (by omega) (by omega) (w _)
theorem put_both {L:List Sprite} {S:Nat → Int} {C:List Man} {f:Int → Int} (w:∀ i,rng 256 (f i)) (k:Nat) (z:Ly) (b:BothY L S C z):BothY L S C (putY L S C f k z):=
 both_put b 4 _ ⟨by decide,by decide⟩ (w _)
theorem put_eq_poke {a b:Int} (h0:0 ≤ a) (h1:a < 65536) (w:rng 256 b) (p:Pic) (r:RPic) (M N S:Nat → Int) (L:List Sprite) (C:List Man):putF a b p r M N S L C = (pPoke p L a b,rPoke r M N S C a b):=by
 unfold putF;rw [u16w h0 h1,rw256 w]
section
variable (p:Pic) (r:RPic) (rM:Nat → Int) (rN:Nat → Int) (rS:Nat → Int) (nTz:Nat) (dTz:Nat) (sTz:Nat → Int) (nNz:Nat) (dNz:Nat) (sNz:Nat → Int) (nKz:Nat) (dKz:Nat) (sKz:Nat → Int) (nMz:Nat) (dMz:Nat) (sMz:Nat → Int) (sUz:Bool) (pC:List Sprite) (rC:List Man) (wTz:∀ j,rng 256 (sTz j)) (wNz:∀ j,rng 256 (sNz j)) (wKz:∀ j,rng 256 (sKz j)) (wMz:∀ j,rng 256 (sMz j))
def layT (sTz:Int → Int) (sNz:Int → Int) (sKz:Int → Int) (sMz:Int → Int) (S:Nat → Int) (L:List Sprite) (C:List Man) (z:Ly):Ly:=
 upto (putY L S C sMz) 256 0 (upto (pokeY L S C sKz 16128) 32 0 (upto (pokeY L S C sNz 8192) 4096 0 (upto (pokeY L S C sTz 0) 8192 0 z)))
def layF (p:Pic) (r:RPic) (rM:Nat → Int) (rN:Nat → Int) (rS:Nat → Int) (nTz:Nat) (dTz:Nat) (sTz:Nat → Int) (nNz:Nat) (dNz:Nat) (sNz:Nat → Int) (nKz:Nat) (dKz:Nat) (sKz:Nat → Int) (nMz:Nat) (dMz:Nat) (sMz:Nat → Int) (sUz:Bool) (pC:List Sprite) (rC:List Man):Ly:=layT (againF nTz dTz sTz) (againF nNz dNz sNz) (againF nKz dKz sKz) (againF nMz dMz sMz) rS pC rC (pUpright p pC sUz,{ r with Upright:=sUz },rM,rN)
theorem pokeY_keep (L:List Sprite) (S:Nat → Int) (C:List Man) (f:Int → Int) (base:Int):∀ (n k:Nat) (z:Ly),(upto (pokeY L S C f base) n k z).2.1 = z.2.1 ∧ (upto (pokeY L S C f base) n k z).2.2.2 = z.2.2.2
 | 0,_,_ => ⟨rfl,rfl⟩
 | n + 1,k,z => by
  have:=pokeY_keep L S C f base n (k + 1) (pokeY L S C f base k z)
  exact this
include wTz in
theorem lay_l1:∀ (n k:Nat) (z:Ly),n + k = 8192 → z.2.2.2 = rN → LoopR (qlL1 p rM rN rS nTz dTz sTz nNz dNz sNz nKz dKz sKz nMz dMz sMz sUz pC rC) ((k:Int),z.1,z.2.1,z.2.2.1) (8192,(upto (pokeY pC rS rC (againF nTz dTz sTz) 0) n k z).1,(upto (pokeY pC rS rC (againF nTz dTz sTz) 0) n k z).2.1,(upto (pokeY pC rS rC (againF nTz dTz sTz) 0) n k z).2.2.1)
 | 0,k,z,hk,hN => by
  have:k = 8192:=by omega
  subst this
  exact .last (.p2 (decide_eq_false (by simp)))
 | n + 1,k,z,hk,hN => by
  have st:=qlL1.p1 (p:=p) (rM:=rM) (rN:=rN) (rS:=rS) (nTz:=nTz) (dTz:=dTz) (sTz:=sTz) (nNz:=nNz) (dNz:=dNz) (sNz:=sNz) (nKz:=nKz) (dKz:=dKz) (sKz:=sKz) (nMz:=nMz) (dMz:=dMz) (sMz:=sMz) (sUz:=sUz) (pC:=pC) (rC:=rC) (xd:=((k:Int),z.1,z.2.1,z.2.2.1)) (decide_eq_true (by show (k:Int) < 8192;omega)) wTz (by show 0 ≤ (k:Int);omega)
  have hw:i64.wrap ((k:Int) + 1) = ((k + 1:Nat):Int):=by rw [w64 (by omega) (by omega)];omega
  have ep:=put_eq_poke (a:=(k:Int)) (b:=againF nTz dTz sTz k) (by omega) (by omega) (again_rng wTz _) z.1 z.2.1 z.2.2.1 rN rS pC rC
  simp only [hw,ep] at st
  have ih:=lay_l1 n (k + 1) (pokeY pC rS rC (againF nTz dTz sTz) 0 k z) (by omega) hN
  refine .more st ?_
  have e0:(0:Int) + (k:Int) = k:=by omega
  simp only [upto]
  unfold pokeY at ih ⊢
  rw [e0,hN] at ih ⊢
  exact ih
include wNz in
theorem lay_l2 (r1:Int × Pic × RPic × (Nat → Int)):∀ (n k:Nat) (z:Ly),n + k = 4096 → z.2.2.2 = rN → z.2.1 = r1.2.2.1 → LoopR (qlL2 p r rM rN rS nTz dTz sTz nNz dNz sNz nKz dKz sKz nMz dMz sMz sUz pC rC r1) ((k:Int),z.1,z.2.2.1) (4096,(upto (pokeY pC rS rC (againF nNz dNz sNz) 8192) n k z).1,(upto (pokeY pC rS rC (againF nNz dNz sNz) 8192) n k z).2.2.1)
 | 0,k,z,hk,hN,hR => by
  have:k = 4096:=by omega
  subst this
  exact .last (.p2 (decide_eq_false (by simp)))
 | n + 1,k,z,hk,hN,hR => by
  have hb:i64.wrap (8192 + (k:Int)) = 8192 + (k:Int):=w64 (by omega) (by omega)
  have st:=qlL2.p1 (p:=p) (r:=r) (rM:=rM) (rN:=rN) (rS:=rS) (nTz:=nTz) (dTz:=dTz) (sTz:=sTz) (nNz:=nNz) (dNz:=dNz) (sNz:=sNz) (nKz:=nKz) (dKz:=dKz) (sKz:=sKz) (nMz:=nMz) (dMz:=dMz) (sMz:=sMz) (sUz:=sUz) (pC:=pC) (rC:=rC) (r1:=r1) (xd:=((k:Int),z.1,z.2.2.1)) (decide_eq_true (by show (k:Int) < 4096;omega)) wNz (by show 0 ≤ (k:Int);omega) (by show 0 ≤ i64.wrap (8192 + (k:Int));rw [hb];omega)
  have hw:i64.wrap ((k:Int) + 1) = ((k + 1:Nat):Int):=by rw [w64 (by omega) (by omega)];omega
  have ep:=put_eq_poke (a:=8192 + (k:Int)) (b:=againF nNz dNz sNz k) (by omega) (by omega) (again_rng wNz _) z.1 r1.2.2.1 z.2.2.1 rN rS pC rC
  simp only [hw,hb,ep] at st
  have ih:=lay_l2 r1 n (k + 1) (pokeY pC rS rC (againF nNz dNz sNz) 8192 k z) (by omega) hN hR
  refine .more st ?_
  simp only [upto]
  unfold pokeY at ih ⊢
  rw [hN,hR] at ih ⊢
  exact ih
include wKz in
theorem lay_l3 (r1:Int × Pic × RPic × (Nat → Int)) (r2:Int × Pic × (Nat → Int)):∀ (n k:Nat) (z:Ly),n + k = 32 → z.2.2.2 = rN → z.2.1 = r1.2.2.1 → LoopR (qlL3 p r rM rN rS nTz dTz sTz nNz dNz sNz nKz dKz sKz nMz dMz sMz sUz pC rC r1 r2) ((k:Int),z.1,z.2.2.1) (32,(upto (pokeY pC rS rC (againF nKz dKz sKz) 16128) n k z).1,(upto (pokeY pC rS rC (againF nKz dKz sKz) 16128) n k z).2.2.1)
 | 0,k,z,hk,hN,hR => by
  have:k = 32:=by omega
  subst this
  exact .last (.p2 (decide_eq_false (by simp)))
 | n + 1,k,z,hk,hN,hR => by
  have hb:i64.wrap (16128 + (k:Int)) = 16128 + (k:Int):=w64 (by omega) (by omega)
  have st:=qlL3.p1 (p:=p) (r:=r) (rM:=rM) (rN:=rN) (rS:=rS) (nTz:=nTz) (dTz:=dTz) (sTz:=sTz) (nNz:=nNz) (dNz:=dNz) (sNz:=sNz) (nKz:=nKz) (dKz:=dKz) (sKz:=sKz) (nMz:=nMz) (dMz:=dMz) (sMz:=sMz) (sUz:=sUz) (pC:=pC) (rC:=rC) (r1:=r1) (r2:=r2) (xd:=((k:Int),z.1,z.2.2.1)) (decide_eq_true (by show (k:Int) < 32;omega)) wKz (by show 0 ≤ (k:Int);omega) (by show 0 ≤ i64.wrap (16128 + (k:Int));rw [hb];omega)
  have hw:i64.wrap ((k:Int) + 1) = ((k + 1:Nat):Int):=by rw [w64 (by omega) (by omega)];omega
  have ep:=put_eq_poke (a:=16128 + (k:Int)) (b:=againF nKz dKz sKz k) (by omega) (by omega) (again_rng wKz _) z.1 r1.2.2.1 z.2.2.1 rN rS pC rC
  simp only [hw,hb,ep] at st
  have ih:=lay_l3 r1 r2 n (k + 1) (pokeY pC rS rC (againF nKz dKz sKz) 16128 k z) (by omega) hN hR
  refine .more st ?_
  simp only [upto]
  unfold pokeY at ih ⊢
  rw [hN,hR] at ih ⊢
  exact ih
include wMz in
theorem lay_l4 (r1:Int × Pic × RPic × (Nat → Int)) (r2:Int × Pic × (Nat → Int)) (r3:Int × Pic × (Nat → Int)):∀ (n k:Nat) (z:Ly),n + k = 256 → BothY pC rS rC z → LoopR (qlL4 p r rM rN rS nTz dTz sTz nNz dNz sNz nKz dKz sKz nMz dMz sMz sUz pC rC r1 r2 r3) ((k:Int),z.1,z.2.1,z.2.2.1,z.2.2.2) (256,(upto (putY pC rS rC (againF nMz dMz sMz)) n k z).1,(upto (putY pC rS rC (againF nMz dMz sMz)) n k z).2.1,(upto (putY pC rS rC (againF nMz dMz sMz)) n k z).2.2.1,(upto (putY pC rS rC (againF nMz dMz sMz)) n k z).2.2.2)
 | 0,k,z,hk,b => by
  have:k = 256:=by omega
  subst this
  exact .last (.p2 (decide_eq_false (by simp)))
 | n + 1,k,z,hk,b => by
  have hm:0 ≤ z.2.1.At ∧ z.2.1.At < ((256:Nat):Int):=by rw [b.same.man];exact ⟨b.same.ok.man.1,b.same.ok.man.2⟩
  have hv:0 ≤ rBits z.2.1.S.V:=by rw [bits_same b.same];exact b.same.sc.good.v0
  have st:=qlL4.p1 (p:=p) (r:=r) (rM:=rM) (rN:=rN) (rS:=rS) (nTz:=nTz) (dTz:=dTz) (sTz:=sTz) (nNz:=nNz) (dNz:=dNz) (sNz:=sNz) (nKz:=nKz) (dKz:=dKz) (sKz:=sKz) (nMz:=nMz) (dMz:=dMz) (sMz:=sMz) (sUz:=sUz) (pC:=pC) (rC:=rC) (r1:=r1) (r2:=r2) (r3:=r3) (xd:=((k:Int),z.1,z.2.1,z.2.2.1,z.2.2.2)) (decide_eq_true (by show (k:Int) < 256;omega)) wMz (by show 0 ≤ (k:Int);omega) b.same.ok hm hv
  have hw:i64.wrap ((k:Int) + 1) = ((k + 1:Nat):Int):=by rw [w64 (by omega) (by omega)];omega
  simp only [hw,rw256 (again_rng (N:=nMz) (d:=dMz) wMz _)] at st
  exact .more st (lay_l4 r1 r2 r3 n (k + 1) (putY pC rS rC (againF nMz dMz sMz) k z) (by omega) (put_both (again_rng wMz) k z b))
include wTz wNz wKz wMz in
theorem lay_both (b:Both p pC r rM rN rS rC):BothY pC rS rC (upto (pokeY pC rS rC (againF nKz dKz sKz) 16128) 32 0 (upto (pokeY pC rS rC (againF nNz dNz sNz) 8192) 4096 0 (upto (pokeY pC rS rC (againF nTz dTz sTz) 0) 8192 0 (pUpright p pC sUz,{ r with Upright:=sUz },rM,rN)))) ∧ BothY pC rS rC (layF p r rM rN rS nTz dTz sTz nNz dNz sNz nKz dKz sKz nMz dMz sMz sUz pC rC):=by
 have b0:BothY pC rS rC (pUpright p pC sUz,{ r with Upright:=sUz },rM,rN):=both_up b sUz
 have b1:=upto_both (top:=8192) (fun k z hk => poke_both (again_rng (N:=nTz) (d:=dTz) wTz) (base:=0) (by decide) (top:=8192) (by decide) k z hk) 8192 0 _ (by decide) b0
 have b2:=upto_both (top:=4096) (fun k z hk => poke_both (again_rng (N:=nNz) (d:=dNz) wNz) (base:=8192) (by decide) (top:=4096) (by decide) k z hk) 4096 0 _ (by decide) b1
 have b3:=upto_both (top:=32) (fun k z hk => poke_both (again_rng (N:=nKz) (d:=dKz) wKz) (base:=16128) (by decide) (top:=32) (by decide) k z hk) 32 0 _ (by decide) b2
 exact ⟨b3,upto_both (top:=256) (fun k z _ => put_both (again_rng (N:=nMz) (d:=dMz) wMz) k z) 256 0 _ (by decide) b3⟩
end
theorem lay_fin (p:Pic) (r:RPic) (rM:Nat → Int) (rN:Nat → Int) (rS:Nat → Int) (nTz:Nat) (dTz:Nat) (sTz:Nat → Int) (nNz:Nat) (dNz:Nat) (sNz:Nat → Int) (nKz:Nat) (dKz:Nat) (sKz:Nat → Int) (nMz:Nat) (dMz:Nat) (sMz:Nat → Int) (sUz:Bool) (pC:List Sprite) (rC:List Man) (z1 z2 z3 z4:Ly)
  (l1:LoopR (qlL1 p rM rN rS nTz dTz sTz nNz dNz sNz nKz dKz sKz nMz dMz sMz sUz pC rC) (0,pUpright p pC sUz,({ r with Upright:=sUz }:RPic),rM) (8192,z1.1,z1.2.1,z1.2.2.1))
  (l2:LoopR (qlL2 p r rM rN rS nTz dTz sTz nNz dNz sNz nKz dKz sKz nMz dMz sMz sUz pC rC (8192,z1.1,z1.2.1,z1.2.2.1)) (0,z1.1,z1.2.2.1) (4096,z2.1,z2.2.2.1))
  (l3:LoopR (qlL3 p r rM rN rS nTz dTz sTz nNz dNz sNz nKz dKz sKz nMz dMz sMz sUz pC rC (8192,z1.1,z1.2.1,z1.2.2.1) (4096,z2.1,z2.2.2.1)) (0,z2.1,z2.2.2.1) (32,z3.1,z3.2.2.1))
  (l4:LoopR (qlL4 p r rM rN rS nTz dTz sTz nNz dNz sNz nKz dKz sKz nMz dMz sMz sUz pC rC (8192,z1.1,z1.2.1,z1.2.2.1) (4096,z2.1,z2.2.2.1) (32,z3.1,z3.2.2.1)) (0,z3.1,z1.2.1,z3.2.2.1,rN) (256,z4.1,z4.2.1,z4.2.2.1,z4.2.2.2)):FnSpec Try.prog 28 1011 [pt 1000,pt 1001,.agg ⟨[sd 1005 dTz nTz,sd 1006 dNz nNz,sd 1007 dKz nKz,sd 1008 dMz nMz,.bool sUz]⟩] [(1000,(Pic.bl p (sl 1009 (List.length pC) 5) false)),(1001,(RPic.bl r (sl 1002 16384 1) (sl 1003 256 1) (sl 1010 (List.length rC) 4) (sl 1004 61440 1) false)),(1002,iB 16384 rM false),(1003,iB 256 rN false),(1004,iB 61440 rS false),(1009,sB pC false),(1010,mB rC false),(1005,gB dTz nTz sTz),(1006,gB dNz nNz sNz),(1007,gB dKz nKz sKz),(1008,gB dMz nMz sMz)] (.tuple ⟨[]⟩) [(1000,(Pic.bl (z4.1) (sl 1009 (List.length pC) 5) false)),(1001,(RPic.bl (z4.2.1) (sl 1002 16384 1) (sl 1003 256 1) (sl 1010 (List.length rC) 4) (sl 1004 61440 1) false)),(1002,iB 16384 (z4.2.2.1) false),(1003,iB 256 (z4.2.2.2) false),(1004,iB 61440 rS false),(1009,sB pC false),(1010,mB rC false)]:=
 wLay_p1 p r rM rN rS nTz dTz sTz nNz dNz sNz nKz dKz sKz nMz dMz sMz sUz pC rC _ l1 _ l2 _ l3 _ l4
theorem lay_mid (p:Pic) (r:RPic) (rM:Nat → Int) (rN:Nat → Int) (rS:Nat → Int) (nTz:Nat) (dTz:Nat) (sTz:Nat → Int) (nNz:Nat) (dNz:Nat) (sNz:Nat → Int) (nKz:Nat) (dKz:Nat) (sKz:Nat → Int) (nMz:Nat) (dMz:Nat) (sMz:Nat → Int) (sUz:Bool) (pC:List Sprite) (rC:List Man) (wTz:∀ j,rng 256 (sTz j)) (wNz:∀ j,rng 256 (sNz j)) (wKz:∀ j,rng 256 (sKz j)) (wMz:∀ j,rng 256 (sMz j)) (b:Both p pC r rM rN rS rC) (z1 z2 z3 z4:Ly) (h1:upto (pokeY pC rS rC (againF nTz dTz sTz) 0) 8192 0 (pUpright p pC sUz,{ r with Upright:=sUz },rM,rN) = z1)
  (h2:upto (pokeY pC rS rC (againF nNz dNz sNz) 8192) 4096 0 z1 = z2) (h3:upto (pokeY pC rS rC (againF nKz dKz sKz) 16128) 32 0 z2 = z3)
  (h4:upto (putY pC rS rC (againF nMz dMz sMz)) 256 0 z3 = z4):FnSpec Try.prog 28 1011 [pt 1000,pt 1001,.agg ⟨[sd 1005 dTz nTz,sd 1006 dNz nNz,sd 1007 dKz nKz,sd 1008 dMz nMz,.bool sUz]⟩] [(1000,(Pic.bl p (sl 1009 (List.length pC) 5) false)),(1001,(RPic.bl r (sl 1002 16384 1) (sl 1003 256 1) (sl 1010 (List.length rC) 4) (sl 1004 61440 1) false)),(1002,iB 16384 rM false),(1003,iB 256 rN false),(1004,iB 61440 rS false),(1009,sB pC false),(1010,mB rC false),(1005,gB dTz nTz sTz),(1006,gB dNz nNz sNz),(1007,gB dKz nKz sKz),(1008,gB dMz nMz sMz)] (.tuple ⟨[]⟩) [(1000,(Pic.bl (z4.1) (sl 1009 (List.length pC) 5) false)),(1001,(RPic.bl (z4.2.1) (sl 1002 16384 1) (sl 1003 256 1) (sl 1010 (List.length rC) 4) (sl 1004 61440 1) false)),(1002,iB 16384 (z4.2.2.1) false),(1003,iB 256 (z4.2.2.2) false),(1004,iB 61440 rS false),(1009,sB pC false),(1010,mB rC false)]:=by
 have l1:=lay_l1 p rM rN rS nTz dTz sTz nNz dNz sNz nKz dKz sKz nMz dMz sMz sUz pC rC wTz 8192 0 (pUpright p pC sUz,{ r with Upright:=sUz },rM,rN) rfl rfl
 have b3:=(lay_both p r rM rN rS nTz dTz sTz nNz dNz sNz nKz dKz sKz nMz dMz sMz sUz pC rC wTz wNz wKz wMz b).1
 have k0:=pokeY_keep pC rS rC (againF nTz dTz sTz) 0 8192 0 (pUpright p pC sUz,{ r with Upright:=sUz },rM,rN)
 rw [h1] at l1 k0
 rw [h1,h2,h3] at b3
 have k1:=pokeY_keep pC rS rC (againF nNz dNz sNz) 8192 4096 0 z1
 have l2:=lay_l2 p r rM rN rS nTz dTz sTz nNz dNz sNz nKz dKz sKz nMz dMz sMz sUz pC rC wNz (8192,z1.1,z1.2.1,z1.2.2.1) 4096 0 z1 rfl k0.2 rfl
 rw [h2] at l2 k1
 have k2:=pokeY_keep pC rS rC (againF nKz dKz sKz) 16128 32 0 z2
 have l3:=lay_l3 p r rM rN rS nTz dTz sTz nNz dNz sNz nKz dKz sKz nMz dMz sMz sUz pC rC wKz (8192,z1.1,z1.2.1,z1.2.2.1) (4096,z2.1,z2.2.2.1) 32 0 z2 rfl (k1.2.trans k0.2) k1.1
 rw [h3] at l3 k2
 have l4:=lay_l4 p r rM rN rS nTz dTz sTz nNz dNz sNz nKz dKz sKz nMz dMz sMz sUz pC rC wMz (8192,z1.1,z1.2.1,z1.2.2.1) (4096,z2.1,z2.2.2.1) (32,z3.1,z3.2.2.1) 256 0 z3 rfl b3
 rw [h4] at l4
 have e1:z3.2.1 = z1.2.1:=k2.1.trans k1.1
 have e2:z3.2.2.2 = rN:=k2.2.trans (k1.2.trans k0.2)
 rw [e1,e2] at l4
 exact lay_fin p r rM rN rS nTz dTz sTz nNz dNz sNz nKz dKz sKz nMz dMz sMz sUz pC rC z1 z2 z3 z4 l1 l2 l3 l4
theorem layF_ok (p:Pic) (r:RPic) (rM:Nat → Int) (rN:Nat → Int) (rS:Nat → Int) (nTz:Nat) (dTz:Nat) (sTz:Nat → Int) (nNz:Nat) (dNz:Nat) (sNz:Nat → Int) (nKz:Nat) (dKz:Nat) (sKz:Nat → Int) (nMz:Nat) (dMz:Nat) (sMz:Nat → Int) (sUz:Bool) (pC:List Sprite) (rC:List Man) (wTz:∀ j,rng 256 (sTz j)) (wNz:∀ j,rng 256 (sNz j)) (wKz:∀ j,rng 256 (sKz j)) (wMz:∀ j,rng 256 (sMz j)) (b:Both p pC r rM rN rS rC):FnSpec Try.prog 28 1011 [pt 1000,pt 1001,.agg ⟨[sd 1005 dTz nTz,sd 1006 dNz nNz,sd 1007 dKz nKz,sd 1008 dMz nMz,.bool sUz]⟩] [(1000,(Pic.bl p (sl 1009 (List.length pC) 5) false)),(1001,(RPic.bl r (sl 1002 16384 1) (sl 1003 256 1) (sl 1010 (List.length rC) 4) (sl 1004 61440 1) false)),(1002,iB 16384 rM false),(1003,iB 256 rN false),(1004,iB 61440 rS false),(1009,sB pC false),(1010,mB rC false),(1005,gB dTz nTz sTz),(1006,gB dNz nNz sNz),(1007,gB dKz nKz sKz),(1008,gB dMz nMz sMz)] (.tuple ⟨[]⟩) [(1000,(Pic.bl ((layF p r rM rN rS nTz dTz sTz nNz dNz sNz nKz dKz sKz nMz dMz sMz sUz pC rC).1) (sl 1009 (List.length pC) 5) false)),(1001,(RPic.bl ((layF p r rM rN rS nTz dTz sTz nNz dNz sNz nKz dKz sKz nMz dMz sMz sUz pC rC).2.1) (sl 1002 16384 1) (sl 1003 256 1) (sl 1010 (List.length rC) 4) (sl 1004 61440 1) false)),(1002,⟨[.ints .u8 16384 ((layF p r rM rN rS nTz dTz sTz nNz dNz sNz nKz dKz sKz nMz dMz sMz sUz pC rC).2.2.1)],5,false⟩),(1003,⟨[.ints .u8 256 ((layF p r rM rN rS nTz dTz sTz nNz dNz sNz nKz dKz sKz nMz dMz sMz sUz pC rC).2.2.2)],5,false⟩),(1004,iB 61440 rS false),(1009,sB pC false),(1010,mB rC false)]:=lay_mid p r rM rN rS nTz dTz sTz nNz dNz sNz nKz dKz sKz nMz dMz sMz sUz pC rC wTz wNz wKz wMz b _ _ _ _ rfl rfl rfl rfl
end Go.Proofs.Ytgnhhnmpeklciaa
namespace Go.Proofs.Ytgnhhnmpeklciaa
open Go VX
theorem layF_let (p:Pic) (r:RPic) (rM:Nat → Int) (rN:Nat → Int) (rS:Nat → Int) (nTz:Nat) (dTz:Nat) (sTz:Nat → Int) (nNz:Nat) (dNz:Nat) (sNz:Nat → Int) (nKz:Nat) (dKz:Nat) (sKz:Nat → Int) (nMz:Nat) (dMz:Nat) (sMz:Nat → Int) (sUz:Bool) (pC:List Sprite) (rC:List Man) (wTz:∀ j,rng 256 (sTz j)) (wNz:∀ j,rng 256 (sNz j)) (wKz:∀ j,rng 256 (sKz j)) (wMz:∀ j,rng 256 (sMz j)) (b:Both p pC r rM rN rS rC) (z_:Ly) (ez_:z_ = layF p r rM rN rS nTz dTz sTz nNz dNz sNz nKz dKz sKz nMz dMz sMz sUz pC rC):FnSpec Try.prog 28 1011 [pt 1000,pt 1001,.agg ⟨[sd 1005 dTz nTz,sd 1006 dNz nNz,sd 1007 dKz nKz,sd 1008 dMz nMz,.bool sUz]⟩] [(1000,(Pic.bl p (sl 1009 (List.length pC) 5) false)),(1001,(RPic.bl r (sl 1002 16384 1) (sl 1003 256 1) (sl 1010 (List.length rC) 4) (sl 1004 61440 1) false)),(1002,iB 16384 rM false),(1003,iB 256 rN false),(1004,iB 61440 rS false),(1009,sB pC false),(1010,mB rC false),(1005,gB dTz nTz sTz),(1006,gB dNz nNz sNz),(1007,gB dKz nKz sKz),(1008,gB dMz nMz sMz)] (.tuple ⟨[]⟩) [(1000,(Pic.bl z_.1 (sl 1009 (List.length pC) 5) false)),(1001,(RPic.bl z_.2.1 (sl 1002 16384 1) (sl 1003 256 1) (sl 1010 (List.length rC) 4) (sl 1004 61440 1) false)),(1002,⟨[.ints .u8 16384 z_.2.2.1],5,false⟩),(1003,⟨[.ints .u8 256 z_.2.2.2],5,false⟩),(1004,iB 61440 rS false),(1009,sB pC false),(1010,mB rC false)]:=by
 rw [ez_];exact layF_ok p r rM rN rS nTz dTz sTz nNz dNz sNz nKz dKz sKz nMz dMz sMz sUz pC rC wTz wNz wKz wMz b
theorem both_let (p:Pic) (r:RPic) (rM:Nat → Int) (rN:Nat → Int) (rS:Nat → Int) (reg:Int) (b:Int) (pC:List Sprite) (rC:List Man) (w_p:Pic.ok p) (hA:0 ≤ r.At ∧ r.At < ((256:Nat):Int)) (hV:0 ≤ rBits r.S.V) (z_:Pic × RPic × (Nat → Int) × (Nat → Int)) (ez_:z_ = both p r rM rN rS reg b pC rC):FnSpec Try.prog 16 1007 [pt 1000,pt 1001,.int .u8 reg,.int .u8 b] [(1000,(Pic.bl p (sl 1005 (List.length pC) 5) false)),(1001,(RPic.bl r (sl 1002 16384 1) (sl 1003 256 1) (sl 1006 (List.length rC) 4) (sl 1004 61440 1) false)),(1002,iB 16384 rM false),(1003,iB 256 rN false),(1004,iB 61440 rS false),(1005,sB pC false),(1006,mB rC false)] (.tuple ⟨[]⟩) [(1000,(Pic.bl z_.1 (sl 1005 (List.length pC) 5) false)),(1001,(RPic.bl z_.2.1 (sl 1002 16384 1) (sl 1003 256 1) (sl 1006 (List.length rC) 4) (sl 1004 61440 1) false)),(1002,⟨[.ints .u8 16384 z_.2.2.1],5,false⟩),(1003,⟨[.ints .u8 256 z_.2.2.2],5,false⟩),(1004,iB 61440 rS false),(1005,sB pC false),(1006,mB rC false)]:=by
 rw [ez_];exact both_ok p r rM rN rS reg b pC rC w_p hA hV
theorem stepF_let (p:Pic) (r:RPic) (rM:Nat → Int) (rN:Nat → Int) (rS:Nat → Int) (n:Int) (pC:List Sprite) (rC:List Man) (b:Both p pC r rM rN rS rC) (hn:0 ≤ n ∧ n < 1000000000) (z_:St) (ez_:z_ = stepF p r rM rN rS n pC rC):FnSpec Try.prog 29 1007 [pt 1000,pt 1001,.int .i64 n] [(1000,(Pic.bl p (sl 1005 (List.length pC) 5) false)),(1001,(RPic.bl r (sl 1002 16384 1) (sl 1003 256 1) (sl 1006 (List.length rC) 4) (sl 1004 61440 1) false)),(1002,iB 16384 rM false),(1003,iB 256 rN false),(1004,iB 61440 rS false),(1005,sB pC false),(1006,mB rC false)] (.bool true) [(1000,(Pic.bl z_.1 (sl 1007 (List.length z_.2.2.2.1) 5) false)),(1001,(RPic.bl z_.2.1 (sl 1002 16384 1) (sl 1003 256 1) (sl 1008 (List.length z_.2.2.2.2) 4) (sl 1004 61440 1) false)),(1002,iB 16384 rM false),(1003,iB 256 rN false),(1004,⟨[.ints .u8 61440 z_.2.2.1],5,false⟩),(1007,⟨[rowsL Sprite.cells Sprite.nil 5 z_.2.2.2.1],92,false⟩),(1008,⟨[rowsL Man.cells Man.nil 4 z_.2.2.2.2],119,false⟩)]:=by
 rw [ez_];exact stepF_ok p r rM rN rS n pC rC b hn
end Go.Proofs.Ytgnhhnmpeklciaa
namespace Go.Proofs.Ytgnhhnmpeklciaa
open Go VX
structure Act where
 Do:Int
 Reg:Int
 B:Int
 At:Int
 N:Int
def Act.enc (s:Act):Value:=.agg ⟨[.int .u8 s.Do,.int .u8 s.Reg,.int .u8 s.B,.int .u16 s.At,.int .u16 s.N]⟩
def Act.blk (s:Act):Blk:=⟨[.one (.int .u8 s.Do),.one (.int .u8 s.Reg),.one (.int .u8 s.B),.one (.int .u16 s.At),.one (.int .u16 s.N)],50,false⟩
def Act.cells (s:Act):List Value:=[.int .u8 s.Do,.int .u8 s.Reg,.int .u8 s.B,.int .u16 s.At,.int .u16 s.N]
structure Act.ok (s:Act):Prop where
 Do:rng 256 s.Do
 Reg:rng 256 s.Reg
 B:rng 256 s.B
 At:rng 65536 s.At
 N:rng 65536 s.N
end Go.Proofs.Ytgnhhnmpeklciaa
namespace Go.Proofs.Ytgnhhnmpeklciaa
open Go VX
open Go.IntKind (i64 u8 u16)
inductive wScreen_L1 (p:Pic) (pC:List Sprite) (xd:(List Int) × Int):((List Int) × Int) ⊕ ((List Int) × Int) → Prop
 | p1 (d1:(decide (xd.2 < 240)) = true) (w1d:0 ≤ xd.2) (w2d:(List.length xd.1) + 256 ≤ 1048576):wScreen_L1 p pC xd (.inl ((xd.1 ++ rowL p.screen ((Int.toNat xd.2 * 256) + 0) 256),(i64.wrap (xd.2 + 1))))
 | p2 (d1:(decide (xd.2 < 240)) = false):wScreen_L1 p pC xd (.inr (xd.1,xd.2))
def wScreen_L1_T (p:Pic) (pC:List Sprite) (xd:(List Int) × Int):Tm:=[(0,pt 1000),(2,.slice none 0 0),(3,sl 1003 (List.length xd.1) 1),(8,.int .i64 xd.2)]
def wScreen_L1_H (p:Pic) (pC:List Sprite) (xd:(List Int) × Int):Heap:=[(1000,(Pic.bl p (sl 1001 (List.length pC) 5) false)),(1003,⟨[intsL .u8 xd.1],5,false⟩)]
def wScreen_L1_T1 (p:Pic) (pC:List Sprite) (y_:(List Int) × Int):Tm:=wScreen_L1_T p pC y_
def wScreen_L1_H1 (p:Pic) (pC:List Sprite) (y_:(List Int) × Int):Heap:=wScreen_L1_H p pC y_
def wScreen_L1_ex (_:(List Int) × Int):Ex:=.exit 0
theorem wScreen_L1_p1 (p:Pic) (pC:List Sprite) (xd:(List Int) × Int) (d1:(decide (xd.2 < 240)) = true) (w1d:0 ≤ xd.2) (w2d:(List.length xd.1) + 256 ≤ 1048576):RunsM Try.prog 21 (bodyOf Try.f33 [1,1,1,0,1,0,0]) 1003 (wScreen_L1_T p pC xd) (wScreen_L1_H p pC xd) 1004 .normal (wScreen_L1_T p pC ((xd.1 ++ rowL p.screen ((Int.toNat xd.2 * 256) + 0) 256),(i64.wrap (xd.2 + 1)))) (wScreen_L1_H p pC ((xd.1 ++ rowL p.screen ((Int.toNat xd.2 * 256) + 0) 256),(i64.wrap (xd.2 + 1)))) 1004:=by
 have o1:0 ≤ xd.2 ∧ xd.2 < ((240:Nat):Int):=by first | decide | omega | (simp only [decide_eq_true_eq,decide_eq_false_iff_not,rng,IntKind.wrap_i64,IntKind.wrap_u8,IntKind.wrap_u16] at *;omega)
 exact runsM_of_x hG hM 400 1003 [.yes,.sym,.cut 0 256,.eq 18 (sl 1004 (List.length (xd.1 ++ rowL p.screen ((Int.toNat xd.2 * 256) + 0) 256)) 1),.win [intsL .u8 (xd.1 ++ rowL p.screen ((Int.toNat xd.2 * 256) + 0) 256)]] [(1000,1000),(1001,1001),(1004,1003)] (J d1 (J o1 (J (sl_row 1004 1 xd.1 p.screen ((Int.toNat xd.2 * 256) + 0) 256) (J (behind_row (k:=.u8) xd.1 p.screen ((Int.toNat xd.2 * 256) + 0) 256) (J w2d (J (ints_size .u8 5 false xd.1) (J (y256 (show Int.toNat xd.2 < 240 from by (simp only [decide_eq_true_eq] at *;omega))) trivial))))))) (by kernel_rfl)
theorem wScreen_L1_p2 (p:Pic) (pC:List Sprite) (xd:(List Int) × Int) (d1:(decide (xd.2 < 240)) = false):RunsM Try.prog 21 (bodyOf Try.f33 [1,1,1,0,1,0,0]) 1003 (wScreen_L1_T p pC xd) (wScreen_L1_H p pC xd) 1004 (.exit 0) (wScreen_L1_T1 p pC (xd.1,xd.2)) (wScreen_L1_H1 p pC (xd.1,xd.2)) 1004:=by
 exact runsM_of_x hG hM 400 1003 [.no] [(1000,1000),(1001,1001),(1003,1003)] (J d1 trivial) (by kernel_rfl)
theorem wScreen_L1_runs (p:Pic) (pC:List Sprite) (x_:(List Int) × Int) (y_:(List Int) × Int) (h_:LoopR (wScreen_L1 p pC) x_ y_):RunsM Try.prog 21 (.block 0 (.loop (bodyOf Try.f33 [1,1,1,0,1,0,0]))) 1003 (wScreen_L1_T p pC x_) (wScreen_L1_H p pC x_) 1004 (outOf 0 (wScreen_L1_ex y_)) (wScreen_L1_T1 p pC y_) (wScreen_L1_H1 p pC y_) 1004:=by
 refine block_loopM hG (wScreen_L1 p pC) (wScreen_L1_T p pC) (wScreen_L1_H p pC) wScreen_L1_ex (wScreen_L1_T1 p pC) (wScreen_L1_H1 p pC) ?_ ?_ ?_ x_ y_ h_
 ·intro s r _ hr;cases hr
 ·intro xd y_ hx
  cases hx with
  | p1 d1 w1d w2d => exact wScreen_L1_p1 p pC xd d1 w1d w2d
 ·intro xd y_ hx
  cases hx with
  | p2 d1 => exact wScreen_L1_p2 p pC xd d1
theorem wScreen_p1 (p:Pic) (pC:List Sprite) (r1:(List Int) × Int) (l1:LoopR (wScreen_L1 p pC) (([]:List Int),0) r1):FnSpec Try.prog 33 1002 [pt 1000] [(1000,(Pic.bl p (sl 1001 (List.length pC) 5) false)),(1001,sB pC false)] (sl 1002 (List.length r1.1) 1) [(1000,(Pic.bl p (sl 1001 (List.length pC) 5) false)),(1001,sB pC false),(1002,⟨[intsL .u8 r1.1],5,false⟩)]:=by
 exact fn_ren (v:=sl 1003 (List.length r1.1) 1) (H1:=[(1000,(Pic.bl p (sl 1001 (List.length pC) 5) false)),(1001,sB pC false),(1003,⟨[intsL .u8 r1.1],5,false⟩)]) (fn_of_x hG hM Try.func33 (by kernel_rfl) (by kernel_rfl) 400 [.no,.cut 0 61440,.list [intsL .u8 ([]:List Int)],.segk 1 0 [0,2,3,8] [1000,1002] .normal (wScreen_L1_T1 p pC r1) (wScreen_L1_H1 p pC r1) 1004] (J T0 (J (Eq.refl (0:Int)) (J (Eq.refl (61440:Int)) (J (noughts_nil .u8 61440) (J (runs_of_pre hG (wScreen_L1_runs p pC (([]:List Int),0) r1 l1) [(1000,1000),(1001,1001),(1002,1003)] (T:=[(0,pt 1000),(2,.slice none 0 0),(3,sl 1002 (List.length ([]:List Int)) 1),(8,.int .i64 0)]) (H:=[(1000,(Pic.bl p (sl 1001 (List.length pC) 5) false)),(1002,⟨[intsL .u8 ([]:List Int)],5,false⟩)]) (by kernel_rfl)) trivial))))) (by kernel_rfl)) [(1000,1000),(1001,1001),(1003,1002)] 1003 (by kernel_rfl)
end Go.Proofs.Ytgnhhnmpeklciaa
namespace Go.Proofs.Ytgnhhnmpeklciaa
open Go VX
open Go.IntKind (i64 u8 u16)
def scrL (f:Nat → Int):Nat → List Int
 | 0 => []
 | n + 1 => scrL f n ++ rowL f (n * 256 + 0) 256
theorem scrL_len (f:Nat → Int):∀ n,(scrL f n).length = 256 * n
 | 0 => rfl
 | n + 1 => by show (scrL f n ++ rowL f (n * 256 + 0) 256).length = _;rw [List.length_append,rowL_len,scrL_len f n];omega
def pScreenF (p:Pic) (L:List Sprite):List Int:=scrL p.screen 240
theorem scrL_succ (f:Nat → Int) (k:Nat):scrL f (k + 1) = scrL f k ++ rowL f (Int.toNat (k:Int) * 256 + 0) 256:=by rw [Int.toNat_natCast];rfl
theorem screen_loop (p:Pic) (L:List Sprite):∀ (c k:Nat),k + c = 240 → ∃ r,LoopR (wScreen_L1 p L) (scrL p.screen k,(k:Int)) r ∧ r.1 = scrL p.screen (k + c)
 | 0,k,h => ⟨_,.last (.p2 (decide_eq_false (by show ¬ ((k:Int) < 240);omega))),rfl⟩
 | c + 1,k,h => by
  obtain ⟨r,t,e⟩:=screen_loop p L c (k + 1) (by omega)
  refine ⟨r,.more (s':=(scrL p.screen (k + 1),((k + 1:Nat):Int))) ?_ t,by rw [e,show k + 1 + c = k + (c + 1) by omega]⟩
  have st:=wScreen_L1.p1 (p:=p) (pC:=L) (xd:=(scrL p.screen k,(k:Int))) (decide_eq_true (by show (k:Int) < 240;omega)) (by show 0 ≤ (k:Int);omega) (by show (scrL p.screen k).length + 256 ≤ _;rw [scrL_len];omega)
  rw [show i64.wrap (((scrL p.screen k,(k:Int)):List Int × Int).2 + 1) = ((k + 1:Nat):Int) from by show i64.wrap ((k:Int) + 1) = _;rw [i64_in2 (by omega) (by omega)];omega] at st
  rw [scrL_succ]
  exact st
theorem pScreenF_ok (p:Pic) (pC:List Sprite):FnSpec Try.prog 33 1002 [pt 1000] [(1000,(Pic.bl p (sl 1001 (List.length pC) 5) false)),(1001,sB pC false)] (sl 1002 (List.length (pScreenF p pC)) 1) [(1000,(Pic.bl p (sl 1001 (List.length pC) 5) false)),(1001,sB pC false),(1002,⟨[intsL .u8 (pScreenF p pC)],5,false⟩)]:=
 by
 obtain ⟨r,t,e⟩:=screen_loop p pC 240 0 (by omega)
 have h:=wScreen_p1 p pC r t
 rw [e] at h
 exact h
end Go.Proofs.Ytgnhhnmpeklciaa
namespace Go.Proofs.Ytgnhhnmpeklciaa
open Go VX
open Go.IntKind (i64 u8 u16)
inductive lawPlays_L1y (N_acts:Nat) (d_acts:Nat) (acts:Nat → Act) (xd:(List Sprite) × (List Man) × Int × Bool × Pic × RPic × (Nat → Int) × (Nat → Int) × (Nat → Int)):((List Sprite) × (List Man) × Int × Bool × Pic × RPic × (Nat → Int) × (Nat → Int) × (Nat → Int)) ⊕ ((List Sprite) × (List Man) × Int × Bool × Pic × RPic × (Nat → Int) × (Nat → Int) × (Nat → Int)) → Prop
 | p1 (d1:(decide (xd.2.2.1 < ((N_acts:Nat):Int))) = true) (w9d:0 ≤ xd.2.2.1 ∧ xd.2.2.1 < ((N_acts:Nat):Int)) (d2:(decide (xd.2.2.1 ≥ 30)) = true):lawPlays_L1y N_acts d_acts acts xd (.inr (xd.1,xd.2.1,xd.2.2.1,xd.2.2.2.1,xd.2.2.2.2.1,xd.2.2.2.2.2.1,xd.2.2.2.2.2.2.1,xd.2.2.2.2.2.2.2.1,xd.2.2.2.2.2.2.2.2))
 | p2 (d1:(decide (xd.2.2.1 < ((N_acts:Nat):Int))) = true) (w9d:0 ≤ xd.2.2.1 ∧ xd.2.2.1 < ((N_acts:Nat):Int)) (d2:(decide (xd.2.2.1 ≥ 30)) = false) (d3:((Int.tmod ((acts (Int.toNat xd.2.2.1)).Do) 9) == 3) = true) (w10d:Pic.ok xd.2.2.2.2.1) (w11d:0 ≤ xd.2.2.2.2.2.1.At ∧ xd.2.2.2.2.2.1.At < ((256:Nat):Int)) (w12d:0 ≤ rBits xd.2.2.2.2.2.1.S.V) (d4:((i64.wrap ((pGet xd.2.2.2.2.1 xd.1 ((acts (Int.toNat xd.2.2.1)).Reg)).2)) != (rGet xd.2.2.2.2.2.1 xd.2.2.2.2.2.2.2.1 xd.2.2.2.2.2.2.2.2 xd.2.2.2.2.2.2.1 xd.2.1 (i64.wrap ((acts (Int.toNat xd.2.2.1)).Reg))).2) = false):lawPlays_L1y N_acts d_acts acts xd (.inl (xd.1,xd.2.1,(i64.wrap (xd.2.2.1 + 1)),xd.2.2.2.1,(pGet xd.2.2.2.2.1 xd.1 ((acts (Int.toNat xd.2.2.1)).Reg)).1,(rGet xd.2.2.2.2.2.1 xd.2.2.2.2.2.2.2.1 xd.2.2.2.2.2.2.2.2 xd.2.2.2.2.2.2.1 xd.2.1 (i64.wrap ((acts (Int.toNat xd.2.2.1)).Reg))).1,xd.2.2.2.2.2.2.1,xd.2.2.2.2.2.2.2.1,xd.2.2.2.2.2.2.2.2))
 | p3 (d1:(decide (xd.2.2.1 < ((N_acts:Nat):Int))) = true) (w9d:0 ≤ xd.2.2.1 ∧ xd.2.2.1 < ((N_acts:Nat):Int)) (d2:(decide (xd.2.2.1 ≥ 30)) = false) (d3:((Int.tmod ((acts (Int.toNat xd.2.2.1)).Do) 9) == 3) = false) (d4:((Int.tmod ((acts (Int.toNat xd.2.2.1)).Do) 9) == 4) = true) (w10d:Both xd.2.2.2.2.1 xd.1 xd.2.2.2.2.2.1 xd.2.2.2.2.2.2.2.1 xd.2.2.2.2.2.2.2.2 xd.2.2.2.2.2.2.1 xd.2.1) (w11d:0 ≤ (i64.wrap (Int.tmod ((acts (Int.toNat xd.2.2.1)).N) 1200)) ∧ (i64.wrap (Int.tmod ((acts (Int.toNat xd.2.2.1)).N) 1200)) < 1000000000) (s12d:St) (es12d:s12d = stepF xd.2.2.2.2.1 xd.2.2.2.2.2.1 xd.2.2.2.2.2.2.2.1 xd.2.2.2.2.2.2.2.2 xd.2.2.2.2.2.2.1 (i64.wrap (Int.tmod ((acts (Int.toNat xd.2.2.1)).N) 1200)) xd.1 xd.2.1):lawPlays_L1y N_acts d_acts acts xd (.inl (s12d.2.2.2.1,s12d.2.2.2.2,(i64.wrap (xd.2.2.1 + 1)),xd.2.2.2.1,s12d.1,s12d.2.1,s12d.2.2.1,xd.2.2.2.2.2.2.2.1,xd.2.2.2.2.2.2.2.2))
 | p4 (d1:(decide (xd.2.2.1 < ((N_acts:Nat):Int))) = true) (w9d:0 ≤ xd.2.2.1 ∧ xd.2.2.1 < ((N_acts:Nat):Int)) (d2:(decide (xd.2.2.1 ≥ 30)) = false) (d3:((Int.tmod ((acts (Int.toNat xd.2.2.1)).Do) 9) == 3) = false) (d4:((Int.tmod ((acts (Int.toNat xd.2.2.1)).Do) 9) == 4) = false) (d5:((Int.tmod ((acts (Int.toNat xd.2.2.1)).Do) 9) == 5) = true) (w10d:Both xd.2.2.2.2.1 xd.1 xd.2.2.2.2.2.1 xd.2.2.2.2.2.2.2.1 xd.2.2.2.2.2.2.2.2 xd.2.2.2.2.2.2.1 xd.2.1) (w11d:0 ≤ (i64.wrap (Int.tmod ((acts (Int.toNat xd.2.2.1)).N) 1200)) ∧ (i64.wrap (Int.tmod ((acts (Int.toNat xd.2.2.1)).N) 1200)) < 1000000000) (s12d:St) (es12d:s12d = stepF xd.2.2.2.2.1 xd.2.2.2.2.2.1 xd.2.2.2.2.2.2.2.1 xd.2.2.2.2.2.2.2.2 xd.2.2.2.2.2.2.1 (i64.wrap (Int.tmod ((acts (Int.toNat xd.2.2.1)).N) 1200)) xd.1 xd.2.1):lawPlays_L1y N_acts d_acts acts xd (.inl (s12d.2.2.2.1,s12d.2.2.2.2,(i64.wrap (xd.2.2.1 + 1)),xd.2.2.2.1,s12d.1,s12d.2.1,s12d.2.2.1,xd.2.2.2.2.2.2.2.1,xd.2.2.2.2.2.2.2.2))
 | p5 (d1:(decide (xd.2.2.1 < ((N_acts:Nat):Int))) = true) (w9d:0 ≤ xd.2.2.1 ∧ xd.2.2.1 < ((N_acts:Nat):Int)) (d2:(decide (xd.2.2.1 ≥ 30)) = false) (d3:((Int.tmod ((acts (Int.toNat xd.2.2.1)).Do) 9) == 3) = false) (d4:((Int.tmod ((acts (Int.toNat xd.2.2.1)).Do) 9) == 4) = false) (d5:((Int.tmod ((acts (Int.toNat xd.2.2.1)).Do) 9) == 5) = false) (d6:((Int.tmod ((acts (Int.toNat xd.2.2.1)).Do) 9) == 6) = true) (w10d:0 ≤ (i64.wrap ((acts (Int.toNat xd.2.2.1)).At))):lawPlays_L1y N_acts d_acts acts xd (.inl (xd.1,xd.2.1,(i64.wrap (xd.2.2.1 + 1)),xd.2.2.2.1,(pPoke xd.2.2.2.2.1 xd.1 ((acts (Int.toNat xd.2.2.1)).At) ((acts (Int.toNat xd.2.2.1)).B)),xd.2.2.2.2.2.1,xd.2.2.2.2.2.2.1,(rPoke xd.2.2.2.2.2.1 xd.2.2.2.2.2.2.2.1 xd.2.2.2.2.2.2.2.2 xd.2.2.2.2.2.2.1 xd.2.1 (i64.wrap ((acts (Int.toNat xd.2.2.1)).At)) (i64.wrap ((acts (Int.toNat xd.2.2.1)).B))),xd.2.2.2.2.2.2.2.2))
 | p6 (d1:(decide (xd.2.2.1 < ((N_acts:Nat):Int))) = true) (w9d:0 ≤ xd.2.2.1 ∧ xd.2.2.1 < ((N_acts:Nat):Int)) (d2:(decide (xd.2.2.1 ≥ 30)) = false) (d3:((Int.tmod ((acts (Int.toNat xd.2.2.1)).Do) 9) == 3) = false) (d4:((Int.tmod ((acts (Int.toNat xd.2.2.1)).Do) 9) == 4) = false) (d5:((Int.tmod ((acts (Int.toNat xd.2.2.1)).Do) 9) == 5) = false) (d6:((Int.tmod ((acts (Int.toNat xd.2.2.1)).Do) 9) == 6) = false) (d7:((Int.tmod ((acts (Int.toNat xd.2.2.1)).Do) 9) == 7) = true) (w10d:0 ≤ (i64.wrap ((acts (Int.toNat xd.2.2.1)).At))) (d8:((i64.wrap (pPeek xd.2.2.2.2.1 xd.1 ((acts (Int.toNat xd.2.2.1)).At))) != (rPeek xd.2.2.2.2.2.1 xd.2.2.2.2.2.2.2.1 xd.2.2.2.2.2.2.2.2 xd.2.2.2.2.2.2.1 xd.2.1 (i64.wrap ((acts (Int.toNat xd.2.2.1)).At)))) = false):lawPlays_L1y N_acts d_acts acts xd (.inl (xd.1,xd.2.1,(i64.wrap (xd.2.2.1 + 1)),xd.2.2.2.1,xd.2.2.2.2.1,xd.2.2.2.2.2.1,xd.2.2.2.2.2.2.1,xd.2.2.2.2.2.2.2.1,xd.2.2.2.2.2.2.2.2))
 | p7 (d1:(decide (xd.2.2.1 < ((N_acts:Nat):Int))) = true) (w9d:0 ≤ xd.2.2.1 ∧ xd.2.2.1 < ((N_acts:Nat):Int)) (d2:(decide (xd.2.2.1 ≥ 30)) = false) (d3:((Int.tmod ((acts (Int.toNat xd.2.2.1)).Do) 9) == 3) = false) (d4:((Int.tmod ((acts (Int.toNat xd.2.2.1)).Do) 9) == 4) = false) (d5:((Int.tmod ((acts (Int.toNat xd.2.2.1)).Do) 9) == 5) = false) (d6:((Int.tmod ((acts (Int.toNat xd.2.2.1)).Do) 9) == 6) = false) (d7:((Int.tmod ((acts (Int.toNat xd.2.2.1)).Do) 9) == 7) = false) (d8:((Int.tmod ((acts (Int.toNat xd.2.2.1)).Do) 9) == 8) = true):lawPlays_L1y N_acts d_acts acts xd (.inl (xd.1,xd.2.1,(i64.wrap (xd.2.2.1 + 1)),xd.2.2.2.1,(pUpright xd.2.2.2.2.1 xd.1 ((Int.tmod ((acts (Int.toNat xd.2.2.1)).B) 2) == 1)),({ xd.2.2.2.2.2.1 with Upright:=((Int.tmod ((acts (Int.toNat xd.2.2.1)).B) 2) == 1) }:RPic),xd.2.2.2.2.2.2.1,xd.2.2.2.2.2.2.2.1,xd.2.2.2.2.2.2.2.2))
 | p8 (d1:(decide (xd.2.2.1 < ((N_acts:Nat):Int))) = true) (w9d:0 ≤ xd.2.2.1 ∧ xd.2.2.1 < ((N_acts:Nat):Int)) (d2:(decide (xd.2.2.1 ≥ 30)) = false) (d3:((Int.tmod ((acts (Int.toNat xd.2.2.1)).Do) 9) == 3) = false) (d4:((Int.tmod ((acts (Int.toNat xd.2.2.1)).Do) 9) == 4) = false) (d5:((Int.tmod ((acts (Int.toNat xd.2.2.1)).Do) 9) == 5) = false) (d6:((Int.tmod ((acts (Int.toNat xd.2.2.1)).Do) 9) == 6) = false) (d7:((Int.tmod ((acts (Int.toNat xd.2.2.1)).Do) 9) == 7) = false) (d8:((Int.tmod ((acts (Int.toNat xd.2.2.1)).Do) 9) == 8) = false) (w10d:Pic.ok xd.2.2.2.2.1) (w11d:0 ≤ xd.2.2.2.2.2.1.At ∧ xd.2.2.2.2.2.1.At < ((256:Nat):Int)) (w12d:0 ≤ rBits xd.2.2.2.2.2.1.S.V) (s13d:Pic × RPic × (Nat → Int) × (Nat → Int)) (es13d:s13d = both xd.2.2.2.2.1 xd.2.2.2.2.2.1 xd.2.2.2.2.2.2.2.1 xd.2.2.2.2.2.2.2.2 xd.2.2.2.2.2.2.1 ((acts (Int.toNat xd.2.2.1)).Reg) ((acts (Int.toNat xd.2.2.1)).B) xd.1 xd.2.1):lawPlays_L1y N_acts d_acts acts xd (.inl (xd.1,xd.2.1,(i64.wrap (xd.2.2.1 + 1)),xd.2.2.2.1,s13d.1,s13d.2.1,xd.2.2.2.2.2.2.1,s13d.2.2.1,s13d.2.2.2))
 | p9 (d1:(decide (xd.2.2.1 < ((N_acts:Nat):Int))) = false):lawPlays_L1y N_acts d_acts acts xd (.inr (xd.1,xd.2.1,xd.2.2.1,xd.2.2.2.1,xd.2.2.2.2.1,xd.2.2.2.2.2.1,xd.2.2.2.2.2.2.1,xd.2.2.2.2.2.2.2.1,xd.2.2.2.2.2.2.2.2))
def lawPlays_L1y_T (N_acts:Nat) (d_acts:Nat) (acts:Nat → Act) (xd:(List Sprite) × (List Man) × Int × Bool × Pic × RPic × (Nat → Int) × (Nat → Int) × (Nat → Int)):Tm:=[(6,.bool xd.2.2.2.1),(7,pt 1006),(8,pt 1010),(27,sd 1000 d_acts N_acts),(28,.int .i64 ((N_acts:Nat):Int)),(29,.int .i64 xd.2.2.1)]
def lawPlays_L1y_H (N_acts:Nat) (d_acts:Nat) (acts:Nat → Act) (xd:(List Sprite) × (List Man) × Int × Bool × Pic × RPic × (Nat → Int) × (Nat → Int) × (Nat → Int)):Heap:=[(1000,⟨[.gap d_acts,.rows N_acts 5 (fun i => Act.cells (acts i))],50,true⟩),(1006,(Pic.bl xd.2.2.2.2.1 (sl 1015 (List.length xd.1) 5) false)),(1007,⟨[.ints .u8 16384 xd.2.2.2.2.2.2.2.1],5,false⟩),(1008,⟨[.ints .u8 256 xd.2.2.2.2.2.2.2.2],5,false⟩),(1009,⟨[.ints .u8 61440 xd.2.2.2.2.2.2.1],5,false⟩),(1010,(RPic.bl xd.2.2.2.2.2.1 (sl 1007 16384 1) (sl 1008 256 1) (sl 1016 (List.length xd.2.1) 4) (sl 1009 61440 1) false)),(1015,⟨[rowsL Sprite.cells Sprite.nil 5 xd.1],92,false⟩),(1016,⟨[rowsL Man.cells Man.nil 4 xd.2.1],119,false⟩)]
def lawPlays_L1y_T1 (N_acts:Nat) (d_acts:Nat) (acts:Nat → Act) (y_:(List Sprite) × (List Man) × Int × Bool × Pic × RPic × (Nat → Int) × (Nat → Int) × (Nat → Int)):Tm:=lawPlays_L1y_T N_acts d_acts acts y_
def lawPlays_L1y_H1 (N_acts:Nat) (d_acts:Nat) (acts:Nat → Act) (y_:(List Sprite) × (List Man) × Int × Bool × Pic × RPic × (Nat → Int) × (Nat → Int) × (Nat → Int)):Heap:=lawPlays_L1y_H N_acts d_acts acts y_
def lawPlays_L1y_ex (_:(List Sprite) × (List Man) × Int × Bool × Pic × RPic × (Nat → Int) × (Nat → Int) × (Nat → Int)):Ex:=.exit 0
abbrev OPk4 (xd:(List Sprite) × (List Man) × Int × Bool × Pic × RPic × (Nat → Int) × (Nat → Int) × (Nat → Int)):=(xd.1,xd.2.1,xd.2.2.1,xd.2.2.2.1,xd.2.2.2.2.1,xd.2.2.2.2.2.1,xd.2.2.2.2.2.2.1,xd.2.2.2.2.2.2.2.1,xd.2.2.2.2.2.2.2.2)
noncomputable abbrev OPk5:=(bodyOf Try.f8 [1,1,1,1,1,0,1,0,0])
abbrev OPk8 (xd:(List Sprite) × (List Man) × Int × Bool × Pic × RPic × (Nat → Int) × (Nat → Int) × (Nat → Int)) (N_acts:Nat):=(decide (xd.2.2.1 < ((N_acts:Nat):Int)))
abbrev OPk13 (xd:(List Sprite) × (List Man) × Int × Bool × Pic × RPic × (Nat → Int) × (Nat → Int) × (Nat → Int)):=((Int.toNat xd.2.2.1 * 5):Nat)
theorem lawPlays_L1y_p1 (N_acts:Nat) (d_acts:Nat) (acts:Nat → Act) (xd:(List Sprite) × (List Man) × Int × Bool × Pic × RPic × (Nat → Int) × (Nat → Int) × (Nat → Int)) (d1:(OPk8 xd N_acts) = true) (w9d:0 ≤ xd.2.2.1 ∧ xd.2.2.1 < ((N_acts:Nat):Int)) (d2:(decide (xd.2.2.1 ≥ 30)) = true):RunsM Try.prog 127 OPk5 1015 (lawPlays_L1y_T N_acts d_acts acts xd) (lawPlays_L1y_H N_acts d_acts acts xd) 1017 (.exit 0) (lawPlays_L1y_T1 N_acts d_acts acts (OPk4 xd)) (lawPlays_L1y_H1 N_acts d_acts acts (OPk4 xd)) 1017:=by
 exact runsM_of_x hG hM 400 1015 [.yes,.sym,.row (Int.toNat xd.2.2.1) 0,.yes] [(1000,1000),(1006,1006),(1007,1007),(1008,1008),(1009,1009),(1010,1010),(1015,1015),(1016,1016)] (J d1 (J w9d (J (Eq.refl d_acts) (J (Eq.refl (OPk13 xd)) (J (lt_nat w9d) (J d2 trivial)))))) (by kernel_rfl)
abbrev OPk0 (acts:Nat → Act) (xd:(List Sprite) × (List Man) × Int × Bool × Pic × RPic × (Nat → Int) × (Nat → Int) × (Nat → Int)):=(acts (Int.toNat xd.2.2.1))
abbrev OPk2 (xd:(List Sprite) × (List Man) × Int × Bool × Pic × RPic × (Nat → Int) × (Nat → Int) × (Nat → Int)) (acts:Nat → Act):=(rGet xd.2.2.2.2.2.1 xd.2.2.2.2.2.2.2.1 xd.2.2.2.2.2.2.2.2 xd.2.2.2.2.2.2.1 xd.2.1 (i64.wrap ((OPk0 acts xd).Reg)))
abbrev OPk3 (acts:Nat → Act) (xd:(List Sprite) × (List Man) × Int × Bool × Pic × RPic × (Nat → Int) × (Nat → Int) × (Nat → Int)):=(Int.tmod ((OPk0 acts xd).Do) 9)
abbrev OPk7 (xd:(List Sprite) × (List Man) × Int × Bool × Pic × RPic × (Nat → Int) × (Nat → Int) × (Nat → Int)) (acts:Nat → Act):=(xd.1,xd.2.1,(i64.wrap (xd.2.2.1 + 1)),xd.2.2.2.1,(pGet xd.2.2.2.2.1 xd.1 ((OPk0 acts xd).Reg)).1,(OPk2 xd acts).1,xd.2.2.2.2.2.2.1,xd.2.2.2.2.2.2.2.1,xd.2.2.2.2.2.2.2.2)
theorem lawPlays_L1y_p2 (N_acts:Nat) (d_acts:Nat) (acts:Nat → Act) (xd:(List Sprite) × (List Man) × Int × Bool × Pic × RPic × (Nat → Int) × (Nat → Int) × (Nat → Int)) (d1:(OPk8 xd N_acts) = true) (w9d:0 ≤ xd.2.2.1 ∧ xd.2.2.1 < ((N_acts:Nat):Int)) (d2:(decide (xd.2.2.1 ≥ 30)) = false) (d3:((OPk3 acts xd) == 3) = true) (w10d:Pic.ok xd.2.2.2.2.1) (w11d:0 ≤ xd.2.2.2.2.2.1.At ∧ xd.2.2.2.2.2.1.At < ((256:Nat):Int)) (w12d:0 ≤ rBits xd.2.2.2.2.2.1.S.V) (d4:((i64.wrap ((pGet xd.2.2.2.2.1 xd.1 ((OPk0 acts xd).Reg)).2)) != (OPk2 xd acts).2) = false):RunsM Try.prog 127 OPk5 1015 (lawPlays_L1y_T N_acts d_acts acts xd) (lawPlays_L1y_H N_acts d_acts acts xd) 1017 .normal (lawPlays_L1y_T N_acts d_acts acts (OPk7 xd acts)) (lawPlays_L1y_H N_acts d_acts acts (OPk7 xd acts)) 1017:=by
 exact runsM_of_x hG hM 400 1015 [.yes,.sym,.row (Int.toNat xd.2.2.1) 0,.no,.yes,.call [(1006,1000),(1015,1001)] [] 1002 (.int .u8 ((pGet xd.2.2.2.2.1 xd.1 ((OPk0 acts xd).Reg)).2)) [(1000,(Pic.bl ((pGet xd.2.2.2.2.1 xd.1 ((OPk0 acts xd).Reg)).1) (sl 1001 (List.length xd.1) 5) false)),(1001,⟨[rowsL Sprite.cells Sprite.nil 5 xd.1],92,false⟩)],.call [(1010,1000),(1007,1001),(1008,1002),(1009,1003),(1016,1004)] [] 1005 (.int .i64 ((OPk2 xd acts).2)) [(1000,(RPic.bl ((OPk2 xd acts).1) (sl 1001 16384 1) (sl 1002 256 1) (sl 1004 (List.length xd.2.1) 4) (sl 1003 61440 1) false)),(1001,⟨[.ints .u8 16384 xd.2.2.2.2.2.2.2.1],5,false⟩),(1002,⟨[.ints .u8 256 xd.2.2.2.2.2.2.2.2],5,false⟩),(1003,⟨[.ints .u8 61440 xd.2.2.2.2.2.2.1],5,false⟩),(1004,⟨[rowsL Man.cells Man.nil 4 xd.2.1],119,false⟩)],.no] [(1000,1000),(1006,1006),(1007,1007),(1008,1008),(1009,1009),(1010,1010),(1015,1015),(1016,1016)] (J d1 (J w9d (J (Eq.refl d_acts) (J (Eq.refl (OPk13 xd)) (J (lt_nat w9d) (J d2 (J (by decide:((9:Int) ≠ 0)) (J d3 (J (pGet_ok xd.2.2.2.2.1 xd.1 ((OPk0 acts xd).Reg) w10d) (J (rGet_ok xd.2.2.2.2.2.1 xd.2.2.2.2.2.2.2.1 xd.2.2.2.2.2.2.2.2 xd.2.2.2.2.2.2.1 xd.2.1 (i64.wrap ((OPk0 acts xd).Reg)) w11d w12d) (J d4 trivial))))))))))) (by kernel_rfl)
abbrev OPk9 (acts:Nat → Act) (xd:(List Sprite) × (List Man) × Int × Bool × Pic × RPic × (Nat → Int) × (Nat → Int) × (Nat → Int)):=(i64.wrap (Int.tmod ((OPk0 acts xd).N) 1200))
abbrev OPk11 (s12d:St) (xd:(List Sprite) × (List Man) × Int × Bool × Pic × RPic × (Nat → Int) × (Nat → Int) × (Nat → Int)):=(s12d.2.2.2.1,s12d.2.2.2.2,(i64.wrap (xd.2.2.1 + 1)),xd.2.2.2.1,s12d.1,s12d.2.1,s12d.2.2.1,xd.2.2.2.2.2.2.2.1,xd.2.2.2.2.2.2.2.2)
theorem lawPlays_L1y_p3 (N_acts:Nat) (d_acts:Nat) (acts:Nat → Act) (xd:(List Sprite) × (List Man) × Int × Bool × Pic × RPic × (Nat → Int) × (Nat → Int) × (Nat → Int)) (d1:(OPk8 xd N_acts) = true) (w9d:0 ≤ xd.2.2.1 ∧ xd.2.2.1 < ((N_acts:Nat):Int)) (d2:(decide (xd.2.2.1 ≥ 30)) = false) (d3:((OPk3 acts xd) == 3) = false) (d4:((OPk3 acts xd) == 4) = true) (w10d:Both xd.2.2.2.2.1 xd.1 xd.2.2.2.2.2.1 xd.2.2.2.2.2.2.2.1 xd.2.2.2.2.2.2.2.2 xd.2.2.2.2.2.2.1 xd.2.1) (w11d:0 ≤ (OPk9 acts xd) ∧ (OPk9 acts xd) < 1000000000) (s12d:St) (es12d:s12d = stepF xd.2.2.2.2.1 xd.2.2.2.2.2.1 xd.2.2.2.2.2.2.2.1 xd.2.2.2.2.2.2.2.2 xd.2.2.2.2.2.2.1 (OPk9 acts xd) xd.1 xd.2.1):RunsM Try.prog 127 OPk5 1015 (lawPlays_L1y_T N_acts d_acts acts xd) (lawPlays_L1y_H N_acts d_acts acts xd) 1017 .normal (lawPlays_L1y_T N_acts d_acts acts (OPk11 s12d xd)) (lawPlays_L1y_H N_acts d_acts acts (OPk11 s12d xd)) 1017:=by
 exact runsM_of_x hG hM 400 1015 [.yes,.sym,.row (Int.toNat xd.2.2.1) 0,.no,.no,.yes,.yes,.call [(1006,1000),(1010,1001),(1007,1002),(1008,1003),(1009,1004),(1015,1005),(1016,1006)] [(1007,1018),(1008,1019)] 1007 (.bool true) [(1000,(Pic.bl s12d.1 (sl 1007 (List.length s12d.2.2.2.1) 5) false)),(1001,(RPic.bl s12d.2.1 (sl 1002 16384 1) (sl 1003 256 1) (sl 1008 (List.length s12d.2.2.2.2) 4) (sl 1004 61440 1) false)),(1002,⟨[.ints .u8 16384 xd.2.2.2.2.2.2.2.1],5,false⟩),(1003,⟨[.ints .u8 256 xd.2.2.2.2.2.2.2.2],5,false⟩),(1004,⟨[.ints .u8 61440 s12d.2.2.1],5,false⟩),(1007,⟨[rowsL Sprite.cells Sprite.nil 5 s12d.2.2.2.1],92,false⟩),(1008,⟨[rowsL Man.cells Man.nil 4 s12d.2.2.2.2],119,false⟩)],.no] [(1000,1000),(1006,1006),(1007,1007),(1008,1008),(1009,1009),(1010,1010),(1018,1015),(1019,1016)] (J d1 (J w9d (J (Eq.refl d_acts) (J (Eq.refl (OPk13 xd)) (J (lt_nat w9d) (J d2 (J (by decide:((9:Int) ≠ 0)) (J d3 (J d4 (J d4 (J (by decide:((1200:Int) ≠ 0)) (J (stepF_let xd.2.2.2.2.1 xd.2.2.2.2.2.1 xd.2.2.2.2.2.2.2.1 xd.2.2.2.2.2.2.2.2 xd.2.2.2.2.2.2.1 (OPk9 acts xd) xd.1 xd.2.1 w10d w11d s12d es12d) (J T0 trivial))))))))))))) (by kernel_rfl)
theorem lawPlays_L1y_p4 (N_acts:Nat) (d_acts:Nat) (acts:Nat → Act) (xd:(List Sprite) × (List Man) × Int × Bool × Pic × RPic × (Nat → Int) × (Nat → Int) × (Nat → Int)) (d1:(OPk8 xd N_acts) = true) (w9d:0 ≤ xd.2.2.1 ∧ xd.2.2.1 < ((N_acts:Nat):Int)) (d2:(decide (xd.2.2.1 ≥ 30)) = false) (d3:((OPk3 acts xd) == 3) = false) (d4:((OPk3 acts xd) == 4) = false) (d5:((OPk3 acts xd) == 5) = true) (w10d:Both xd.2.2.2.2.1 xd.1 xd.2.2.2.2.2.1 xd.2.2.2.2.2.2.2.1 xd.2.2.2.2.2.2.2.2 xd.2.2.2.2.2.2.1 xd.2.1) (w11d:0 ≤ (OPk9 acts xd) ∧ (OPk9 acts xd) < 1000000000) (s12d:St) (es12d:s12d = stepF xd.2.2.2.2.1 xd.2.2.2.2.2.1 xd.2.2.2.2.2.2.2.1 xd.2.2.2.2.2.2.2.2 xd.2.2.2.2.2.2.1 (OPk9 acts xd) xd.1 xd.2.1):RunsM Try.prog 127 OPk5 1015 (lawPlays_L1y_T N_acts d_acts acts xd) (lawPlays_L1y_H N_acts d_acts acts xd) 1017 .normal (lawPlays_L1y_T N_acts d_acts acts (OPk11 s12d xd)) (lawPlays_L1y_H N_acts d_acts acts (OPk11 s12d xd)) 1017:=by
 exact runsM_of_x hG hM 400 1015 [.yes,.sym,.row (Int.toNat xd.2.2.1) 0,.no,.no,.no,.yes,.call [(1006,1000),(1010,1001),(1007,1002),(1008,1003),(1009,1004),(1015,1005),(1016,1006)] [(1007,1018),(1008,1019)] 1007 (.bool true) [(1000,(Pic.bl s12d.1 (sl 1007 (List.length s12d.2.2.2.1) 5) false)),(1001,(RPic.bl s12d.2.1 (sl 1002 16384 1) (sl 1003 256 1) (sl 1008 (List.length s12d.2.2.2.2) 4) (sl 1004 61440 1) false)),(1002,⟨[.ints .u8 16384 xd.2.2.2.2.2.2.2.1],5,false⟩),(1003,⟨[.ints .u8 256 xd.2.2.2.2.2.2.2.2],5,false⟩),(1004,⟨[.ints .u8 61440 s12d.2.2.1],5,false⟩),(1007,⟨[rowsL Sprite.cells Sprite.nil 5 s12d.2.2.2.1],92,false⟩),(1008,⟨[rowsL Man.cells Man.nil 4 s12d.2.2.2.2],119,false⟩)],.no] [(1000,1000),(1006,1006),(1007,1007),(1008,1008),(1009,1009),(1010,1010),(1018,1015),(1019,1016)] (J d1 (J w9d (J (Eq.refl d_acts) (J (Eq.refl (OPk13 xd)) (J (lt_nat w9d) (J d2 (J (by decide:((9:Int) ≠ 0)) (J d3 (J d4 (J d5 (J (by decide:((1200:Int) ≠ 0)) (J (stepF_let xd.2.2.2.2.1 xd.2.2.2.2.2.1 xd.2.2.2.2.2.2.2.1 xd.2.2.2.2.2.2.2.2 xd.2.2.2.2.2.2.1 (OPk9 acts xd) xd.1 xd.2.1 w10d w11d s12d es12d) (J T0 trivial))))))))))))) (by kernel_rfl)
abbrev OPk1 (xd:(List Sprite) × (List Man) × Int × Bool × Pic × RPic × (Nat → Int) × (Nat → Int) × (Nat → Int)) (acts:Nat → Act):=(xd.1,xd.2.1,(i64.wrap (xd.2.2.1 + 1)),xd.2.2.2.1,(pPoke xd.2.2.2.2.1 xd.1 ((OPk0 acts xd).At) ((OPk0 acts xd).B)),xd.2.2.2.2.2.1,xd.2.2.2.2.2.2.1,(rPoke xd.2.2.2.2.2.1 xd.2.2.2.2.2.2.2.1 xd.2.2.2.2.2.2.2.2 xd.2.2.2.2.2.2.1 xd.2.1 (i64.wrap ((OPk0 acts xd).At)) (i64.wrap ((OPk0 acts xd).B))),xd.2.2.2.2.2.2.2.2)
theorem lawPlays_L1y_p5 (N_acts:Nat) (d_acts:Nat) (acts:Nat → Act) (xd:(List Sprite) × (List Man) × Int × Bool × Pic × RPic × (Nat → Int) × (Nat → Int) × (Nat → Int)) (d1:(OPk8 xd N_acts) = true) (w9d:0 ≤ xd.2.2.1 ∧ xd.2.2.1 < ((N_acts:Nat):Int)) (d2:(decide (xd.2.2.1 ≥ 30)) = false) (d3:((OPk3 acts xd) == 3) = false) (d4:((OPk3 acts xd) == 4) = false) (d5:((OPk3 acts xd) == 5) = false) (d6:((OPk3 acts xd) == 6) = true) (w10d:0 ≤ (i64.wrap ((OPk0 acts xd).At))):RunsM Try.prog 127 OPk5 1015 (lawPlays_L1y_T N_acts d_acts acts xd) (lawPlays_L1y_H N_acts d_acts acts xd) 1017 .normal (lawPlays_L1y_T N_acts d_acts acts (OPk1 xd acts)) (lawPlays_L1y_H N_acts d_acts acts (OPk1 xd acts)) 1017:=by
 exact runsM_of_x hG hM 400 1015 [.yes,.sym,.row (Int.toNat xd.2.2.1) 0,.no,.no,.no,.no,.yes,.call [(1006,1000),(1015,1001)] [] 1002 (.tuple ⟨[]⟩) [(1000,(Pic.bl (pPoke xd.2.2.2.2.1 xd.1 ((OPk0 acts xd).At) ((OPk0 acts xd).B)) (sl 1001 (List.length xd.1) 5) false)),(1001,⟨[rowsL Sprite.cells Sprite.nil 5 xd.1],92,false⟩)],.call [(1010,1000),(1007,1001),(1008,1002),(1009,1003),(1016,1004)] [] 1005 (.tuple ⟨[]⟩) [(1000,(RPic.bl xd.2.2.2.2.2.1 (sl 1001 16384 1) (sl 1002 256 1) (sl 1004 (List.length xd.2.1) 4) (sl 1003 61440 1) false)),(1001,⟨[.ints .u8 16384 (rPoke xd.2.2.2.2.2.1 xd.2.2.2.2.2.2.2.1 xd.2.2.2.2.2.2.2.2 xd.2.2.2.2.2.2.1 xd.2.1 (i64.wrap ((OPk0 acts xd).At)) (i64.wrap ((OPk0 acts xd).B)))],5,false⟩),(1002,⟨[.ints .u8 256 xd.2.2.2.2.2.2.2.2],5,false⟩),(1003,⟨[.ints .u8 61440 xd.2.2.2.2.2.2.1],5,false⟩),(1004,⟨[rowsL Man.cells Man.nil 4 xd.2.1],119,false⟩)]] [(1000,1000),(1006,1006),(1007,1007),(1008,1008),(1009,1009),(1010,1010),(1015,1015),(1016,1016)] (J d1 (J w9d (J (Eq.refl d_acts) (J (Eq.refl (OPk13 xd)) (J (lt_nat w9d) (J d2 (J (by decide:((9:Int) ≠ 0)) (J d3 (J d4 (J d5 (J d6 (J (pPoke_ok xd.2.2.2.2.1 xd.1 ((OPk0 acts xd).At) ((OPk0 acts xd).B)) (J (rPoke_ok xd.2.2.2.2.2.1 xd.2.2.2.2.2.2.2.1 xd.2.2.2.2.2.2.2.2 xd.2.2.2.2.2.2.1 xd.2.1 (i64.wrap ((OPk0 acts xd).At)) (i64.wrap ((OPk0 acts xd).B)) w10d) trivial))))))))))))) (by kernel_rfl)
abbrev OPk10 (xd:(List Sprite) × (List Man) × Int × Bool × Pic × RPic × (Nat → Int) × (Nat → Int) × (Nat → Int)):=(xd.1,xd.2.1,(i64.wrap (xd.2.2.1 + 1)),xd.2.2.2.1,xd.2.2.2.2.1,xd.2.2.2.2.2.1,xd.2.2.2.2.2.2.1,xd.2.2.2.2.2.2.2.1,xd.2.2.2.2.2.2.2.2)
theorem lawPlays_L1y_p6 (N_acts:Nat) (d_acts:Nat) (acts:Nat → Act) (xd:(List Sprite) × (List Man) × Int × Bool × Pic × RPic × (Nat → Int) × (Nat → Int) × (Nat → Int)) (d1:(OPk8 xd N_acts) = true) (w9d:0 ≤ xd.2.2.1 ∧ xd.2.2.1 < ((N_acts:Nat):Int)) (d2:(decide (xd.2.2.1 ≥ 30)) = false) (d3:((OPk3 acts xd) == 3) = false) (d4:((OPk3 acts xd) == 4) = false) (d5:((OPk3 acts xd) == 5) = false) (d6:((OPk3 acts xd) == 6) = false) (d7:((OPk3 acts xd) == 7) = true) (w10d:0 ≤ (i64.wrap ((OPk0 acts xd).At))) (d8:((i64.wrap (pPeek xd.2.2.2.2.1 xd.1 ((OPk0 acts xd).At))) != (rPeek xd.2.2.2.2.2.1 xd.2.2.2.2.2.2.2.1 xd.2.2.2.2.2.2.2.2 xd.2.2.2.2.2.2.1 xd.2.1 (i64.wrap ((OPk0 acts xd).At)))) = false):RunsM Try.prog 127 OPk5 1015 (lawPlays_L1y_T N_acts d_acts acts xd) (lawPlays_L1y_H N_acts d_acts acts xd) 1017 .normal (lawPlays_L1y_T N_acts d_acts acts (OPk10 xd)) (lawPlays_L1y_H N_acts d_acts acts (OPk10 xd)) 1017:=by
 exact runsM_of_x hG hM 400 1015 [.yes,.sym,.row (Int.toNat xd.2.2.1) 0,.no,.no,.no,.no,.no,.yes,.call [(1006,1000),(1015,1001)] [] 1002 (.int .u8 (pPeek xd.2.2.2.2.1 xd.1 ((OPk0 acts xd).At))) [(1000,(Pic.bl xd.2.2.2.2.1 (sl 1001 (List.length xd.1) 5) false)),(1001,⟨[rowsL Sprite.cells Sprite.nil 5 xd.1],92,false⟩)],.callr [(1010,1000),(1007,1001),(1008,1002),(1009,1003),(1016,1004)] [1007,1008,1009,1010,1016] [] 1005 (.int .i64 (rPeek xd.2.2.2.2.2.1 xd.2.2.2.2.2.2.2.1 xd.2.2.2.2.2.2.2.2 xd.2.2.2.2.2.2.1 xd.2.1 (i64.wrap ((OPk0 acts xd).At)))) [],.no] [(1000,1000),(1006,1006),(1007,1007),(1008,1008),(1009,1009),(1010,1010),(1015,1015),(1016,1016)] (J d1 (J w9d (J (Eq.refl d_acts) (J (Eq.refl (OPk13 xd)) (J (lt_nat w9d) (J d2 (J (by decide:((9:Int) ≠ 0)) (J d3 (J d4 (J d5 (J d6 (J d7 (J (pPeek_ok xd.2.2.2.2.1 xd.1 ((OPk0 acts xd).At)) (J (rPeek_ok xd.2.2.2.2.2.1 xd.2.2.2.2.2.2.2.1 xd.2.2.2.2.2.2.2.2 xd.2.2.2.2.2.2.1 xd.2.1 (i64.wrap ((OPk0 acts xd).At)) w10d) (J d8 trivial))))))))))))))) (by kernel_rfl)
abbrev OPk6 (xd:(List Sprite) × (List Man) × Int × Bool × Pic × RPic × (Nat → Int) × (Nat → Int) × (Nat → Int)) (acts:Nat → Act):=(xd.1,xd.2.1,(i64.wrap (xd.2.2.1 + 1)),xd.2.2.2.1,(pUpright xd.2.2.2.2.1 xd.1 ((Int.tmod ((OPk0 acts xd).B) 2) == 1)),({ xd.2.2.2.2.2.1 with Upright:=((Int.tmod ((OPk0 acts xd).B) 2) == 1) }:RPic),xd.2.2.2.2.2.2.1,xd.2.2.2.2.2.2.2.1,xd.2.2.2.2.2.2.2.2)
theorem lawPlays_L1y_p7 (N_acts:Nat) (d_acts:Nat) (acts:Nat → Act) (xd:(List Sprite) × (List Man) × Int × Bool × Pic × RPic × (Nat → Int) × (Nat → Int) × (Nat → Int)) (d1:(OPk8 xd N_acts) = true) (w9d:0 ≤ xd.2.2.1 ∧ xd.2.2.1 < ((N_acts:Nat):Int)) (d2:(decide (xd.2.2.1 ≥ 30)) = false) (d3:((OPk3 acts xd) == 3) = false) (d4:((OPk3 acts xd) == 4) = false) (d5:((OPk3 acts xd) == 5) = false) (d6:((OPk3 acts xd) == 6) = false) (d7:((OPk3 acts xd) == 7) = false) (d8:((OPk3 acts xd) == 8) = true):RunsM Try.prog 127 OPk5 1015 (lawPlays_L1y_T N_acts d_acts acts xd) (lawPlays_L1y_H N_acts d_acts acts xd) 1017 .normal (lawPlays_L1y_T N_acts d_acts acts (OPk6 xd acts)) (lawPlays_L1y_H N_acts d_acts acts (OPk6 xd acts)) 1017:=by
 exact runsM_of_x hG hM 400 1015 [.yes,.sym,.row (Int.toNat xd.2.2.1) 0,.no,.no,.no,.no,.no,.no,.yes,.call [(1006,1000),(1015,1001)] [] 1002 (.tuple ⟨[]⟩) [(1000,(Pic.bl (pUpright xd.2.2.2.2.1 xd.1 ((Int.tmod ((OPk0 acts xd).B) 2) == 1)) (sl 1001 (List.length xd.1) 5) false)),(1001,⟨[rowsL Sprite.cells Sprite.nil 5 xd.1],92,false⟩)]] [(1000,1000),(1006,1006),(1007,1007),(1008,1008),(1009,1009),(1010,1010),(1015,1015),(1016,1016)] (J d1 (J w9d (J (Eq.refl d_acts) (J (Eq.refl (OPk13 xd)) (J (lt_nat w9d) (J d2 (J (by decide:((9:Int) ≠ 0)) (J d3 (J d4 (J d5 (J d6 (J d7 (J d8 (J (by decide:((2:Int) ≠ 0)) (J (pUpright_ok xd.2.2.2.2.1 xd.1 ((Int.tmod ((OPk0 acts xd).B) 2) == 1)) (J (by decide:((2:Int) ≠ 0)) trivial)))))))))))))))) (by kernel_rfl)
theorem lawPlays_L1y_p8 (N_acts:Nat) (d_acts:Nat) (acts:Nat → Act) (xd:(List Sprite) × (List Man) × Int × Bool × Pic × RPic × (Nat → Int) × (Nat → Int) × (Nat → Int)) (d1:(OPk8 xd N_acts) = true) (w9d:0 ≤ xd.2.2.1 ∧ xd.2.2.1 < ((N_acts:Nat):Int)) (d2:(decide (xd.2.2.1 ≥ 30)) = false) (d3:((OPk3 acts xd) == 3) = false) (d4:((OPk3 acts xd) == 4) = false) (d5:((OPk3 acts xd) == 5) = false) (d6:((OPk3 acts xd) == 6) = false) (d7:((OPk3 acts xd) == 7) = false) (d8:((OPk3 acts xd) == 8) = false) (w10d:Pic.ok xd.2.2.2.2.1) (w11d:0 ≤ xd.2.2.2.2.2.1.At ∧ xd.2.2.2.2.2.1.At < ((256:Nat):Int)) (w12d:0 ≤ rBits xd.2.2.2.2.2.1.S.V) (s13d:Pic × RPic × (Nat → Int) × (Nat → Int)) (es13d:s13d = both xd.2.2.2.2.1 xd.2.2.2.2.2.1 xd.2.2.2.2.2.2.2.1 xd.2.2.2.2.2.2.2.2 xd.2.2.2.2.2.2.1 ((OPk0 acts xd).Reg) ((OPk0 acts xd).B) xd.1 xd.2.1):RunsM Try.prog 127 OPk5 1015 (lawPlays_L1y_T N_acts d_acts acts xd) (lawPlays_L1y_H N_acts d_acts acts xd) 1017 .normal (lawPlays_L1y_T N_acts d_acts acts (xd.1,xd.2.1,(i64.wrap (xd.2.2.1 + 1)),xd.2.2.2.1,s13d.1,s13d.2.1,xd.2.2.2.2.2.2.1,s13d.2.2.1,s13d.2.2.2)) (lawPlays_L1y_H N_acts d_acts acts (xd.1,xd.2.1,(i64.wrap (xd.2.2.1 + 1)),xd.2.2.2.1,s13d.1,s13d.2.1,xd.2.2.2.2.2.2.1,s13d.2.2.1,s13d.2.2.2)) 1017:=by
 exact runsM_of_x hG hM 400 1015 [.yes,.sym,.row (Int.toNat xd.2.2.1) 0,.no,.no,.no,.no,.no,.no,.no,.call [(1006,1000),(1010,1001),(1007,1002),(1008,1003),(1009,1004),(1015,1005),(1016,1006)] [] 1007 (.tuple ⟨[]⟩) [(1000,(Pic.bl s13d.1 (sl 1005 (List.length xd.1) 5) false)),(1001,(RPic.bl s13d.2.1 (sl 1002 16384 1) (sl 1003 256 1) (sl 1006 (List.length xd.2.1) 4) (sl 1004 61440 1) false)),(1002,⟨[.ints .u8 16384 s13d.2.2.1],5,false⟩),(1003,⟨[.ints .u8 256 s13d.2.2.2],5,false⟩),(1004,⟨[.ints .u8 61440 xd.2.2.2.2.2.2.1],5,false⟩),(1005,⟨[rowsL Sprite.cells Sprite.nil 5 xd.1],92,false⟩),(1006,⟨[rowsL Man.cells Man.nil 4 xd.2.1],119,false⟩)]] [(1000,1000),(1006,1006),(1007,1007),(1008,1008),(1009,1009),(1010,1010),(1015,1015),(1016,1016)] (J d1 (J w9d (J (Eq.refl d_acts) (J (Eq.refl (OPk13 xd)) (J (lt_nat w9d) (J d2 (J (by decide:((9:Int) ≠ 0)) (J d3 (J d4 (J d5 (J d6 (J d7 (J d8 (J (both_let xd.2.2.2.2.1 xd.2.2.2.2.2.1 xd.2.2.2.2.2.2.2.1 xd.2.2.2.2.2.2.2.2 xd.2.2.2.2.2.2.1 ((OPk0 acts xd).Reg) ((OPk0 acts xd).B) xd.1 xd.2.1 w10d w11d w12d s13d es13d) trivial)))))))))))))) (by kernel_rfl)
theorem lawPlays_L1y_p9 (N_acts:Nat) (d_acts:Nat) (acts:Nat → Act) (xd:(List Sprite) × (List Man) × Int × Bool × Pic × RPic × (Nat → Int) × (Nat → Int) × (Nat → Int)) (d1:(OPk8 xd N_acts) = false):RunsM Try.prog 127 OPk5 1015 (lawPlays_L1y_T N_acts d_acts acts xd) (lawPlays_L1y_H N_acts d_acts acts xd) 1017 (.exit 0) (lawPlays_L1y_T1 N_acts d_acts acts (OPk4 xd)) (lawPlays_L1y_H1 N_acts d_acts acts (OPk4 xd)) 1017:=by
 exact runsM_of_x hG hM 400 1015 [.no] [(1000,1000),(1006,1006),(1007,1007),(1008,1008),(1009,1009),(1010,1010),(1015,1015),(1016,1016)] (J d1 trivial) (by kernel_rfl)
theorem lawPlays_L1y_runs (N_acts:Nat) (d_acts:Nat) (acts:Nat → Act) (x_:(List Sprite) × (List Man) × Int × Bool × Pic × RPic × (Nat → Int) × (Nat → Int) × (Nat → Int)) (y_:(List Sprite) × (List Man) × Int × Bool × Pic × RPic × (Nat → Int) × (Nat → Int) × (Nat → Int)) (h_:LoopR (lawPlays_L1y N_acts d_acts acts) x_ y_):RunsM Try.prog 127 (.block 0 (.loop OPk5)) 1015 (lawPlays_L1y_T N_acts d_acts acts x_) (lawPlays_L1y_H N_acts d_acts acts x_) 1017 (outOf 0 (lawPlays_L1y_ex y_)) (lawPlays_L1y_T1 N_acts d_acts acts y_) (lawPlays_L1y_H1 N_acts d_acts acts y_) 1017:=by
 refine block_loopM hG (lawPlays_L1y N_acts d_acts acts) (lawPlays_L1y_T N_acts d_acts acts) (lawPlays_L1y_H N_acts d_acts acts) lawPlays_L1y_ex (lawPlays_L1y_T1 N_acts d_acts acts) (lawPlays_L1y_H1 N_acts d_acts acts) ?_ ?_ ?_ x_ y_ h_
 ·intro s r _ hr;cases hr
 ·intro xd y_ hx
  cases hx with
  | p2 d1 w9d d2 d3 w10d w11d w12d d4 => exact lawPlays_L1y_p2 N_acts d_acts acts xd d1 w9d d2 d3 w10d w11d w12d d4
  | p3 d1 w9d d2 d3 d4 w10d w11d s12d es12d => exact lawPlays_L1y_p3 N_acts d_acts acts xd d1 w9d d2 d3 d4 w10d w11d s12d es12d
  | p4 d1 w9d d2 d3 d4 d5 w10d w11d s12d es12d => exact lawPlays_L1y_p4 N_acts d_acts acts xd d1 w9d d2 d3 d4 d5 w10d w11d s12d es12d
  | p5 d1 w9d d2 d3 d4 d5 d6 w10d => exact lawPlays_L1y_p5 N_acts d_acts acts xd d1 w9d d2 d3 d4 d5 d6 w10d
  | p6 d1 w9d d2 d3 d4 d5 d6 d7 w10d d8 => exact lawPlays_L1y_p6 N_acts d_acts acts xd d1 w9d d2 d3 d4 d5 d6 d7 w10d d8
  | p7 d1 w9d d2 d3 d4 d5 d6 d7 d8 => exact lawPlays_L1y_p7 N_acts d_acts acts xd d1 w9d d2 d3 d4 d5 d6 d7 d8
  | p8 d1 w9d d2 d3 d4 d5 d6 d7 d8 w10d w11d w12d s13d es13d => exact lawPlays_L1y_p8 N_acts d_acts acts xd d1 w9d d2 d3 d4 d5 d6 d7 d8 w10d w11d w12d s13d es13d
 ·intro xd y_ hx
  cases hx with
  | p1 d1 w9d d2 => exact lawPlays_L1y_p1 N_acts d_acts acts xd d1 w9d d2
  | p9 d1 => exact lawPlays_L1y_p9 N_acts d_acts acts xd d1
inductive lawPlays_L1n (N_acts:Nat) (d_acts:Nat) (acts:Nat → Act) (xd:(List Sprite) × (List Man) × Int × Bool × Pic × RPic × (Nat → Int) × (Nat → Int) × (Nat → Int)):((List Sprite) × (List Man) × Int × Bool × Pic × RPic × (Nat → Int) × (Nat → Int) × (Nat → Int)) ⊕ ((List Sprite) × (List Man) × Int × Bool × Pic × RPic × (Nat → Int) × (Nat → Int) × (Nat → Int)) → Prop
 | p1 (d1:(decide (xd.2.2.1 < ((N_acts:Nat):Int))) = true) (w7d:0 ≤ xd.2.2.1 ∧ xd.2.2.1 < ((N_acts:Nat):Int)) (d2:(decide (xd.2.2.1 ≥ 30)) = true):lawPlays_L1n N_acts d_acts acts xd (.inr (xd.1,xd.2.1,xd.2.2.1,xd.2.2.2.1,xd.2.2.2.2.1,xd.2.2.2.2.2.1,xd.2.2.2.2.2.2.1,xd.2.2.2.2.2.2.2.1,xd.2.2.2.2.2.2.2.2))
 | p2 (d1:(decide (xd.2.2.1 < ((N_acts:Nat):Int))) = true) (w7d:0 ≤ xd.2.2.1 ∧ xd.2.2.1 < ((N_acts:Nat):Int)) (d2:(decide (xd.2.2.1 ≥ 30)) = false) (d3:((Int.tmod ((acts (Int.toNat xd.2.2.1)).Do) 9) == 3) = true) (w8d:Pic.ok xd.2.2.2.2.1) (w9d:0 ≤ xd.2.2.2.2.2.1.At ∧ xd.2.2.2.2.2.1.At < ((256:Nat):Int)) (w10d:0 ≤ rBits xd.2.2.2.2.2.1.S.V) (d4:((i64.wrap ((pGet xd.2.2.2.2.1 xd.1 ((acts (Int.toNat xd.2.2.1)).Reg)).2)) != (rGet xd.2.2.2.2.2.1 xd.2.2.2.2.2.2.2.1 xd.2.2.2.2.2.2.2.2 xd.2.2.2.2.2.2.1 xd.2.1 (i64.wrap ((acts (Int.toNat xd.2.2.1)).Reg))).2) = false):lawPlays_L1n N_acts d_acts acts xd (.inl (xd.1,xd.2.1,(i64.wrap (xd.2.2.1 + 1)),xd.2.2.2.1,(pGet xd.2.2.2.2.1 xd.1 ((acts (Int.toNat xd.2.2.1)).Reg)).1,(rGet xd.2.2.2.2.2.1 xd.2.2.2.2.2.2.2.1 xd.2.2.2.2.2.2.2.2 xd.2.2.2.2.2.2.1 xd.2.1 (i64.wrap ((acts (Int.toNat xd.2.2.1)).Reg))).1,xd.2.2.2.2.2.2.1,xd.2.2.2.2.2.2.2.1,xd.2.2.2.2.2.2.2.2))
 | p3 (d1:(decide (xd.2.2.1 < ((N_acts:Nat):Int))) = true) (w7d:0 ≤ xd.2.2.1 ∧ xd.2.2.1 < ((N_acts:Nat):Int)) (d2:(decide (xd.2.2.1 ≥ 30)) = false) (d3:((Int.tmod ((acts (Int.toNat xd.2.2.1)).Do) 9) == 3) = false) (d4:((Int.tmod ((acts (Int.toNat xd.2.2.1)).Do) 9) == 4) = true) (w8d:Both xd.2.2.2.2.1 xd.1 xd.2.2.2.2.2.1 xd.2.2.2.2.2.2.2.1 xd.2.2.2.2.2.2.2.2 xd.2.2.2.2.2.2.1 xd.2.1) (w9d:0 ≤ (i64.wrap (Int.tmod ((acts (Int.toNat xd.2.2.1)).N) 1200)) ∧ (i64.wrap (Int.tmod ((acts (Int.toNat xd.2.2.1)).N) 1200)) < 1000000000) (s10d:St) (es10d:s10d = stepF xd.2.2.2.2.1 xd.2.2.2.2.2.1 xd.2.2.2.2.2.2.2.1 xd.2.2.2.2.2.2.2.2 xd.2.2.2.2.2.2.1 (i64.wrap (Int.tmod ((acts (Int.toNat xd.2.2.1)).N) 1200)) xd.1 xd.2.1):lawPlays_L1n N_acts d_acts acts xd (.inl (s10d.2.2.2.1,s10d.2.2.2.2,(i64.wrap (xd.2.2.1 + 1)),xd.2.2.2.1,s10d.1,s10d.2.1,s10d.2.2.1,xd.2.2.2.2.2.2.2.1,xd.2.2.2.2.2.2.2.2))
 | p4 (d1:(decide (xd.2.2.1 < ((N_acts:Nat):Int))) = true) (w7d:0 ≤ xd.2.2.1 ∧ xd.2.2.1 < ((N_acts:Nat):Int)) (d2:(decide (xd.2.2.1 ≥ 30)) = false) (d3:((Int.tmod ((acts (Int.toNat xd.2.2.1)).Do) 9) == 3) = false) (d4:((Int.tmod ((acts (Int.toNat xd.2.2.1)).Do) 9) == 4) = false) (d5:((Int.tmod ((acts (Int.toNat xd.2.2.1)).Do) 9) == 5) = true) (w8d:Both xd.2.2.2.2.1 xd.1 xd.2.2.2.2.2.1 xd.2.2.2.2.2.2.2.1 xd.2.2.2.2.2.2.2.2 xd.2.2.2.2.2.2.1 xd.2.1) (w9d:0 ≤ (i64.wrap (Int.tmod ((acts (Int.toNat xd.2.2.1)).N) 1200)) ∧ (i64.wrap (Int.tmod ((acts (Int.toNat xd.2.2.1)).N) 1200)) < 1000000000) (s10d:St) (es10d:s10d = stepF xd.2.2.2.2.1 xd.2.2.2.2.2.1 xd.2.2.2.2.2.2.2.1 xd.2.2.2.2.2.2.2.2 xd.2.2.2.2.2.2.1 (i64.wrap (Int.tmod ((acts (Int.toNat xd.2.2.1)).N) 1200)) xd.1 xd.2.1):lawPlays_L1n N_acts d_acts acts xd (.inl (s10d.2.2.2.1,s10d.2.2.2.2,(i64.wrap (xd.2.2.1 + 1)),xd.2.2.2.1,s10d.1,s10d.2.1,s10d.2.2.1,xd.2.2.2.2.2.2.2.1,xd.2.2.2.2.2.2.2.2))
 | p5 (d1:(decide (xd.2.2.1 < ((N_acts:Nat):Int))) = true) (w7d:0 ≤ xd.2.2.1 ∧ xd.2.2.1 < ((N_acts:Nat):Int)) (d2:(decide (xd.2.2.1 ≥ 30)) = false) (d3:((Int.tmod ((acts (Int.toNat xd.2.2.1)).Do) 9) == 3) = false) (d4:((Int.tmod ((acts (Int.toNat xd.2.2.1)).Do) 9) == 4) = false) (d5:((Int.tmod ((acts (Int.toNat xd.2.2.1)).Do) 9) == 5) = false) (d6:((Int.tmod ((acts (Int.toNat xd.2.2.1)).Do) 9) == 6) = true) (w8d:0 ≤ (i64.wrap ((acts (Int.toNat xd.2.2.1)).At))):lawPlays_L1n N_acts d_acts acts xd (.inl (xd.1,xd.2.1,(i64.wrap (xd.2.2.1 + 1)),xd.2.2.2.1,(pPoke xd.2.2.2.2.1 xd.1 ((acts (Int.toNat xd.2.2.1)).At) ((acts (Int.toNat xd.2.2.1)).B)),xd.2.2.2.2.2.1,xd.2.2.2.2.2.2.1,(rPoke xd.2.2.2.2.2.1 xd.2.2.2.2.2.2.2.1 xd.2.2.2.2.2.2.2.2 xd.2.2.2.2.2.2.1 xd.2.1 (i64.wrap ((acts (Int.toNat xd.2.2.1)).At)) (i64.wrap ((acts (Int.toNat xd.2.2.1)).B))),xd.2.2.2.2.2.2.2.2))
 | p6 (d1:(decide (xd.2.2.1 < ((N_acts:Nat):Int))) = true) (w7d:0 ≤ xd.2.2.1 ∧ xd.2.2.1 < ((N_acts:Nat):Int)) (d2:(decide (xd.2.2.1 ≥ 30)) = false) (d3:((Int.tmod ((acts (Int.toNat xd.2.2.1)).Do) 9) == 3) = false) (d4:((Int.tmod ((acts (Int.toNat xd.2.2.1)).Do) 9) == 4) = false) (d5:((Int.tmod ((acts (Int.toNat xd.2.2.1)).Do) 9) == 5) = false) (d6:((Int.tmod ((acts (Int.toNat xd.2.2.1)).Do) 9) == 6) = false) (d7:((Int.tmod ((acts (Int.toNat xd.2.2.1)).Do) 9) == 7) = true) (w8d:0 ≤ (i64.wrap ((acts (Int.toNat xd.2.2.1)).At))) (d8:((i64.wrap (pPeek xd.2.2.2.2.1 xd.1 ((acts (Int.toNat xd.2.2.1)).At))) != (rPeek xd.2.2.2.2.2.1 xd.2.2.2.2.2.2.2.1 xd.2.2.2.2.2.2.2.2 xd.2.2.2.2.2.2.1 xd.2.1 (i64.wrap ((acts (Int.toNat xd.2.2.1)).At)))) = false):lawPlays_L1n N_acts d_acts acts xd (.inl (xd.1,xd.2.1,(i64.wrap (xd.2.2.1 + 1)),xd.2.2.2.1,xd.2.2.2.2.1,xd.2.2.2.2.2.1,xd.2.2.2.2.2.2.1,xd.2.2.2.2.2.2.2.1,xd.2.2.2.2.2.2.2.2))
 | p7 (d1:(decide (xd.2.2.1 < ((N_acts:Nat):Int))) = true) (w7d:0 ≤ xd.2.2.1 ∧ xd.2.2.1 < ((N_acts:Nat):Int)) (d2:(decide (xd.2.2.1 ≥ 30)) = false) (d3:((Int.tmod ((acts (Int.toNat xd.2.2.1)).Do) 9) == 3) = false) (d4:((Int.tmod ((acts (Int.toNat xd.2.2.1)).Do) 9) == 4) = false) (d5:((Int.tmod ((acts (Int.toNat xd.2.2.1)).Do) 9) == 5) = false) (d6:((Int.tmod ((acts (Int.toNat xd.2.2.1)).Do) 9) == 6) = false) (d7:((Int.tmod ((acts (Int.toNat xd.2.2.1)).Do) 9) == 7) = false) (d8:((Int.tmod ((acts (Int.toNat xd.2.2.1)).Do) 9) == 8) = true):lawPlays_L1n N_acts d_acts acts xd (.inl (xd.1,xd.2.1,(i64.wrap (xd.2.2.1 + 1)),xd.2.2.2.1,(pUpright xd.2.2.2.2.1 xd.1 ((Int.tmod ((acts (Int.toNat xd.2.2.1)).B) 2) == 1)),({ xd.2.2.2.2.2.1 with Upright:=((Int.tmod ((acts (Int.toNat xd.2.2.1)).B) 2) == 1) }:RPic),xd.2.2.2.2.2.2.1,xd.2.2.2.2.2.2.2.1,xd.2.2.2.2.2.2.2.2))
 | p8 (d1:(decide (xd.2.2.1 < ((N_acts:Nat):Int))) = true) (w7d:0 ≤ xd.2.2.1 ∧ xd.2.2.1 < ((N_acts:Nat):Int)) (d2:(decide (xd.2.2.1 ≥ 30)) = false) (d3:((Int.tmod ((acts (Int.toNat xd.2.2.1)).Do) 9) == 3) = false) (d4:((Int.tmod ((acts (Int.toNat xd.2.2.1)).Do) 9) == 4) = false) (d5:((Int.tmod ((acts (Int.toNat xd.2.2.1)).Do) 9) == 5) = false) (d6:((Int.tmod ((acts (Int.toNat xd.2.2.1)).Do) 9) == 6) = false) (d7:((Int.tmod ((acts (Int.toNat xd.2.2.1)).Do) 9) == 7) = false) (d8:((Int.tmod ((acts (Int.toNat xd.2.2.1)).Do) 9) == 8) = false) (w8d:Pic.ok xd.2.2.2.2.1) (w9d:0 ≤ xd.2.2.2.2.2.1.At ∧ xd.2.2.2.2.2.1.At < ((256:Nat):Int)) (w10d:0 ≤ rBits xd.2.2.2.2.2.1.S.V) (s11d:Pic × RPic × (Nat → Int) × (Nat → Int)) (es11d:s11d = both xd.2.2.2.2.1 xd.2.2.2.2.2.1 xd.2.2.2.2.2.2.2.1 xd.2.2.2.2.2.2.2.2 xd.2.2.2.2.2.2.1 ((acts (Int.toNat xd.2.2.1)).Reg) ((acts (Int.toNat xd.2.2.1)).B) xd.1 xd.2.1):lawPlays_L1n N_acts d_acts acts xd (.inl (xd.1,xd.2.1,(i64.wrap (xd.2.2.1 + 1)),xd.2.2.2.1,s11d.1,s11d.2.1,xd.2.2.2.2.2.2.1,s11d.2.2.1,s11d.2.2.2))
 | p9 (d1:(decide (xd.2.2.1 < ((N_acts:Nat):Int))) = false):lawPlays_L1n N_acts d_acts acts xd (.inr (xd.1,xd.2.1,xd.2.2.1,xd.2.2.2.1,xd.2.2.2.2.1,xd.2.2.2.2.2.1,xd.2.2.2.2.2.2.1,xd.2.2.2.2.2.2.2.1,xd.2.2.2.2.2.2.2.2))
def lawPlays_L1n_T (N_acts:Nat) (d_acts:Nat) (acts:Nat → Act) (xd:(List Sprite) × (List Man) × Int × Bool × Pic × RPic × (Nat → Int) × (Nat → Int) × (Nat → Int)):Tm:=[(6,.bool xd.2.2.2.1),(7,pt 1006),(8,pt 1010),(27,sd 1000 d_acts N_acts),(28,.int .i64 ((N_acts:Nat):Int)),(29,.int .i64 xd.2.2.1)]
def lawPlays_L1n_H (N_acts:Nat) (d_acts:Nat) (acts:Nat → Act) (xd:(List Sprite) × (List Man) × Int × Bool × Pic × RPic × (Nat → Int) × (Nat → Int) × (Nat → Int)):Heap:=[(1000,⟨[.gap d_acts,.rows N_acts 5 (fun i => Act.cells (acts i))],50,true⟩),(1006,(Pic.bl xd.2.2.2.2.1 (sl 1013 (List.length xd.1) 5) false)),(1007,⟨[.ints .u8 16384 xd.2.2.2.2.2.2.2.1],5,false⟩),(1008,⟨[.ints .u8 256 xd.2.2.2.2.2.2.2.2],5,false⟩),(1009,⟨[.ints .u8 61440 xd.2.2.2.2.2.2.1],5,false⟩),(1010,(RPic.bl xd.2.2.2.2.2.1 (sl 1007 16384 1) (sl 1008 256 1) (sl 1014 (List.length xd.2.1) 4) (sl 1009 61440 1) false)),(1013,⟨[rowsL Sprite.cells Sprite.nil 5 xd.1],92,false⟩),(1014,⟨[rowsL Man.cells Man.nil 4 xd.2.1],119,false⟩)]
def lawPlays_L1n_T1 (N_acts:Nat) (d_acts:Nat) (acts:Nat → Act) (y_:(List Sprite) × (List Man) × Int × Bool × Pic × RPic × (Nat → Int) × (Nat → Int) × (Nat → Int)):Tm:=lawPlays_L1n_T N_acts d_acts acts y_
def lawPlays_L1n_H1 (N_acts:Nat) (d_acts:Nat) (acts:Nat → Act) (y_:(List Sprite) × (List Man) × Int × Bool × Pic × RPic × (Nat → Int) × (Nat → Int) × (Nat → Int)):Heap:=lawPlays_L1n_H N_acts d_acts acts y_
def lawPlays_L1n_ex (_:(List Sprite) × (List Man) × Int × Bool × Pic × RPic × (Nat → Int) × (Nat → Int) × (Nat → Int)):Ex:=.exit 0
theorem lawPlays_L1n_p1 (N_acts:Nat) (d_acts:Nat) (acts:Nat → Act) (xd:(List Sprite) × (List Man) × Int × Bool × Pic × RPic × (Nat → Int) × (Nat → Int) × (Nat → Int)) (d1:(OPk8 xd N_acts) = true) (w7d:0 ≤ xd.2.2.1 ∧ xd.2.2.1 < ((N_acts:Nat):Int)) (d2:(decide (xd.2.2.1 ≥ 30)) = true):RunsM Try.prog 127 OPk5 1013 (lawPlays_L1n_T N_acts d_acts acts xd) (lawPlays_L1n_H N_acts d_acts acts xd) 1015 (.exit 0) (lawPlays_L1n_T1 N_acts d_acts acts (OPk4 xd)) (lawPlays_L1n_H1 N_acts d_acts acts (OPk4 xd)) 1015:=by
 exact runsM_of_x hG hM 400 1013 [.yes,.sym,.row (Int.toNat xd.2.2.1) 0,.yes] [(1000,1000),(1006,1006),(1007,1007),(1008,1008),(1009,1009),(1010,1010),(1013,1013),(1014,1014)] (J d1 (J w7d (J (Eq.refl d_acts) (J (Eq.refl (OPk13 xd)) (J (lt_nat w7d) (J d2 trivial)))))) (by kernel_rfl)
theorem lawPlays_L1n_p2 (N_acts:Nat) (d_acts:Nat) (acts:Nat → Act) (xd:(List Sprite) × (List Man) × Int × Bool × Pic × RPic × (Nat → Int) × (Nat → Int) × (Nat → Int)) (d1:(OPk8 xd N_acts) = true) (w7d:0 ≤ xd.2.2.1 ∧ xd.2.2.1 < ((N_acts:Nat):Int)) (d2:(decide (xd.2.2.1 ≥ 30)) = false) (d3:((OPk3 acts xd) == 3) = true) (w8d:Pic.ok xd.2.2.2.2.1) (w9d:0 ≤ xd.2.2.2.2.2.1.At ∧ xd.2.2.2.2.2.1.At < ((256:Nat):Int)) (w10d:0 ≤ rBits xd.2.2.2.2.2.1.S.V) (d4:((i64.wrap ((pGet xd.2.2.2.2.1 xd.1 ((OPk0 acts xd).Reg)).2)) != (OPk2 xd acts).2) = false):RunsM Try.prog 127 OPk5 1013 (lawPlays_L1n_T N_acts d_acts acts xd) (lawPlays_L1n_H N_acts d_acts acts xd) 1015 .normal (lawPlays_L1n_T N_acts d_acts acts (OPk7 xd acts)) (lawPlays_L1n_H N_acts d_acts acts (OPk7 xd acts)) 1015:=by
 exact runsM_of_x hG hM 400 1013 [.yes,.sym,.row (Int.toNat xd.2.2.1) 0,.no,.yes,.call [(1006,1000),(1013,1001)] [] 1002 (.int .u8 ((pGet xd.2.2.2.2.1 xd.1 ((OPk0 acts xd).Reg)).2)) [(1000,(Pic.bl ((pGet xd.2.2.2.2.1 xd.1 ((OPk0 acts xd).Reg)).1) (sl 1001 (List.length xd.1) 5) false)),(1001,⟨[rowsL Sprite.cells Sprite.nil 5 xd.1],92,false⟩)],.call [(1010,1000),(1007,1001),(1008,1002),(1009,1003),(1014,1004)] [] 1005 (.int .i64 ((OPk2 xd acts).2)) [(1000,(RPic.bl ((OPk2 xd acts).1) (sl 1001 16384 1) (sl 1002 256 1) (sl 1004 (List.length xd.2.1) 4) (sl 1003 61440 1) false)),(1001,⟨[.ints .u8 16384 xd.2.2.2.2.2.2.2.1],5,false⟩),(1002,⟨[.ints .u8 256 xd.2.2.2.2.2.2.2.2],5,false⟩),(1003,⟨[.ints .u8 61440 xd.2.2.2.2.2.2.1],5,false⟩),(1004,⟨[rowsL Man.cells Man.nil 4 xd.2.1],119,false⟩)],.no] [(1000,1000),(1006,1006),(1007,1007),(1008,1008),(1009,1009),(1010,1010),(1013,1013),(1014,1014)] (J d1 (J w7d (J (Eq.refl d_acts) (J (Eq.refl (OPk13 xd)) (J (lt_nat w7d) (J d2 (J (by decide:((9:Int) ≠ 0)) (J d3 (J (pGet_ok xd.2.2.2.2.1 xd.1 ((OPk0 acts xd).Reg) w8d) (J (rGet_ok xd.2.2.2.2.2.1 xd.2.2.2.2.2.2.2.1 xd.2.2.2.2.2.2.2.2 xd.2.2.2.2.2.2.1 xd.2.1 (i64.wrap ((OPk0 acts xd).Reg)) w9d w10d) (J d4 trivial))))))))))) (by kernel_rfl)
abbrev OPk12 (s10d:St) (xd:(List Sprite) × (List Man) × Int × Bool × Pic × RPic × (Nat → Int) × (Nat → Int) × (Nat → Int)):=(s10d.2.2.2.1,s10d.2.2.2.2,(i64.wrap (xd.2.2.1 + 1)),xd.2.2.2.1,s10d.1,s10d.2.1,s10d.2.2.1,xd.2.2.2.2.2.2.2.1,xd.2.2.2.2.2.2.2.2)
theorem lawPlays_L1n_p3 (N_acts:Nat) (d_acts:Nat) (acts:Nat → Act) (xd:(List Sprite) × (List Man) × Int × Bool × Pic × RPic × (Nat → Int) × (Nat → Int) × (Nat → Int)) (d1:(OPk8 xd N_acts) = true) (w7d:0 ≤ xd.2.2.1 ∧ xd.2.2.1 < ((N_acts:Nat):Int)) (d2:(decide (xd.2.2.1 ≥ 30)) = false) (d3:((OPk3 acts xd) == 3) = false) (d4:((OPk3 acts xd) == 4) = true) (w8d:Both xd.2.2.2.2.1 xd.1 xd.2.2.2.2.2.1 xd.2.2.2.2.2.2.2.1 xd.2.2.2.2.2.2.2.2 xd.2.2.2.2.2.2.1 xd.2.1) (w9d:0 ≤ (OPk9 acts xd) ∧ (OPk9 acts xd) < 1000000000) (s10d:St) (es10d:s10d = stepF xd.2.2.2.2.1 xd.2.2.2.2.2.1 xd.2.2.2.2.2.2.2.1 xd.2.2.2.2.2.2.2.2 xd.2.2.2.2.2.2.1 (OPk9 acts xd) xd.1 xd.2.1):RunsM Try.prog 127 OPk5 1013 (lawPlays_L1n_T N_acts d_acts acts xd) (lawPlays_L1n_H N_acts d_acts acts xd) 1015 .normal (lawPlays_L1n_T N_acts d_acts acts (OPk12 s10d xd)) (lawPlays_L1n_H N_acts d_acts acts (OPk12 s10d xd)) 1015:=by
 exact runsM_of_x hG hM 400 1013 [.yes,.sym,.row (Int.toNat xd.2.2.1) 0,.no,.no,.yes,.yes,.call [(1006,1000),(1010,1001),(1007,1002),(1008,1003),(1009,1004),(1013,1005),(1014,1006)] [(1007,1016),(1008,1017)] 1007 (.bool true) [(1000,(Pic.bl s10d.1 (sl 1007 (List.length s10d.2.2.2.1) 5) false)),(1001,(RPic.bl s10d.2.1 (sl 1002 16384 1) (sl 1003 256 1) (sl 1008 (List.length s10d.2.2.2.2) 4) (sl 1004 61440 1) false)),(1002,⟨[.ints .u8 16384 xd.2.2.2.2.2.2.2.1],5,false⟩),(1003,⟨[.ints .u8 256 xd.2.2.2.2.2.2.2.2],5,false⟩),(1004,⟨[.ints .u8 61440 s10d.2.2.1],5,false⟩),(1007,⟨[rowsL Sprite.cells Sprite.nil 5 s10d.2.2.2.1],92,false⟩),(1008,⟨[rowsL Man.cells Man.nil 4 s10d.2.2.2.2],119,false⟩)],.no] [(1000,1000),(1006,1006),(1007,1007),(1008,1008),(1009,1009),(1010,1010),(1016,1013),(1017,1014)] (J d1 (J w7d (J (Eq.refl d_acts) (J (Eq.refl (OPk13 xd)) (J (lt_nat w7d) (J d2 (J (by decide:((9:Int) ≠ 0)) (J d3 (J d4 (J d4 (J (by decide:((1200:Int) ≠ 0)) (J (stepF_let xd.2.2.2.2.1 xd.2.2.2.2.2.1 xd.2.2.2.2.2.2.2.1 xd.2.2.2.2.2.2.2.2 xd.2.2.2.2.2.2.1 (OPk9 acts xd) xd.1 xd.2.1 w8d w9d s10d es10d) (J T0 trivial))))))))))))) (by kernel_rfl)
theorem lawPlays_L1n_p4 (N_acts:Nat) (d_acts:Nat) (acts:Nat → Act) (xd:(List Sprite) × (List Man) × Int × Bool × Pic × RPic × (Nat → Int) × (Nat → Int) × (Nat → Int)) (d1:(OPk8 xd N_acts) = true) (w7d:0 ≤ xd.2.2.1 ∧ xd.2.2.1 < ((N_acts:Nat):Int)) (d2:(decide (xd.2.2.1 ≥ 30)) = false) (d3:((OPk3 acts xd) == 3) = false) (d4:((OPk3 acts xd) == 4) = false) (d5:((OPk3 acts xd) == 5) = true) (w8d:Both xd.2.2.2.2.1 xd.1 xd.2.2.2.2.2.1 xd.2.2.2.2.2.2.2.1 xd.2.2.2.2.2.2.2.2 xd.2.2.2.2.2.2.1 xd.2.1) (w9d:0 ≤ (OPk9 acts xd) ∧ (OPk9 acts xd) < 1000000000) (s10d:St) (es10d:s10d = stepF xd.2.2.2.2.1 xd.2.2.2.2.2.1 xd.2.2.2.2.2.2.2.1 xd.2.2.2.2.2.2.2.2 xd.2.2.2.2.2.2.1 (OPk9 acts xd) xd.1 xd.2.1):RunsM Try.prog 127 OPk5 1013 (lawPlays_L1n_T N_acts d_acts acts xd) (lawPlays_L1n_H N_acts d_acts acts xd) 1015 .normal (lawPlays_L1n_T N_acts d_acts acts (OPk12 s10d xd)) (lawPlays_L1n_H N_acts d_acts acts (OPk12 s10d xd)) 1015:=by
 exact runsM_of_x hG hM 400 1013 [.yes,.sym,.row (Int.toNat xd.2.2.1) 0,.no,.no,.no,.yes,.call [(1006,1000),(1010,1001),(1007,1002),(1008,1003),(1009,1004),(1013,1005),(1014,1006)] [(1007,1016),(1008,1017)] 1007 (.bool true) [(1000,(Pic.bl s10d.1 (sl 1007 (List.length s10d.2.2.2.1) 5) false)),(1001,(RPic.bl s10d.2.1 (sl 1002 16384 1) (sl 1003 256 1) (sl 1008 (List.length s10d.2.2.2.2) 4) (sl 1004 61440 1) false)),(1002,⟨[.ints .u8 16384 xd.2.2.2.2.2.2.2.1],5,false⟩),(1003,⟨[.ints .u8 256 xd.2.2.2.2.2.2.2.2],5,false⟩),(1004,⟨[.ints .u8 61440 s10d.2.2.1],5,false⟩),(1007,⟨[rowsL Sprite.cells Sprite.nil 5 s10d.2.2.2.1],92,false⟩),(1008,⟨[rowsL Man.cells Man.nil 4 s10d.2.2.2.2],119,false⟩)],.no] [(1000,1000),(1006,1006),(1007,1007),(1008,1008),(1009,1009),(1010,1010),(1016,1013),(1017,1014)] (J d1 (J w7d (J (Eq.refl d_acts) (J (Eq.refl (OPk13 xd)) (J (lt_nat w7d) (J d2 (J (by decide:((9:Int) ≠ 0)) (J d3 (J d4 (J d5 (J (by decide:((1200:Int) ≠ 0)) (J (stepF_let xd.2.2.2.2.1 xd.2.2.2.2.2.1 xd.2.2.2.2.2.2.2.1 xd.2.2.2.2.2.2.2.2 xd.2.2.2.2.2.2.1 (OPk9 acts xd) xd.1 xd.2.1 w8d w9d s10d es10d) (J T0 trivial))))))))))))) (by kernel_rfl)
theorem lawPlays_L1n_p5 (N_acts:Nat) (d_acts:Nat) (acts:Nat → Act) (xd:(List Sprite) × (List Man) × Int × Bool × Pic × RPic × (Nat → Int) × (Nat → Int) × (Nat → Int)) (d1:(OPk8 xd N_acts) = true) (w7d:0 ≤ xd.2.2.1 ∧ xd.2.2.1 < ((N_acts:Nat):Int)) (d2:(decide (xd.2.2.1 ≥ 30)) = false) (d3:((OPk3 acts xd) == 3) = false) (d4:((OPk3 acts xd) == 4) = false) (d5:((OPk3 acts xd) == 5) = false) (d6:((OPk3 acts xd) == 6) = true) (w8d:0 ≤ (i64.wrap ((OPk0 acts xd).At))):RunsM Try.prog 127 OPk5 1013 (lawPlays_L1n_T N_acts d_acts acts xd) (lawPlays_L1n_H N_acts d_acts acts xd) 1015 .normal (lawPlays_L1n_T N_acts d_acts acts (OPk1 xd acts)) (lawPlays_L1n_H N_acts d_acts acts (OPk1 xd acts)) 1015:=by
 exact runsM_of_x hG hM 400 1013 [.yes,.sym,.row (Int.toNat xd.2.2.1) 0,.no,.no,.no,.no,.yes,.call [(1006,1000),(1013,1001)] [] 1002 (.tuple ⟨[]⟩) [(1000,(Pic.bl (pPoke xd.2.2.2.2.1 xd.1 ((OPk0 acts xd).At) ((OPk0 acts xd).B)) (sl 1001 (List.length xd.1) 5) false)),(1001,⟨[rowsL Sprite.cells Sprite.nil 5 xd.1],92,false⟩)],.call [(1010,1000),(1007,1001),(1008,1002),(1009,1003),(1014,1004)] [] 1005 (.tuple ⟨[]⟩) [(1000,(RPic.bl xd.2.2.2.2.2.1 (sl 1001 16384 1) (sl 1002 256 1) (sl 1004 (List.length xd.2.1) 4) (sl 1003 61440 1) false)),(1001,⟨[.ints .u8 16384 (rPoke xd.2.2.2.2.2.1 xd.2.2.2.2.2.2.2.1 xd.2.2.2.2.2.2.2.2 xd.2.2.2.2.2.2.1 xd.2.1 (i64.wrap ((OPk0 acts xd).At)) (i64.wrap ((OPk0 acts xd).B)))],5,false⟩),(1002,⟨[.ints .u8 256 xd.2.2.2.2.2.2.2.2],5,false⟩),(1003,⟨[.ints .u8 61440 xd.2.2.2.2.2.2.1],5,false⟩),(1004,⟨[rowsL Man.cells Man.nil 4 xd.2.1],119,false⟩)]] [(1000,1000),(1006,1006),(1007,1007),(1008,1008),(1009,1009),(1010,1010),(1013,1013),(1014,1014)] (J d1 (J w7d (J (Eq.refl d_acts) (J (Eq.refl (OPk13 xd)) (J (lt_nat w7d) (J d2 (J (by decide:((9:Int) ≠ 0)) (J d3 (J d4 (J d5 (J d6 (J (pPoke_ok xd.2.2.2.2.1 xd.1 ((OPk0 acts xd).At) ((OPk0 acts xd).B)) (J (rPoke_ok xd.2.2.2.2.2.1 xd.2.2.2.2.2.2.2.1 xd.2.2.2.2.2.2.2.2 xd.2.2.2.2.2.2.1 xd.2.1 (i64.wrap ((OPk0 acts xd).At)) (i64.wrap ((OPk0 acts xd).B)) w8d) trivial))))))))))))) (by kernel_rfl)
theorem lawPlays_L1n_p6 (N_acts:Nat) (d_acts:Nat) (acts:Nat → Act) (xd:(List Sprite) × (List Man) × Int × Bool × Pic × RPic × (Nat → Int) × (Nat → Int) × (Nat → Int)) (d1:(OPk8 xd N_acts) = true) (w7d:0 ≤ xd.2.2.1 ∧ xd.2.2.1 < ((N_acts:Nat):Int)) (d2:(decide (xd.2.2.1 ≥ 30)) = false) (d3:((OPk3 acts xd) == 3) = false) (d4:((OPk3 acts xd) == 4) = false) (d5:((OPk3 acts xd) == 5) = false) (d6:((OPk3 acts xd) == 6) = false) (d7:((OPk3 acts xd) == 7) = true) (w8d:0 ≤ (i64.wrap ((OPk0 acts xd).At))) (d8:((i64.wrap (pPeek xd.2.2.2.2.1 xd.1 ((OPk0 acts xd).At))) != (rPeek xd.2.2.2.2.2.1 xd.2.2.2.2.2.2.2.1 xd.2.2.2.2.2.2.2.2 xd.2.2.2.2.2.2.1 xd.2.1 (i64.wrap ((OPk0 acts xd).At)))) = false):RunsM Try.prog 127 OPk5 1013 (lawPlays_L1n_T N_acts d_acts acts xd) (lawPlays_L1n_H N_acts d_acts acts xd) 1015 .normal (lawPlays_L1n_T N_acts d_acts acts (OPk10 xd)) (lawPlays_L1n_H N_acts d_acts acts (OPk10 xd)) 1015:=by
 exact runsM_of_x hG hM 400 1013 [.yes,.sym,.row (Int.toNat xd.2.2.1) 0,.no,.no,.no,.no,.no,.yes,.call [(1006,1000),(1013,1001)] [] 1002 (.int .u8 (pPeek xd.2.2.2.2.1 xd.1 ((OPk0 acts xd).At))) [(1000,(Pic.bl xd.2.2.2.2.1 (sl 1001 (List.length xd.1) 5) false)),(1001,⟨[rowsL Sprite.cells Sprite.nil 5 xd.1],92,false⟩)],.callr [(1010,1000),(1007,1001),(1008,1002),(1009,1003),(1014,1004)] [1007,1008,1009,1010,1014] [] 1005 (.int .i64 (rPeek xd.2.2.2.2.2.1 xd.2.2.2.2.2.2.2.1 xd.2.2.2.2.2.2.2.2 xd.2.2.2.2.2.2.1 xd.2.1 (i64.wrap ((OPk0 acts xd).At)))) [],.no] [(1000,1000),(1006,1006),(1007,1007),(1008,1008),(1009,1009),(1010,1010),(1013,1013),(1014,1014)] (J d1 (J w7d (J (Eq.refl d_acts) (J (Eq.refl (OPk13 xd)) (J (lt_nat w7d) (J d2 (J (by decide:((9:Int) ≠ 0)) (J d3 (J d4 (J d5 (J d6 (J d7 (J (pPeek_ok xd.2.2.2.2.1 xd.1 ((OPk0 acts xd).At)) (J (rPeek_ok xd.2.2.2.2.2.1 xd.2.2.2.2.2.2.2.1 xd.2.2.2.2.2.2.2.2 xd.2.2.2.2.2.2.1 xd.2.1 (i64.wrap ((OPk0 acts xd).At)) w8d) (J d8 trivial))))))))))))))) (by kernel_rfl)
theorem lawPlays_L1n_p7 (N_acts:Nat) (d_acts:Nat) (acts:Nat → Act) (xd:(List Sprite) × (List Man) × Int × Bool × Pic × RPic × (Nat → Int) × (Nat → Int) × (Nat → Int)) (d1:(OPk8 xd N_acts) = true) (w7d:0 ≤ xd.2.2.1 ∧ xd.2.2.1 < ((N_acts:Nat):Int)) (d2:(decide (xd.2.2.1 ≥ 30)) = false) (d3:((OPk3 acts xd) == 3) = false) (d4:((OPk3 acts xd) == 4) = false) (d5:((OPk3 acts xd) == 5) = false) (d6:((OPk3 acts xd) == 6) = false) (d7:((OPk3 acts xd) == 7) = false) (d8:((OPk3 acts xd) == 8) = true):RunsM Try.prog 127 OPk5 1013 (lawPlays_L1n_T N_acts d_acts acts xd) (lawPlays_L1n_H N_acts d_acts acts xd) 1015 .normal (lawPlays_L1n_T N_acts d_acts acts (OPk6 xd acts)) (lawPlays_L1n_H N_acts d_acts acts (OPk6 xd acts)) 1015:=by
 exact runsM_of_x hG hM 400 1013 [.yes,.sym,.row (Int.toNat xd.2.2.1) 0,.no,.no,.no,.no,.no,.no,.yes,.call [(1006,1000),(1013,1001)] [] 1002 (.tuple ⟨[]⟩) [(1000,(Pic.bl (pUpright xd.2.2.2.2.1 xd.1 ((Int.tmod ((OPk0 acts xd).B) 2) == 1)) (sl 1001 (List.length xd.1) 5) false)),(1001,⟨[rowsL Sprite.cells Sprite.nil 5 xd.1],92,false⟩)]] [(1000,1000),(1006,1006),(1007,1007),(1008,1008),(1009,1009),(1010,1010),(1013,1013),(1014,1014)] (J d1 (J w7d (J (Eq.refl d_acts) (J (Eq.refl (OPk13 xd)) (J (lt_nat w7d) (J d2 (J (by decide:((9:Int) ≠ 0)) (J d3 (J d4 (J d5 (J d6 (J d7 (J d8 (J (by decide:((2:Int) ≠ 0)) (J (pUpright_ok xd.2.2.2.2.1 xd.1 ((Int.tmod ((OPk0 acts xd).B) 2) == 1)) (J (by decide:((2:Int) ≠ 0)) trivial)))))))))))))))) (by kernel_rfl)
theorem lawPlays_L1n_p8 (N_acts:Nat) (d_acts:Nat) (acts:Nat → Act) (xd:(List Sprite) × (List Man) × Int × Bool × Pic × RPic × (Nat → Int) × (Nat → Int) × (Nat → Int)) (d1:(OPk8 xd N_acts) = true) (w7d:0 ≤ xd.2.2.1 ∧ xd.2.2.1 < ((N_acts:Nat):Int)) (d2:(decide (xd.2.2.1 ≥ 30)) = false) (d3:((OPk3 acts xd) == 3) = false) (d4:((OPk3 acts xd) == 4) = false) (d5:((OPk3 acts xd) == 5) = false) (d6:((OPk3 acts xd) == 6) = false) (d7:((OPk3 acts xd) == 7) = false) (d8:((OPk3 acts xd) == 8) = false) (w8d:Pic.ok xd.2.2.2.2.1) (w9d:0 ≤ xd.2.2.2.2.2.1.At ∧ xd.2.2.2.2.2.1.At < ((256:Nat):Int)) (w10d:0 ≤ rBits xd.2.2.2.2.2.1.S.V) (s11d:Pic × RPic × (Nat → Int) × (Nat → Int)) (es11d:s11d = both xd.2.2.2.2.1 xd.2.2.2.2.2.1 xd.2.2.2.2.2.2.2.1 xd.2.2.2.2.2.2.2.2 xd.2.2.2.2.2.2.1 ((OPk0 acts xd).Reg) ((OPk0 acts xd).B) xd.1 xd.2.1):RunsM Try.prog 127 OPk5 1013 (lawPlays_L1n_T N_acts d_acts acts xd) (lawPlays_L1n_H N_acts d_acts acts xd) 1015 .normal (lawPlays_L1n_T N_acts d_acts acts (xd.1,xd.2.1,(i64.wrap (xd.2.2.1 + 1)),xd.2.2.2.1,s11d.1,s11d.2.1,xd.2.2.2.2.2.2.1,s11d.2.2.1,s11d.2.2.2)) (lawPlays_L1n_H N_acts d_acts acts (xd.1,xd.2.1,(i64.wrap (xd.2.2.1 + 1)),xd.2.2.2.1,s11d.1,s11d.2.1,xd.2.2.2.2.2.2.1,s11d.2.2.1,s11d.2.2.2)) 1015:=by
 exact runsM_of_x hG hM 400 1013 [.yes,.sym,.row (Int.toNat xd.2.2.1) 0,.no,.no,.no,.no,.no,.no,.no,.call [(1006,1000),(1010,1001),(1007,1002),(1008,1003),(1009,1004),(1013,1005),(1014,1006)] [] 1007 (.tuple ⟨[]⟩) [(1000,(Pic.bl s11d.1 (sl 1005 (List.length xd.1) 5) false)),(1001,(RPic.bl s11d.2.1 (sl 1002 16384 1) (sl 1003 256 1) (sl 1006 (List.length xd.2.1) 4) (sl 1004 61440 1) false)),(1002,⟨[.ints .u8 16384 s11d.2.2.1],5,false⟩),(1003,⟨[.ints .u8 256 s11d.2.2.2],5,false⟩),(1004,⟨[.ints .u8 61440 xd.2.2.2.2.2.2.1],5,false⟩),(1005,⟨[rowsL Sprite.cells Sprite.nil 5 xd.1],92,false⟩),(1006,⟨[rowsL Man.cells Man.nil 4 xd.2.1],119,false⟩)]] [(1000,1000),(1006,1006),(1007,1007),(1008,1008),(1009,1009),(1010,1010),(1013,1013),(1014,1014)] (J d1 (J w7d (J (Eq.refl d_acts) (J (Eq.refl (OPk13 xd)) (J (lt_nat w7d) (J d2 (J (by decide:((9:Int) ≠ 0)) (J d3 (J d4 (J d5 (J d6 (J d7 (J d8 (J (both_let xd.2.2.2.2.1 xd.2.2.2.2.2.1 xd.2.2.2.2.2.2.2.1 xd.2.2.2.2.2.2.2.2 xd.2.2.2.2.2.2.1 ((OPk0 acts xd).Reg) ((OPk0 acts xd).B) xd.1 xd.2.1 w8d w9d w10d s11d es11d) trivial)))))))))))))) (by kernel_rfl)
theorem lawPlays_L1n_p9 (N_acts:Nat) (d_acts:Nat) (acts:Nat → Act) (xd:(List Sprite) × (List Man) × Int × Bool × Pic × RPic × (Nat → Int) × (Nat → Int) × (Nat → Int)) (d1:(OPk8 xd N_acts) = false):RunsM Try.prog 127 OPk5 1013 (lawPlays_L1n_T N_acts d_acts acts xd) (lawPlays_L1n_H N_acts d_acts acts xd) 1015 (.exit 0) (lawPlays_L1n_T1 N_acts d_acts acts (OPk4 xd)) (lawPlays_L1n_H1 N_acts d_acts acts (OPk4 xd)) 1015:=by
 exact runsM_of_x hG hM 400 1013 [.no] [(1000,1000),(1006,1006),(1007,1007),(1008,1008),(1009,1009),(1010,1010),(1013,1013),(1014,1014)] (J d1 trivial) (by kernel_rfl)
theorem lawPlays_L1n_runs (N_acts:Nat) (d_acts:Nat) (acts:Nat → Act) (x_:(List Sprite) × (List Man) × Int × Bool × Pic × RPic × (Nat → Int) × (Nat → Int) × (Nat → Int)) (y_:(List Sprite) × (List Man) × Int × Bool × Pic × RPic × (Nat → Int) × (Nat → Int) × (Nat → Int)) (h_:LoopR (lawPlays_L1n N_acts d_acts acts) x_ y_):RunsM Try.prog 127 (.block 0 (.loop OPk5)) 1013 (lawPlays_L1n_T N_acts d_acts acts x_) (lawPlays_L1n_H N_acts d_acts acts x_) 1015 (outOf 0 (lawPlays_L1n_ex y_)) (lawPlays_L1n_T1 N_acts d_acts acts y_) (lawPlays_L1n_H1 N_acts d_acts acts y_) 1015:=by
 refine block_loopM hG (lawPlays_L1n N_acts d_acts acts) (lawPlays_L1n_T N_acts d_acts acts) (lawPlays_L1n_H N_acts d_acts acts) lawPlays_L1n_ex (lawPlays_L1n_T1 N_acts d_acts acts) (lawPlays_L1n_H1 N_acts d_acts acts) ?_ ?_ ?_ x_ y_ h_
 ·intro s r _ hr;cases hr
 ·intro xd y_ hx
  cases hx with
  | p2 d1 w7d d2 d3 w8d w9d w10d d4 => exact lawPlays_L1n_p2 N_acts d_acts acts xd d1 w7d d2 d3 w8d w9d w10d d4
  | p3 d1 w7d d2 d3 d4 w8d w9d s10d es10d => exact lawPlays_L1n_p3 N_acts d_acts acts xd d1 w7d d2 d3 d4 w8d w9d s10d es10d
  | p4 d1 w7d d2 d3 d4 d5 w8d w9d s10d es10d => exact lawPlays_L1n_p4 N_acts d_acts acts xd d1 w7d d2 d3 d4 d5 w8d w9d s10d es10d
  | p5 d1 w7d d2 d3 d4 d5 d6 w8d => exact lawPlays_L1n_p5 N_acts d_acts acts xd d1 w7d d2 d3 d4 d5 d6 w8d
  | p6 d1 w7d d2 d3 d4 d5 d6 d7 w8d d8 => exact lawPlays_L1n_p6 N_acts d_acts acts xd d1 w7d d2 d3 d4 d5 d6 d7 w8d d8
  | p7 d1 w7d d2 d3 d4 d5 d6 d7 d8 => exact lawPlays_L1n_p7 N_acts d_acts acts xd d1 w7d d2 d3 d4 d5 d6 d7 d8
  | p8 d1 w7d d2 d3 d4 d5 d6 d7 d8 w8d w9d w10d s11d es11d => exact lawPlays_L1n_p8 N_acts d_acts acts xd d1 w7d d2 d3 d4 d5 d6 d7 d8 w8d w9d w10d s11d es11d
 ·intro xd y_ hx
  cases hx with
  | p1 d1 w7d d2 => exact lawPlays_L1n_p1 N_acts d_acts acts xd d1 w7d d2
  | p9 d1 => exact lawPlays_L1n_p9 N_acts d_acts acts xd d1
theorem lawPlays_p1 (nTz:Nat) (dTz:Nat) (sTz:Nat → Int) (nNz:Nat) (dNz:Nat) (sNz:Nat → Int) (nKz:Nat) (dKz:Nat) (sKz:Nat → Int) (nMz:Nat) (dMz:Nat) (sMz:Nat → Int) (sUz:Bool) (N_acts:Nat) (d_acts:Nat) (acts:Nat → Act) (late:Bool) (hN:(N_acts:Int) ≤ 9223372036854775807) (w1c:∀ j,rng 256 (sTz j)) (w2c:∀ j,rng 256 (sNz j)) (w3c:∀ j,rng 256 (sKz j)) (w4c:∀ j,rng 256 (sMz j)) (w5c:Both picZero ([]:List Sprite) rZero (fun _ => 0) (fun _ => 0) (fun _ => 0) ([]:List Man)) (s6c:Ly) (es6c:s6c = layF picZero rZero (fun _ => 0) (fun _ => 0) (fun _ => 0) nTz dTz sTz nNz dNz sNz nKz dKz sKz nMz dMz sMz sUz ([]:List Sprite) ([]:List Man)) (c1:late = true) (w7c:Both s6c.1 ([]:List Sprite) s6c.2.1 s6c.2.2.1 s6c.2.2.2 (fun _ => 0) ([]:List Man)) (s8c:St) (es8c:s8c = stepF s6c.1 s6c.2.1 s6c.2.2.1 s6c.2.2.2 (fun _ => 0) 81499 ([]:List Sprite) ([]:List Man)) (r1:(List Sprite) × (List Man) × Int × Bool × Pic × RPic × (Nat → Int) × (Nat → Int) × (Nat → Int)) (l1:LoopR (lawPlays_L1y N_acts d_acts acts) (s8c.2.2.2.1,s8c.2.2.2.2,0,false,s8c.1,s8c.2.1,s8c.2.2.1,s6c.2.2.1,s6c.2.2.2) r1) (w9c:(List.length (pScreenF r1.2.2.2.2.1 r1.1)) = 61440) (w10c:∀ j,j < 61440 → List.getD (pScreenF r1.2.2.2.2.1 r1.1) j 0 = r1.2.2.2.2.2.2.1 j):FnSpec Try.prog 8 1005 [.agg ⟨[sd 1001 dTz nTz,sd 1002 dNz nNz,sd 1003 dKz nKz,sd 1004 dMz nMz,.bool sUz]⟩,sd 1000 d_acts N_acts,.bool late] [(1000,⟨[.gap d_acts,.rows N_acts 5 (fun i => Act.cells (acts i))],50,true⟩),(1001,gB dTz nTz sTz),(1002,gB dNz nNz sNz),(1003,gB dKz nKz sKz),(1004,gB dMz nMz sMz)] (.bool (((((List.length (pScreenF r1.2.2.2.2.1 r1.1)):Nat):Int):Int) == 61440)) []:=by
 exact fn_of_x hG hM Try.func8 (by kernel_rfl) (by kernel_rfl) 400 [.call [] [] 1000 (.bool true) [],.no,.call [] [(1000,1006)] 1000 (pt 1000) [(1000,(Pic.bl picZero (.slice none 0 0) false))],.call [] [(1000,1007),(1001,1008),(1002,1009),(1003,1010)] 1000 (pt 1003) [(1000,iB 16384 (fun _ => 0) false),(1001,iB 256 (fun _ => 0) false),(1002,iB 61440 (fun _ => 0) false),(1003,RPic.bl rZero (sl 1000 16384 1) (sl 1001 256 1) (.slice none 0 0) (sl 1002 61440 1) false)],.call [(1006,1000),(1010,1001),(1007,1002),(1008,1003),(1009,1004),(1001,1005),(1002,1006),(1003,1007),(1004,1008)] [(1009,1011),(1010,1012)] 1009 (.tuple ⟨[]⟩) [(1000,(Pic.bl s6c.1 (sl 1009 (List.length ([]:List Sprite)) 5) false)),(1001,(RPic.bl s6c.2.1 (sl 1002 16384 1) (sl 1003 256 1) (sl 1010 (List.length ([]:List Man)) 4) (sl 1004 61440 1) false)),(1002,⟨[.ints .u8 16384 s6c.2.2.1],5,false⟩),(1003,⟨[.ints .u8 256 s6c.2.2.2],5,false⟩),(1004,iB 61440 (fun _ => 0) false),(1009,sB ([]:List Sprite) false),(1010,mB ([]:List Man) false)],.yes,.yes,.yes,.call [(1006,1000),(1010,1001),(1007,1002),(1008,1003),(1009,1004),(1011,1005),(1012,1006)] [(1007,1013),(1008,1014)] 1007 (.bool true) [(1000,(Pic.bl s8c.1 (sl 1007 (List.length s8c.2.2.2.1) 5) false)),(1001,(RPic.bl s8c.2.1 (sl 1002 16384 1) (sl 1003 256 1) (sl 1008 (List.length s8c.2.2.2.2) 4) (sl 1004 61440 1) false)),(1002,⟨[.ints .u8 16384 s6c.2.2.1],5,false⟩),(1003,⟨[.ints .u8 256 s6c.2.2.2],5,false⟩),(1004,⟨[.ints .u8 61440 s8c.2.2.1],5,false⟩),(1007,⟨[rowsL Sprite.cells Sprite.nil 5 s8c.2.2.2.1],92,false⟩),(1008,⟨[rowsL Man.cells Man.nil 4 s8c.2.2.2.2],119,false⟩)],.yes,.yes,.no,.segk 1 0 [6,7,8,27,28,29] [1000,1006,1007,1008,1009,1010,1013,1014] .normal (lawPlays_L1y_T1 N_acts d_acts acts r1) (lawPlays_L1y_H1 N_acts d_acts acts r1) 1017,.call [(1006,1000),(1015,1001)] [(1002,1017)] 1002 (sl 1002 (List.length (pScreenF r1.2.2.2.2.1 r1.1)) 1) [(1000,(Pic.bl r1.2.2.2.2.1 (sl 1001 (List.length r1.1) 5) false)),(1001,⟨[rowsL Sprite.cells Sprite.nil 5 r1.1],92,false⟩),(1002,⟨[intsL .u8 (pScreenF r1.2.2.2.2.1 r1.1)],5,false⟩)],.callr [(1017,1000),(1009,1001)] [1009,1017] [] 1002 (.bool true) [],.yes,.yes,.call [(1006,1000),(1015,1001)] [(1002,1018)] 1002 (sl 1002 (List.length (pScreenF r1.2.2.2.2.1 r1.1)) 1) [(1000,(Pic.bl r1.2.2.2.2.1 (sl 1001 (List.length r1.1) 5) false)),(1001,⟨[rowsL Sprite.cells Sprite.nil 5 r1.1],92,false⟩),(1002,⟨[intsL .u8 (pScreenF r1.2.2.2.2.1 r1.1)],5,false⟩)],.yes,.yes,.yes] (J awake_ok (J T0 (J new_ok (J rnew_ok (J (fn_nil hG (layF_let picZero rZero (fun _ => 0) (fun _ => 0) (fun _ => 0) nTz dTz sTz nNz dNz sNz nKz dKz sKz nMz dMz sMz sUz ([]:List Sprite) ([]:List Man) w1c w2c w3c w4c w5c s6c es6c) [(1000,1000),(1001,1001),(1002,1002),(1003,1003),(1004,1004),(1005,1005),(1006,1006),(1007,1007),(1008,1008)] 1009 [pt 1000,pt 1001,.agg ⟨[sd 1005 dTz nTz,sd 1006 dNz nNz,sd 1007 dKz nKz,sd 1008 dMz nMz,.bool sUz]⟩] [(1000,(Pic.bl picZero (.slice none 0 0) false)),(1001,(RPic.bl rZero (sl 1002 16384 1) (sl 1003 256 1) (.slice none 0 0) (sl 1004 61440 1) false)),(1002,iB 16384 (fun _ => 0) false),(1003,iB 256 (fun _ => 0) false),(1004,iB 61440 (fun _ => 0) false),(1005,gB dTz nTz sTz),(1006,gB dNz nNz sNz),(1007,gB dKz nKz sKz),(1008,gB dMz nMz sMz)] (by kernel_rfl)) (J c1 (J c1 (J c1 (J (stepF_let s6c.1 s6c.2.1 s6c.2.2.1 s6c.2.2.2 (fun _ => 0) 81499 ([]:List Sprite) ([]:List Man) w7c (by decide:(0:Int) ≤ 81499 ∧ (81499:Int) < 1000000000) s8c es8c) (J c1 (J c1 (J T0 (J (runs_of_pre hG (lawPlays_L1y_runs N_acts d_acts acts (s8c.2.2.2.1,s8c.2.2.2.2,0,false,s8c.1,s8c.2.1,s8c.2.2.1,s6c.2.2.1,s6c.2.2.2) r1 l1) [(1000,1000),(1006,1006),(1007,1007),(1008,1008),(1009,1009),(1010,1010),(1013,1015),(1014,1016)] (T:=[(6,.bool false),(7,pt 1006),(8,pt 1010),(27,sd 1000 d_acts N_acts),(28,.int .i64 ((N_acts:Nat):Int)),(29,.int .i64 0)]) (H:=[(1000,⟨[.gap d_acts,.rows N_acts 5 (fun i => Act.cells (acts i))],50,true⟩),(1006,(Pic.bl s8c.1 (sl 1013 (List.length s8c.2.2.2.1) 5) false)),(1007,⟨[.ints .u8 16384 s6c.2.2.1],5,false⟩),(1008,⟨[.ints .u8 256 s6c.2.2.2],5,false⟩),(1009,⟨[.ints .u8 61440 s8c.2.2.1],5,false⟩),(1010,(RPic.bl s8c.2.1 (sl 1007 16384 1) (sl 1008 256 1) (sl 1014 (List.length s8c.2.2.2.2) 4) (sl 1009 61440 1) false)),(1013,⟨[rowsL Sprite.cells Sprite.nil 5 s8c.2.2.2.1],92,false⟩),(1014,⟨[rowsL Man.cells Man.nil 4 s8c.2.2.2.2],119,false⟩)]) (by kernel_rfl)) (J (pScreenF_ok r1.2.2.2.2.1 r1.1) (J (sameL_ok (pScreenF r1.2.2.2.2.1 r1.1) r1.2.2.2.2.2.2.1 w9c w10c) (J T1 (J T1 (J (pScreenF_ok r1.2.2.2.2.1 r1.1) (J T1 (J T1 (J T1 trivial))))))))))))))))))))) (by kernel_rfl)
theorem lawPlays_p2 (nTz:Nat) (dTz:Nat) (sTz:Nat → Int) (nNz:Nat) (dNz:Nat) (sNz:Nat → Int) (nKz:Nat) (dKz:Nat) (sKz:Nat → Int) (nMz:Nat) (dMz:Nat) (sMz:Nat → Int) (sUz:Bool) (N_acts:Nat) (d_acts:Nat) (acts:Nat → Act) (late:Bool) (hN:(N_acts:Int) ≤ 9223372036854775807) (w1c:∀ j,rng 256 (sTz j)) (w2c:∀ j,rng 256 (sNz j)) (w3c:∀ j,rng 256 (sKz j)) (w4c:∀ j,rng 256 (sMz j)) (w5c:Both picZero ([]:List Sprite) rZero (fun _ => 0) (fun _ => 0) (fun _ => 0) ([]:List Man)) (s6c:Ly) (es6c:s6c = layF picZero rZero (fun _ => 0) (fun _ => 0) (fun _ => 0) nTz dTz sTz nNz dNz sNz nKz dKz sKz nMz dMz sMz sUz ([]:List Sprite) ([]:List Man)) (c1:late = false) (r1:(List Sprite) × (List Man) × Int × Bool × Pic × RPic × (Nat → Int) × (Nat → Int) × (Nat → Int)) (l1:LoopR (lawPlays_L1n N_acts d_acts acts) (([]:List Sprite),([]:List Man),0,false,s6c.1,s6c.2.1,(fun _ => 0),s6c.2.2.1,s6c.2.2.2) r1) (w7c:(List.length (pScreenF r1.2.2.2.2.1 r1.1)) = 61440) (w8c:∀ j,j < 61440 → List.getD (pScreenF r1.2.2.2.2.1 r1.1) j 0 = r1.2.2.2.2.2.2.1 j):FnSpec Try.prog 8 1005 [.agg ⟨[sd 1001 dTz nTz,sd 1002 dNz nNz,sd 1003 dKz nKz,sd 1004 dMz nMz,.bool sUz]⟩,sd 1000 d_acts N_acts,.bool late] [(1000,⟨[.gap d_acts,.rows N_acts 5 (fun i => Act.cells (acts i))],50,true⟩),(1001,gB dTz nTz sTz),(1002,gB dNz nNz sNz),(1003,gB dKz nKz sKz),(1004,gB dMz nMz sMz)] (.bool (((((List.length (pScreenF r1.2.2.2.2.1 r1.1)):Nat):Int):Int) == 61440)) []:=by
 exact fn_of_x hG hM Try.func8 (by kernel_rfl) (by kernel_rfl) 400 [.call [] [] 1000 (.bool true) [],.no,.call [] [(1000,1006)] 1000 (pt 1000) [(1000,(Pic.bl picZero (.slice none 0 0) false))],.call [] [(1000,1007),(1001,1008),(1002,1009),(1003,1010)] 1000 (pt 1003) [(1000,iB 16384 (fun _ => 0) false),(1001,iB 256 (fun _ => 0) false),(1002,iB 61440 (fun _ => 0) false),(1003,RPic.bl rZero (sl 1000 16384 1) (sl 1001 256 1) (.slice none 0 0) (sl 1002 61440 1) false)],.call [(1006,1000),(1010,1001),(1007,1002),(1008,1003),(1009,1004),(1001,1005),(1002,1006),(1003,1007),(1004,1008)] [(1009,1011),(1010,1012)] 1009 (.tuple ⟨[]⟩) [(1000,(Pic.bl s6c.1 (sl 1009 (List.length ([]:List Sprite)) 5) false)),(1001,(RPic.bl s6c.2.1 (sl 1002 16384 1) (sl 1003 256 1) (sl 1010 (List.length ([]:List Man)) 4) (sl 1004 61440 1) false)),(1002,⟨[.ints .u8 16384 s6c.2.2.1],5,false⟩),(1003,⟨[.ints .u8 256 s6c.2.2.2],5,false⟩),(1004,iB 61440 (fun _ => 0) false),(1009,sB ([]:List Sprite) false),(1010,mB ([]:List Man) false)],.no,.no,.no,.no,.no,.no,.segk 1 0 [6,7,8,27,28,29] [1000,1006,1007,1008,1009,1010,1011,1012] .normal (lawPlays_L1n_T1 N_acts d_acts acts r1) (lawPlays_L1n_H1 N_acts d_acts acts r1) 1015,.call [(1006,1000),(1013,1001)] [(1002,1015)] 1002 (sl 1002 (List.length (pScreenF r1.2.2.2.2.1 r1.1)) 1) [(1000,(Pic.bl r1.2.2.2.2.1 (sl 1001 (List.length r1.1) 5) false)),(1001,⟨[rowsL Sprite.cells Sprite.nil 5 r1.1],92,false⟩),(1002,⟨[intsL .u8 (pScreenF r1.2.2.2.2.1 r1.1)],5,false⟩)],.callr [(1015,1000),(1009,1001)] [1009,1015] [] 1002 (.bool true) [],.yes,.yes,.call [(1006,1000),(1013,1001)] [(1002,1016)] 1002 (sl 1002 (List.length (pScreenF r1.2.2.2.2.1 r1.1)) 1) [(1000,(Pic.bl r1.2.2.2.2.1 (sl 1001 (List.length r1.1) 5) false)),(1001,⟨[rowsL Sprite.cells Sprite.nil 5 r1.1],92,false⟩),(1002,⟨[intsL .u8 (pScreenF r1.2.2.2.2.1 r1.1)],5,false⟩)],.yes,.yes,.yes] (J awake_ok (J T0 (J new_ok (J rnew_ok (J (fn_nil hG (layF_let picZero rZero (fun _ => 0) (fun _ => 0) (fun _ => 0) nTz dTz sTz nNz dNz sNz nKz dKz sKz nMz dMz sMz sUz ([]:List Sprite) ([]:List Man) w1c w2c w3c w4c w5c s6c es6c) [(1000,1000),(1001,1001),(1002,1002),(1003,1003),(1004,1004),(1005,1005),(1006,1006),(1007,1007),(1008,1008)] 1009 [pt 1000,pt 1001,.agg ⟨[sd 1005 dTz nTz,sd 1006 dNz nNz,sd 1007 dKz nKz,sd 1008 dMz nMz,.bool sUz]⟩] [(1000,(Pic.bl picZero (.slice none 0 0) false)),(1001,(RPic.bl rZero (sl 1002 16384 1) (sl 1003 256 1) (.slice none 0 0) (sl 1004 61440 1) false)),(1002,iB 16384 (fun _ => 0) false),(1003,iB 256 (fun _ => 0) false),(1004,iB 61440 (fun _ => 0) false),(1005,gB dTz nTz sTz),(1006,gB dNz nNz sNz),(1007,gB dKz nKz sKz),(1008,gB dMz nMz sMz)] (by kernel_rfl)) (J c1 (J c1 (J c1 (J c1 (J c1 (J T0 (J (runs_of_pre hG (lawPlays_L1n_runs N_acts d_acts acts (([]:List Sprite),([]:List Man),0,false,s6c.1,s6c.2.1,(fun _ => 0),s6c.2.2.1,s6c.2.2.2) r1 l1) [(1000,1000),(1006,1006),(1007,1007),(1008,1008),(1009,1009),(1010,1010),(1011,1013),(1012,1014)] (T:=[(6,.bool false),(7,pt 1006),(8,pt 1010),(27,sd 1000 d_acts N_acts),(28,.int .i64 ((N_acts:Nat):Int)),(29,.int .i64 0)]) (H:=[(1000,⟨[.gap d_acts,.rows N_acts 5 (fun i => Act.cells (acts i))],50,true⟩),(1006,(Pic.bl s6c.1 (sl 1011 (List.length ([]:List Sprite)) 5) false)),(1007,⟨[.ints .u8 16384 s6c.2.2.1],5,false⟩),(1008,⟨[.ints .u8 256 s6c.2.2.2],5,false⟩),(1009,iB 61440 (fun _ => 0) false),(1010,(RPic.bl s6c.2.1 (sl 1007 16384 1) (sl 1008 256 1) (sl 1012 (List.length ([]:List Man)) 4) (sl 1009 61440 1) false)),(1011,sB ([]:List Sprite) false),(1012,mB ([]:List Man) false)]) (by kernel_rfl)) (J (pScreenF_ok r1.2.2.2.2.1 r1.1) (J (sameL_ok (pScreenF r1.2.2.2.2.1 r1.1) r1.2.2.2.2.2.2.1 w7c w8c) (J T1 (J T1 (J (pScreenF_ok r1.2.2.2.2.1 r1.1) (J T1 (J T1 (J T1 trivial)))))))))))))))))))) (by kernel_rfl)
end Go.Proofs.Ytgnhhnmpeklciaa
namespace Go.Proofs.Ytgnhhnmpeklciaa
open Go VX
open Go.IntKind (i64 u8 u16)
theorem zero_same:Same picZero rZero (fun _ => 0) (fun _ => 0):=
 ⟨zero_ok,fun _ _ => by show (0:Int) < 64;decide,fun _ _ => rfl,fun _ _ => rfl,fun _ _ => rfl,fun _ _ => rfl,rfl,
  ⟨good_of 0 0 0 false ⟨by decide,by decide⟩ ⟨by decide,by decide⟩ ⟨by decide,by decide⟩,rfl,rfl,rfl,rfl⟩,rfl,rfl,rfl,rfl,rfl,rfl⟩
theorem zero_both:Both picZero ([]:List Sprite) rZero (fun _ => 0) (fun _ => 0) (fun _ => 0) ([]:List Man):=
 ⟨zero_same,fun _ => rng0,fun _ => rng0,rfl,rfl,⟨by decide,by decide⟩,⟨by decide,by decide⟩,rfl,rfl,fun _ _ => rfl,rfl,fun _ h => absurd h (by simp),by decide⟩
section
variable {p:Pic} {L:List Sprite} {r:RPic} {M N S:Nat → Int} {C:List Man} (b:Both p L r M N S C)
include b
theorem Both.A:0 ≤ r.At ∧ r.At < ((256:Nat):Int):=by rw [b.same.man];exact b.same.ok.man
theorem Both.B:0 ≤ rBits r.S.V:=by rw [bits_same b.same];exact b.same.sc.good.v0
theorem Both.put (reg v:Int) (wr:rng 256 reg) (wv:rng 256 v):Both (both p r M N S reg v L C).1 L (both p r M N S reg v L C).2.1 (both p r M N S reg v L C).2.2.1 (both p r M N S reg v L C).2.2.2 S C:=by
 have q:=both_put b reg v wr wv
 have e:both p r M N S reg v L C = (pPut p L reg v,(rPut r M N S C reg v).1,(rPut r M N S C reg v).2.1,(rPut r M N S C reg v).2.2):=by
  unfold both;rw [rw256 wr,rw256 wv]
 rw [e];exact q
theorem Both.step (n:Int):BothS M N (stepF p r M N S n L C):=run_both n.toNat (z:=(p,r,S,L,C)) b
end
end Go.Proofs.Ytgnhhnmpeklciaa
namespace Go.Proofs.Ytgnhhnmpeklciaa
open Go VX
open Go.IntKind (i64 u8 u16)
theorem scrL_get (f:Nat → Int):∀ (n j:Nat),j < 256 * n → (scrL f n).getD j 0 = f j
 | 0,j,h => by omega
 | n + 1,j,h => by
  show (scrL f n ++ rowL f (n * 256 + 0) 256).getD j 0 = f j
  rw [List.getD_eq_getElem?_getD]
  by_cases c:j < 256 * n
  ·rw [List.getElem?_append_left (by rw [scrL_len];exact c),← List.getD_eq_getElem?_getD]
   exact scrL_get f n j c
  ·rw [List.getElem?_append_right (by rw [scrL_len];omega),← List.getD_eq_getElem?_getD,scrL_len,rowL_get f _ _ _ (by omega)]
   congr 1;omega
theorem plays_stepY (acts:Nat → Act) (w:∀ j,Act.ok (acts j)) (N d i:Nat) (hi:i < N) (h30:i < 30) (L:List Sprite) (C:List Man) (p:Pic) (r:RPic) (S M T:Nat → Int) (b:Both p L r M T S C) :
  ∃ L' C' p' r' S' M' T',lawPlays_L1y N d acts (L,C,(i:Int),false,p,r,S,M,T) (.inl (L',C',((i + 1:Nat):Int),false,p',r',S',M',T')) ∧ Both p' L' r' M' T' S' C':=by
 have hw:i64.wrap ((i:Int) + 1) = ((i + 1:Nat):Int):=by rw [w64 (by omega) (by omega)];omega
 have d1:(decide ((i:Int) < ((N:Nat):Int))) = true:=decide_eq_true (by omega)
 have w10:0 ≤ (i:Int) ∧ (i:Int) < ((N:Nat):Int):=by omega
 have d2:(decide ((i:Int) ≥ 30)) = false:=decide_eq_false (by omega)
 have wa:=w (Int.toNat (i:Int))
 have hR:=rw256 wa.Reg
 have hB:=rw256 wa.B
 have hA:i64.wrap (acts (Int.toNat (i:Int))).At = (acts (Int.toNat (i:Int))).At:=by
  have h1:=wa.At.1
  have h2:(acts (Int.toNat (i:Int))).At < 65536:=wa.At.2
  rw [w64 (by omega) (by omega)]
 have hn:0 ≤ i64.wrap (Int.tmod (acts (Int.toNat (i:Int))).N 1200) ∧ i64.wrap (Int.tmod (acts (Int.toNat (i:Int))).N 1200) < 1000000000:=by
  have h1:=wa.N.1
  rw [tm_e 1200 h1,w64 (by omega) (by omega)];omega
 have hA0:0 ≤ (acts (Int.toNat (i:Int))).At:=wa.At.1
 have hA1:(acts (Int.toNat (i:Int))).At < 65536:=wa.At.2
 rcases bt (((Int.tmod (acts (Int.toNat (i:Int))).Do 9):Int) == 3) with d3 | d3
 ·obtain ⟨e,q⟩:=both_get b (acts (Int.toNat (i:Int))).Reg
  have st:=lawPlays_L1y.p2 (N_acts:=N) (d_acts:=d) (acts:=acts) (xd:=(L,C,(i:Int),false,p,r,S,M,T)) d1 w10 d2 d3 b.same.ok b.A b.B (by
   show (i64.wrap (pGet p L (acts (Int.toNat (i:Int))).Reg).2 != (rGet r M T S C (i64.wrap (acts (Int.toNat (i:Int))).Reg)).2) = false
   rw [hR,e,rw256 (pGet_w2 p L _ b.same.ok wa.Reg)];simp)
  simp only [hw,hR] at st
  exact ⟨_,_,_,_,_,_,_,st,q⟩
 rcases bt (((Int.tmod (acts (Int.toNat (i:Int))).Do 9):Int) == 4) with d4 | d4
 ·have st:=lawPlays_L1y.p3 (N_acts:=N) (d_acts:=d) (acts:=acts) (xd:=(L,C,(i:Int),false,p,r,S,M,T)) d1 w10 d2 d3 d4 b hn _ rfl
  simp only [hw] at st
  exact ⟨_,_,_,_,_,_,_,st,b.step _⟩
 rcases bt (((Int.tmod (acts (Int.toNat (i:Int))).Do 9):Int) == 5) with d5 | d5
 ·have st:=lawPlays_L1y.p4 (N_acts:=N) (d_acts:=d) (acts:=acts) (xd:=(L,C,(i:Int),false,p,r,S,M,T)) d1 w10 d2 d3 d4 d5 b hn _ rfl
  simp only [hw] at st
  exact ⟨_,_,_,_,_,_,_,st,b.step _⟩
 rcases bt (((Int.tmod (acts (Int.toNat (i:Int))).Do 9):Int) == 6) with d6 | d6
 ·have st:=lawPlays_L1y.p5 (N_acts:=N) (d_acts:=d) (acts:=acts) (xd:=(L,C,(i:Int),false,p,r,S,M,T)) d1 w10 d2 d3 d4 d5 d6 (by show 0 ≤ i64.wrap (acts (Int.toNat (i:Int))).At;rw [hA];exact hA0)
  simp only [hw,hA,hB] at st
  exact ⟨_,_,_,_,_,_,_,st,both_poke b _ _ hA0 hA1 wa.B⟩
 rcases bt (((Int.tmod (acts (Int.toNat (i:Int))).Do 9):Int) == 7) with d7 | d7
 ·have st:=lawPlays_L1y.p6 (N_acts:=N) (d_acts:=d) (acts:=acts) (xd:=(L,C,(i:Int),false,p,r,S,M,T)) d1 w10 d2 d3 d4 d5 d6 d7 (by show 0 ≤ i64.wrap (acts (Int.toNat (i:Int))).At;rw [hA];exact hA0) (by
   show (i64.wrap (pPeek p L (acts (Int.toNat (i:Int))).At) != rPeek r M T S C (i64.wrap (acts (Int.toNat (i:Int))).At)) = false
   rw [hA,peek_same b.same _ hA0 hA1 L,rw256 (peek_rng b.same _ L)];simp)
  simp only [hw] at st
  exact ⟨_,_,_,_,_,_,_,st,b⟩
 rcases bt (((Int.tmod (acts (Int.toNat (i:Int))).Do 9):Int) == 8) with d8 | d8
 ·have st:=lawPlays_L1y.p7 (N_acts:=N) (d_acts:=d) (acts:=acts) (xd:=(L,C,(i:Int),false,p,r,S,M,T)) d1 w10 d2 d3 d4 d5 d6 d7 d8
  simp only [hw] at st
  exact ⟨_,_,_,_,_,_,_,st,both_up b _⟩
 ·have st:=lawPlays_L1y.p8 (N_acts:=N) (d_acts:=d) (acts:=acts) (xd:=(L,C,(i:Int),false,p,r,S,M,T)) d1 w10 d2 d3 d4 d5 d6 d7 d8 b.same.ok b.A b.B _ rfl
  simp only [hw] at st
  exact ⟨_,_,_,_,_,_,_,st,b.put _ _ wa.Reg wa.B⟩
theorem plays_loopY (acts:Nat → Act) (w:∀ j,Act.ok (acts j)) (N d:Nat):∀ (n i:Nat),i + n = min N 30 → ∀ (L:List Sprite) (C:List Man) (p:Pic) (r:RPic) (S M T:Nat → Int),Both p L r M T S C →
  ∃ L' C' i' p' r' S' M' T',LoopR (lawPlays_L1y N d acts) (L,C,(i:Int),false,p,r,S,M,T) (L',C',i',false,p',r',S',M',T') ∧ Both p' L' r' M' T' S' C'
 | 0,i,hi,L,C,p,r,S,M,T,b => by
  refine ⟨L,C,i,p,r,S,M,T,.last ?_,b⟩
  by_cases h:i < N
  ·exact .p1 (decide_eq_true (by show (i:Int) < ((N:Nat):Int);omega)) (by show 0 ≤ (i:Int) ∧ (i:Int) < ((N:Nat):Int);omega) (decide_eq_true (by show (i:Int) ≥ 30;omega))
  ·exact .p9 (decide_eq_false (by show ¬ ((i:Int) < ((N:Nat):Int));omega))
 | n + 1,i,hi,L,C,p,r,S,M,T,b => by
  obtain ⟨L1,C1,p1,r1,S1,M1,T1,st,b1⟩:=plays_stepY acts w N d i (by omega) (by omega) L C p r S M T b
  obtain ⟨L2,C2,i2,p2,r2,S2,M2,T2,t,b2⟩:=plays_loopY acts w N d n (i + 1) (by omega) L1 C1 p1 r1 S1 M1 T1 b1
  exact ⟨L2,C2,i2,p2,r2,S2,M2,T2,.more st t,b2⟩
theorem plays_stepN (acts:Nat → Act) (w:∀ j,Act.ok (acts j)) (N d i:Nat) (hi:i < N) (h30:i < 30) (L:List Sprite) (C:List Man) (p:Pic) (r:RPic) (S M T:Nat → Int) (b:Both p L r M T S C) :
  ∃ L' C' p' r' S' M' T',lawPlays_L1n N d acts (L,C,(i:Int),false,p,r,S,M,T) (.inl (L',C',((i + 1:Nat):Int),false,p',r',S',M',T')) ∧ Both p' L' r' M' T' S' C':=by
 have hw:i64.wrap ((i:Int) + 1) = ((i + 1:Nat):Int):=by rw [w64 (by omega) (by omega)];omega
 have d1:(decide ((i:Int) < ((N:Nat):Int))) = true:=decide_eq_true (by omega)
 have w10:0 ≤ (i:Int) ∧ (i:Int) < ((N:Nat):Int):=by omega
 have d2:(decide ((i:Int) ≥ 30)) = false:=decide_eq_false (by omega)
 have wa:=w (Int.toNat (i:Int))
 have hR:=rw256 wa.Reg
 have hB:=rw256 wa.B
 have hA:i64.wrap (acts (Int.toNat (i:Int))).At = (acts (Int.toNat (i:Int))).At:=by
  have h1:=wa.At.1
  have h2:(acts (Int.toNat (i:Int))).At < 65536:=wa.At.2
  rw [w64 (by omega) (by omega)]
 have hn:0 ≤ i64.wrap (Int.tmod (acts (Int.toNat (i:Int))).N 1200) ∧ i64.wrap (Int.tmod (acts (Int.toNat (i:Int))).N 1200) < 1000000000:=by
  have h1:=wa.N.1
  rw [tm_e 1200 h1,w64 (by omega) (by omega)];omega
 have hA0:0 ≤ (acts (Int.toNat (i:Int))).At:=wa.At.1
 have hA1:(acts (Int.toNat (i:Int))).At < 65536:=wa.At.2
 rcases bt (((Int.tmod (acts (Int.toNat (i:Int))).Do 9):Int) == 3) with d3 | d3
 ·obtain ⟨e,q⟩:=both_get b (acts (Int.toNat (i:Int))).Reg
  have st:=lawPlays_L1n.p2 (N_acts:=N) (d_acts:=d) (acts:=acts) (xd:=(L,C,(i:Int),false,p,r,S,M,T)) d1 w10 d2 d3 b.same.ok b.A b.B (by
   show (i64.wrap (pGet p L (acts (Int.toNat (i:Int))).Reg).2 != (rGet r M T S C (i64.wrap (acts (Int.toNat (i:Int))).Reg)).2) = false
   rw [hR,e,rw256 (pGet_w2 p L _ b.same.ok wa.Reg)];simp)
  simp only [hw,hR] at st
  exact ⟨_,_,_,_,_,_,_,st,q⟩
 rcases bt (((Int.tmod (acts (Int.toNat (i:Int))).Do 9):Int) == 4) with d4 | d4
 ·have st:=lawPlays_L1n.p3 (N_acts:=N) (d_acts:=d) (acts:=acts) (xd:=(L,C,(i:Int),false,p,r,S,M,T)) d1 w10 d2 d3 d4 b hn _ rfl
  simp only [hw] at st
  exact ⟨_,_,_,_,_,_,_,st,b.step _⟩
 rcases bt (((Int.tmod (acts (Int.toNat (i:Int))).Do 9):Int) == 5) with d5 | d5
 ·have st:=lawPlays_L1n.p4 (N_acts:=N) (d_acts:=d) (acts:=acts) (xd:=(L,C,(i:Int),false,p,r,S,M,T)) d1 w10 d2 d3 d4 d5 b hn _ rfl
  simp only [hw] at st
  exact ⟨_,_,_,_,_,_,_,st,b.step _⟩
 rcases bt (((Int.tmod (acts (Int.toNat (i:Int))).Do 9):Int) == 6) with d6 | d6
 ·have st:=lawPlays_L1n.p5 (N_acts:=N) (d_acts:=d) (acts:=acts) (xd:=(L,C,(i:Int),false,p,r,S,M,T)) d1 w10 d2 d3 d4 d5 d6 (by show 0 ≤ i64.wrap (acts (Int.toNat (i:Int))).At;rw [hA];exact hA0)
  simp only [hw,hA,hB] at st
  exact ⟨_,_,_,_,_,_,_,st,both_poke b _ _ hA0 hA1 wa.B⟩
 rcases bt (((Int.tmod (acts (Int.toNat (i:Int))).Do 9):Int) == 7) with d7 | d7
 ·have st:=lawPlays_L1n.p6 (N_acts:=N) (d_acts:=d) (acts:=acts) (xd:=(L,C,(i:Int),false,p,r,S,M,T)) d1 w10 d2 d3 d4 d5 d6 d7 (by show 0 ≤ i64.wrap (acts (Int.toNat (i:Int))).At;rw [hA];exact hA0) (by
   show (i64.wrap (pPeek p L (acts (Int.toNat (i:Int))).At) != rPeek r M T S C (i64.wrap (acts (Int.toNat (i:Int))).At)) = false
   rw [hA,peek_same b.same _ hA0 hA1 L,rw256 (peek_rng b.same _ L)];simp)
  simp only [hw] at st
  exact ⟨_,_,_,_,_,_,_,st,b⟩
 rcases bt (((Int.tmod (acts (Int.toNat (i:Int))).Do 9):Int) == 8) with d8 | d8
 ·have st:=lawPlays_L1n.p7 (N_acts:=N) (d_acts:=d) (acts:=acts) (xd:=(L,C,(i:Int),false,p,r,S,M,T)) d1 w10 d2 d3 d4 d5 d6 d7 d8
  simp only [hw] at st
  exact ⟨_,_,_,_,_,_,_,st,both_up b _⟩
 ·have st:=lawPlays_L1n.p8 (N_acts:=N) (d_acts:=d) (acts:=acts) (xd:=(L,C,(i:Int),false,p,r,S,M,T)) d1 w10 d2 d3 d4 d5 d6 d7 d8 b.same.ok b.A b.B _ rfl
  simp only [hw] at st
  exact ⟨_,_,_,_,_,_,_,st,b.put _ _ wa.Reg wa.B⟩
theorem plays_loopN (acts:Nat → Act) (w:∀ j,Act.ok (acts j)) (N d:Nat):∀ (n i:Nat),i + n = min N 30 → ∀ (L:List Sprite) (C:List Man) (p:Pic) (r:RPic) (S M T:Nat → Int),Both p L r M T S C →
  ∃ L' C' i' p' r' S' M' T',LoopR (lawPlays_L1n N d acts) (L,C,(i:Int),false,p,r,S,M,T) (L',C',i',false,p',r',S',M',T') ∧ Both p' L' r' M' T' S' C'
 | 0,i,hi,L,C,p,r,S,M,T,b => by
  refine ⟨L,C,i,p,r,S,M,T,.last ?_,b⟩
  by_cases h:i < N
  ·exact .p1 (decide_eq_true (by show (i:Int) < ((N:Nat):Int);omega)) (by show 0 ≤ (i:Int) ∧ (i:Int) < ((N:Nat):Int);omega) (decide_eq_true (by show (i:Int) ≥ 30;omega))
  ·exact .p9 (decide_eq_false (by show ¬ ((i:Int) < ((N:Nat):Int));omega))
 | n + 1,i,hi,L,C,p,r,S,M,T,b => by
  obtain ⟨L1,C1,p1,r1,S1,M1,T1,st,b1⟩:=plays_stepN acts w N d i (by omega) (by omega) L C p r S M T b
  obtain ⟨L2,C2,i2,p2,r2,S2,M2,T2,t,b2⟩:=plays_loopN acts w N d n (i + 1) (by omega) L1 C1 p1 r1 S1 M1 T1 b1
  exact ⟨L2,C2,i2,p2,r2,S2,M2,T2,.more st t,b2⟩
theorem plays_true (nTz:Nat) (dTz:Nat) (sTz:Nat → Int) (nNz:Nat) (dNz:Nat) (sNz:Nat → Int) (nKz:Nat) (dKz:Nat) (sKz:Nat → Int) (nMz:Nat) (dMz:Nat) (sMz:Nat → Int) (sUz:Bool) (N_acts d_acts:Nat) (acts:Nat → Act) (late:Bool)
  (w1:∀ j,rng 256 (sTz j)) (w2:∀ j,rng 256 (sNz j)) (w3:∀ j,rng 256 (sKz j)) (w4:∀ j,rng 256 (sMz j)) (wa:∀ j,Act.ok (acts j)) (hN:(N_acts:Int) ≤ 9223372036854775807) :
  FnSpec Try.prog 8 1005 [.agg ⟨[sd 1001 dTz nTz,sd 1002 dNz nNz,sd 1003 dKz nKz,sd 1004 dMz nMz,.bool sUz]⟩,sd 1000 d_acts N_acts,.bool late] [(1000,⟨[.gap d_acts,.rows N_acts 5 (fun i => Act.cells (acts i))],50,true⟩),(1001,gB dTz nTz sTz),(1002,gB dNz nNz sNz),(1003,gB dKz nKz sKz),(1004,gB dMz nMz sMz)] (.bool true) []:=by
 obtain ⟨z1,e1⟩:∃ z,z = layF picZero rZero (fun _ => 0) (fun _ => 0) (fun _ => 0) nTz dTz sTz nNz dNz sNz nKz dKz sKz nMz dMz sMz sUz ([]:List Sprite) ([]:List Man):=⟨_,rfl⟩
 have b1:Both z1.1 [] z1.2.1 z1.2.2.1 z1.2.2.2 (fun _ => 0) []:=by
  rw [e1];exact (lay_both picZero rZero (fun _ => 0) (fun _ => 0) (fun _ => 0) nTz dTz sTz nNz dNz sNz nKz dKz sKz nMz dMz sMz sUz [] [] w1 w2 w3 w4 zero_both).2
 have hl:∀ (p:Pic) (L:List Sprite),List.length (pScreenF p L) = 61440:=fun p L => by show (scrL p.screen 240).length = _;rw [scrL_len]
 have hs:∀ {p:Pic} {L:List Sprite} {r:RPic} {S M T:Nat → Int} {C:List Man},Both p L r M T S C → ∀ j,j < 61440 → List.getD (pScreenF p L) j 0 = S j:=fun {p L r S M T C} b j hj => by
  show (scrL p.screen 240).getD j 0 = S j
  rw [scrL_get p.screen 240 j (by omega),b.screen j hj]
 rcases bt late with c1 | c1
 ·obtain ⟨z2,e2⟩:∃ z,z = stepF z1.1 z1.2.1 z1.2.2.1 z1.2.2.2 (fun _ => 0) 81499 [] []:=⟨_,rfl⟩
  have b2:Both z2.1 z2.2.2.2.1 z2.2.1 z1.2.2.1 z1.2.2.2 z2.2.2.1 z2.2.2.2.2:=by rw [e2];exact b1.step 81499
  obtain ⟨L',C',i',p',r',S',M',T',t,b3⟩:=plays_loopY acts wa N_acts d_acts (min N_acts 30) 0 (by omega) _ _ _ _ _ _ _ b2
  have P:=lawPlays_p1 nTz dTz sTz nNz dNz sNz nKz dKz sKz nMz dMz sMz sUz N_acts d_acts acts late hN w1 w2 w3 w4 zero_both z1 e1 c1 b1 z2 e2 (L',C',i',false,p',r',S',M',T') t (hl p' L') (hs b3)
  rw [show ((((List.length (pScreenF ((L',C',i',false,p',r',S',M',T'):(List Sprite) × (List Man) × Int × Bool × Pic × RPic × (Nat → Int) × (Nat → Int) × (Nat → Int)).2.2.2.2.1 L'):Nat):Int):Int) == 61440) = true by rw [hl];decide] at P
  exact P
 ·obtain ⟨L',C',i',p',r',S',M',T',t,b3⟩:=plays_loopN acts wa N_acts d_acts (min N_acts 30) 0 (by omega) _ _ _ _ _ _ _ b1
  have P:=lawPlays_p2 nTz dTz sTz nNz dNz sNz nKz dKz sKz nMz dMz sMz sUz N_acts d_acts acts late hN w1 w2 w3 w4 zero_both z1 e1 c1 (L',C',i',false,p',r',S',M',T') t (hl p' L') (hs b3)
  rw [show ((((List.length (pScreenF ((L',C',i',false,p',r',S',M',T'):(List Sprite) × (List Man) × Int × Bool × Pic × RPic × (Nat → Int) × (Nat → Int) × (Nat → Int)).2.2.2.2.1 L'):Nat):Int):Int) == 61440) = true by rw [hl];decide] at P
  exact P
end Go.Proofs.Ytgnhhnmpeklciaa
namespace Go.Proofs.Ytgnhhnmpeklciaa.VX
open Go Go.RowKit Go.WideShapes Go.ChangeShapes Go.WideElems
def HandedAt (W:World) (z:Nat) (cells:Nat → List Value) (N d:Nat) (v:Value):Prop:=
 ∃ b,b < W.heap.size ∧ (∀ μ ty,BlkRel μ ⟨[.gap d,.rows N z cells],ty,true⟩ W.heap[b]?) ∧ ∀ (μ:Mu) (id:Nat),μ id = some b → VRel μ (.slice (some ⟨id,0,some d⟩) N 0) v
theorem lt_of_some {α:Type} {a:Array α} {i:Nat} {x:α} (h:a[i]? = some x):i < a.size:=by
 apply Classical.byContradiction
 intro hc
 rw [Array.getElem?_eq_none (by omega)] at h
 cases h
theorem open_handed {H:Type} {enc:TypeId × Value → H} {P:Program} {W:World} {r:Reach} {b0 base:Nat} {sp:Nat → Bool} {held:Bool} {t e:TypeId} {v:Value} {dd:DataW H} {p:List MemPlace} {z:Nat}
  (ht:P.underlying t = some (.slice e)) (hz:P.cellsOf e = z) (hpos:0 < z) {α:Type} (cells:α → List Value) (ok:α → Prop) (x0:α) (hx0:ok x0) (hfl:∀ a,(cells a).all scalar = true)
  (open1:∀ (fuel:Nat) (cs:List Value) (x:DataW H × List MemPlace),DataW.trod enc P W base sp held fuel e cs = some x → ∃ a,ok a ∧ cs = cells a)
  (hany:∃ (b:Nat) (cs:Array Value) (ty:TypeId) (fr:Nat × Nat),W.heap[b]? = some (Obj.cells cs ty fr))
  (hval:Value.okWide P W r b0 t v) (h:DataW.Trod enc P W base sp held t v dd p) :
  ∃ (N d:Nat) (g:Nat → α),(∀ j,ok (g j)) ∧ HandedAt W z (fun i => cells (g i)) N d v:=by
 obtain ⟨ba,ca,ta,fa,hba⟩:=hany
 have empty:∀ (a:Option Addr) (c:Nat),v = .slice a 0 c → ∃ (N d:Nat) (g:Nat → α),(∀ j,ok (g j)) ∧ HandedAt W z (fun i => cells (g i)) N d v:=by
  rintro a c rfl
  refine ⟨0,0,fun _ => x0,fun _ => hx0,ba,lt_of_some hba,fun μ ty => ⟨ca,ta,fa,hba,(fun hro => nomatch hro),fun off u hu => ?_⟩,fun μ id hid => .sliceE _ _ _ _ _ _ (.inl rfl)⟩
  exfalso
  simp only [Blk.get?] at hu
  have e5:segsGet? [.gap 0,.rows 0 z (fun i => cells x0)] off = (bif Nat.blt off 0 then none else bif Nat.blt (off - 0) (0 * z) then (Seg.rows 0 z (fun i => cells x0)).get? (off - 0) else none):=rfl
  rw [e5,Nat.zero_mul] at hu
  have e6:∀ n,Nat.blt n 0 = false:=fun n => by cases h:Nat.blt n 0 with | false => rfl | true => have:=blt_tt h;omega
  rw [e6,e6] at hu
  simp at hu
 obtain ⟨a,len,cap,rfl⟩:=okWide_slice ht hval
 obtain ⟨fuel,hf⟩:=h
 rcases Go.Deep.open_slice ht hf with ⟨h1,_⟩ | ⟨a',len',cap',m,n,D,Pl,h1,_,hl,_,hm,_,hel⟩
 ·simp [Value.cells] at h1
  obtain ⟨rfl,rfl,rfl⟩:=h1
  exact empty _ _ rfl
 ·simp [Value.cells] at h1
  obtain ⟨rfl,rfl,rfl⟩:=h1
  by_cases h0:len = 0
  ·subst h0
   exact empty _ _ rfl
  have hlm:len ≤ m:=by rw [hm];split <;> omega
  have hch:∀ i,i < len → ∃ x:α,ok x ∧ ∀ j,j < z → W.cell? ((a'.add (i * z)).add j) = (cells x)[j]?:=by
   intro i hi
   obtain ⟨cs',hc,ht'⟩:=hel i (by omega)
   obtain ⟨x,hx,rfl⟩:=open1 _ _ _ ht'
   rw [hz] at hc
   obtain ⟨_,_,hcell⟩:=World.cells?_some hc
   exact ⟨x,hx,hcell⟩
  haveI:Inhabited α:=⟨x0⟩
  obtain ⟨g0,hg0⟩:=Go.Deep.choose_lt (p:=fun i x => ok x ∧ ∀ j,j < z → W.cell? ((a'.add (i * z)).add j) = (cells x)[j]?) hch
  obtain ⟨b,off,spot⟩:=a'
  have first:∃ v0,W.cell? (((⟨b,off,spot⟩:Addr).add (0 * z)).add 0) = some v0:=by
   obtain ⟨cs',hc,_⟩:=hel 0 (by omega)
   rw [hz] at hc
   obtain ⟨_,hl',hcell⟩:=World.cells?_some hc
   exact ⟨cs'[0]'(by omega),by rw [hcell 0 hpos,List.getElem?_eq_getElem]⟩
  obtain ⟨v0,hv0⟩:=first
  have hspot:spot = none:=by
   have:=World.cell?_spot hv0
   simpa [Addr.add] using this
  subst hspot
  have hblk:∃ cs ty fr,W.heap[b]? = some (.cells cs ty fr) ∧ ∀ o u,W.cell? ⟨b,o,none⟩ = some u → cs[o]? = some u:=by
   rw [add_plain,add_plain] at hv0
   unfold World.cell? at hv0
   split at hv0
   ·rename_i c ty fr hh
    exact ⟨c,ty,fr,hh,fun o u hu => by unfold World.cell? at hu;simp only [hh] at hu;simpa using hu⟩
   ·cases hv0
  obtain ⟨cs,ty0,fr,hh,hcs⟩:=hblk
  classical
  refine ⟨len,off,fun j => if j < len then g0 j else x0,fun j => (show ok (if j < len then g0 j else x0) by
   by_cases hj:j < len
   ·rw [if_pos hj];exact (hg0 j hj).1
   ·rw [if_neg hj];exact hx0),b,lt_of_some hh,fun μ ty => ⟨cs,ty0,fr,hh,(fun hro => nomatch hro),fun o u hu => ?_⟩,fun μ id hid => ?_⟩
  ·have e5:(Blk.get? ⟨[.gap off,.rows len z (fun i => cells (if i < len then g0 i else x0))],ty,true⟩ o) = (bif Nat.blt o off then none else bif Nat.blt (o - off) (len * z) then (Seg.rows len z (fun i => cells (if i < len then g0 i else x0))).get? (o - off) else none):=rfl
   rw [e5] at hu
   cases h1:Nat.blt o off <;> rw [h1] at hu
   ·simp only [cond_false] at hu
    cases h2:Nat.blt (o - off) (len * z) <;> rw [h2] at hu
    ·simp at hu
    ·simp only [cond_true,Seg.get?,h2] at hu
     have hlt:=blt_tt h2
     have hge:=blt_ff h1
     have hq:(o - off) / z < len:=Nat.div_lt_of_lt_mul (by rw [Nat.mul_comm];exact hlt)
     have hr:(o - off) % z < z:=Nat.mod_lt _ hpos
     rw [if_pos hq] at hu
     have hcell:=(hg0 _ hq).2 _ hr
     rw [add_plain,add_plain,hu] at hcell
     have heq:off + (o - off) / z * z + (o - off) % z = o:=by
      have:=Nat.div_add_mod (o - off) z
      rw [Nat.mul_comm] at this
      omega
     rw [heq] at hcell
     exact ⟨u,hcs o u hcell,.of_scalar (List.all_eq_true.1 (hfl _) u (List.mem_of_getElem? hu))⟩
   ·simp at hu
  ·have:=VRel.sliceS hid off 0 len 0 cap hl (.inl rfl)
   rwa [Nat.add_zero] at this
theorem trod_cell_int {H:Type} {enc:TypeId × Value → H} {P:Program} {W:World} {base:Nat} {sp:Nat → Bool} {held:Bool} {t:TypeId} {fs:Array Field} {fuel:Nat} {cs:List Value} {x:DataW H × List MemPlace}
  (ht:P.underlying t = some (.struct fs)) (h:DataW.trod enc P W base sp held fuel t cs = some x) {i:Nat} {f:Field} (hf:fs[i]? = some f) {k:IntKind} (hu:P.underlying f.type = some (.int k)) (hc:P.cellsOf f.type = 1) :
  ∃ n,cs[f.offset]? = some (.int k n) ∧ (Lit.int k n).wf = true:=by
 obtain ⟨xs,n,_,_,_,hl,he⟩:=DataW.trod_struct ht h
 have hi:i < xs.length:=by rw [hl];exact lt_of_some hf
 have:=he i f hf
 rw [hc,List.getElem?_eq_getElem hi] at this
 obtain ⟨z,h1,_,h2⟩:=DataW.trod_int hu this
 have h0:((cs.drop f.offset).take 1)[0]? = some (.int k z):=by rw [h1];rfl
 exact ⟨z,by simpa using h0,h2⟩
theorem trod_len {H:Type} {enc:TypeId × Value → H} {P:Program} {W:World} {base:Nat} {sp:Nat → Bool} {held:Bool} {t:TypeId} {fs:Array Field} {fuel:Nat} {cs:List Value} {x:DataW H × List MemPlace}
  (ht:P.underlying t = some (.struct fs)) (h:DataW.trod enc P W base sp held fuel t cs = some x):cs.length = P.cellsOf t:=by
 obtain ⟨xs,n,_,_,hl,_,_⟩:=DataW.trod_struct ht h
 exact hl
end Go.Proofs.Ytgnhhnmpeklciaa.VX
namespace Go.Proofs.Ytgnhhnmpeklciaa.VX
open Go Go.RowKit Go.WideShapes Go.ChangeShapes Go.WideElems
def HandedInts (W:World) (k:IntKind) (f:Nat → Int) (N d:Nat) (v:Value):Prop:=
 ∃ b,b < W.heap.size ∧ (∀ μ ty,BlkRel μ ⟨[.gap d,.ints k N f],ty,true⟩ W.heap[b]?) ∧ ∀ (μ:Mu) (id:Nat),μ id = some b → VRel μ (.slice (some ⟨id,0,some d⟩) N 0) v
theorem handed_ints {W:World} {k:IntKind} {f:Nat → Int} {N d:Nat} {v:Value} (h:HandedAt W 1 (fun i => [.int k (f i)]) N d v):HandedInts W k f N d v:=by
 obtain ⟨b,hb,hB,hR⟩:=h
 refine ⟨b,hb,fun μ ty => ?_,hR⟩
 obtain ⟨cs,t,fr,ho,h1,h2⟩:=hB μ ty
 refine ⟨cs,t,fr,ho,(fun hro => nomatch hro),fun off u hu => h2 off u ?_⟩
 have e1:(Blk.get? ⟨[.gap d,.ints k N f],ty,true⟩ off) = (bif Nat.blt off d then none else bif Nat.blt (off - d) N then (bif Nat.blt (off - d) N then some (.int k (f (off - d))) else none) else none):=rfl
 have e2:(Blk.get? ⟨[.gap d,.rows N 1 fun i => [.int k (f i)]],ty,true⟩ off) = (bif Nat.blt off d then none else bif Nat.blt (off - d) (N * 1) then (bif Nat.blt (off - d) (N * 1) then [Value.int k (f ((off - d) / 1))][(off - d) % 1]? else none) else none):=rfl
 rw [e1] at hu
 rw [e2,Nat.mul_one,Nat.div_one,Nat.mod_one]
 exact hu
theorem handed_le {H:Type} {enc:TypeId × Value → H} {P:Program} {W:World} {r:Reach} {b0 base:Nat} {sp:Nat → Bool} {held:Bool} {t e:TypeId} {v:Value} {dd:DataW H} {p:List MemPlace} {z N d:Nat} {cells:Nat → List Value}
  (ht:P.underlying t = some (.slice e)) (hval:Value.okWide P W r b0 t v) (h:DataW.Trod enc P W base sp held t v dd p) (hh:HandedAt W z cells N d v):N ≤ 9223372036854775807:=by
 obtain ⟨b,_,_,hR⟩:=hh
 have hv:=hR ⟨fun _ => some b,fun _ => 0,fun _ => none⟩ 1000 rfl
 obtain ⟨a,len,cap,rfl⟩:=okWide_slice ht hval
 obtain ⟨fuel,hf⟩:=h
 have hlen:len ≤ 9223372036854775807:=by
  rcases Go.Deep.open_slice ht hf with ⟨h1,_⟩ | ⟨a',len',cap',m,n,D,Pl,h1,_,hl,hm,_⟩
  ·simp [Value.cells] at h1
   omega
  ·simp [Value.cells] at h1
   obtain ⟨_,rfl,rfl⟩:=h1
   have:maxLen = 9223372036854775807:=by decide
   omega
 cases hv with
 | sliceS _ _ _ _ _ _ _ _ => exact hlen
 | sliceE _ _ _ _ _ _ _ => omega
end Go.Proofs.Ytgnhhnmpeklciaa.VX
namespace Go.Proofs.Ytgnhhnmpeklciaa
open Go VX Go.ChangeShapes Go.WideShapes Go.RowKit Go.Joins Go.Deep
def isCells:Option Obj → Bool
 | some (.cells _ _ _) => true
 | _ => false
theorem glob0:Try.prog.globals.size = 0:=by kernel_rfl
theorem any_open {W:World} (h:W.ShapedOpen Try.prog):∃ (b:Nat) (cs:Array Value) (ty:TypeId) (fr:Nat × Nat),W.heap[b]? = some (Obj.cells cs ty fr):=by
 have h0:isCells ((begin Try.prog (fun _ _ => 0) default).world.heap[0]?) = true:=by kernel_rfl
 have hsz:0 < (begin Try.prog (fun _ _ => 0) default).world.heap.size:=by
  have:decide (0 < (begin Try.prog (fun _ _ => 0) default).world.heap.size) = true:=by kernel_rfl
  exact of_decide_eq_true this
 obtain ⟨o,o0,e1,e2,e3⟩:=h.2 0 (by rw [glob0];exact Nat.le_refl _) hsz
 have hl:World.looseAt (0 - Try.prog.globals.size) = false:=by kernel_rfl
 rw [if_neg (by rw [hl];decide)] at e3
 subst e3
 rw [e2] at h0
 cases o with
 | cells cs t fr => exact ⟨0,cs,t,fr,e1⟩
 | _ => cases h0
section
variable {H:Type} {enc:TypeId × Value → H} {W:World} {base:Nat} {sp:Nat → Bool} {held:Bool}
theorem c1_5:Try.prog.cellsOf 5 = 1:=by kernel_rfl
end
end Go.Proofs.Ytgnhhnmpeklciaa
namespace Go.Proofs.Ytgnhhnmpeklciaa.VX
open Go Go.RowKit Go.WideShapes Go.ChangeShapes Go.WideElems Go.Deep
theorem open_handedF {H:Type} {enc:TypeId × Value → H} {P:Program} {W:World} {base:Nat} {sp:Nat → Bool} {held:Bool} {t e:TypeId} {v:Value} {x0:DataW H × List MemPlace} {z fuel:Nat}
  (ht:P.underlying t = some (.slice e)) (hz:P.cellsOf e = z) (hpos:0 < z) {α:Type} (cells:α → List Value) (ok:α → Prop) (a0:α) (ha0:ok a0) (hfl:∀ a,(cells a).all scalar = true)
  (open1:∀ (fuel:Nat) (cs:List Value) (x:DataW H × List MemPlace),DataW.trod enc P W base sp held fuel e cs = some x → ∃ a,ok a ∧ cs = cells a)
  (hany:∃ (b:Nat) (cs:Array Value) (ty:TypeId) (fr:Nat × Nat),W.heap[b]? = some (Obj.cells cs ty fr))
  (hf:DataW.trod enc P W base sp held fuel t [v] = some x0) :
  ∃ (N d:Nat) (g:Nat → α),((∀ j,ok (g j)) ∧ N ≤ 9223372036854775807) ∧ HandedAt W z (fun i => cells (g i)) N d v:=by
 obtain ⟨ba,ca,ta,fa,hba⟩:=hany
 have empty:∀ (a:Option Addr) (c:Nat),v = .slice a 0 c → ∃ (N d:Nat) (g:Nat → α),((∀ j,ok (g j)) ∧ N ≤ 9223372036854775807) ∧ HandedAt W z (fun i => cells (g i)) N d v:=by
  rintro a c rfl
  refine ⟨0,0,fun _ => a0,⟨fun _ => ha0,by decide⟩,ba,lt_of_some hba,fun μ ty => ⟨ca,ta,fa,hba,(fun hro => nomatch hro),fun off u hu => ?_⟩,fun μ id hid => .sliceE _ _ _ _ _ _ (.inl rfl)⟩
  exfalso
  simp only [Blk.get?] at hu
  have e5:segsGet? [.gap 0,.rows 0 z (fun i => cells a0)] off = (bif Nat.blt off 0 then none else bif Nat.blt (off - 0) (0 * z) then (Seg.rows 0 z (fun i => cells a0)).get? (off - 0) else none):=rfl
  rw [e5,Nat.zero_mul] at hu
  have e6:∀ n,Nat.blt n 0 = false:=fun n => by cases h:Nat.blt n 0 with | false => rfl | true => have:=blt_tt h;omega
  rw [e6,e6] at hu
  simp at hu
 rcases Go.Deep.open_slice ht hf with ⟨h1,_⟩ | ⟨a',len,cap,m,n,D,Pl,h1,_,hl,hcm,hm,_,hel⟩
 ·simp only [List.cons.injEq,and_true] at h1
  exact empty _ _ h1
 ·simp only [List.cons.injEq,and_true] at h1
  subst h1
  by_cases h0:len = 0
  ·subst h0
   exact empty _ _ rfl
  have hlm:len ≤ m:=by rw [hm];split <;> omega
  have hle:len ≤ 9223372036854775807:=by
   have:maxLen = 9223372036854775807:=by decide
   omega
  have hch:∀ i,i < len → ∃ x:α,ok x ∧ ∀ j,j < z → W.cell? ((a'.add (i * z)).add j) = (cells x)[j]?:=by
   intro i hi
   obtain ⟨cs',hc,ht'⟩:=hel i (by omega)
   obtain ⟨x,hx,rfl⟩:=open1 _ _ _ ht'
   rw [hz] at hc
   obtain ⟨_,_,hcell⟩:=World.cells?_some hc
   exact ⟨x,hx,hcell⟩
  haveI:Inhabited α:=⟨a0⟩
  obtain ⟨g0,hg0⟩:=Go.Deep.choose_lt (p:=fun i x => ok x ∧ ∀ j,j < z → W.cell? ((a'.add (i * z)).add j) = (cells x)[j]?) hch
  obtain ⟨b,off,spot⟩:=a'
  have first:∃ v0,W.cell? (((⟨b,off,spot⟩:Addr).add (0 * z)).add 0) = some v0:=by
   obtain ⟨cs',hc,_⟩:=hel 0 (by omega)
   rw [hz] at hc
   obtain ⟨_,hl',hcell⟩:=World.cells?_some hc
   exact ⟨cs'[0]'(by omega),by rw [hcell 0 hpos,List.getElem?_eq_getElem]⟩
  obtain ⟨v0,hv0⟩:=first
  have hspot:spot = none:=by
   have:=World.cell?_spot hv0
   simpa [Addr.add] using this
  subst hspot
  have hblk:∃ cs ty fr,W.heap[b]? = some (.cells cs ty fr) ∧ ∀ o u,W.cell? ⟨b,o,none⟩ = some u → cs[o]? = some u:=by
   rw [add_plain,add_plain] at hv0
   unfold World.cell? at hv0
   split at hv0
   ·rename_i c ty fr hh
    exact ⟨c,ty,fr,hh,fun o u hu => by unfold World.cell? at hu;simp only [hh] at hu;simpa using hu⟩
   ·cases hv0
  obtain ⟨cs,ty0,fr,hh,hcs⟩:=hblk
  classical
  refine ⟨len,off,fun j => if j < len then g0 j else a0,⟨fun j => (show ok (if j < len then g0 j else a0) by
   by_cases hj:j < len
   ·rw [if_pos hj];exact (hg0 j hj).1
   ·rw [if_neg hj];exact ha0),hle⟩,b,lt_of_some hh,fun μ ty => ⟨cs,ty0,fr,hh,(fun hro => nomatch hro),fun o u hu => ?_⟩,fun μ id hid => ?_⟩
  ·have e5:(Blk.get? ⟨[.gap off,.rows len z (fun i => cells (if i < len then g0 i else a0))],ty,true⟩ o) = (bif Nat.blt o off then none else bif Nat.blt (o - off) (len * z) then (Seg.rows len z (fun i => cells (if i < len then g0 i else a0))).get? (o - off) else none):=rfl
   rw [e5] at hu
   cases h1:Nat.blt o off <;> rw [h1] at hu
   ·simp only [cond_false] at hu
    cases h2:Nat.blt (o - off) (len * z) <;> rw [h2] at hu
    ·simp at hu
    ·simp only [cond_true,Seg.get?,h2] at hu
     have hlt:=blt_tt h2
     have hge:=blt_ff h1
     have hq:(o - off) / z < len:=Nat.div_lt_of_lt_mul (by rw [Nat.mul_comm];exact hlt)
     have hr:(o - off) % z < z:=Nat.mod_lt _ hpos
     rw [if_pos hq] at hu
     have hcell:=(hg0 _ hq).2 _ hr
     rw [add_plain,add_plain,hu] at hcell
     have heq:off + (o - off) / z * z + (o - off) % z = o:=by
      have:=Nat.div_add_mod (o - off) z
      rw [Nat.mul_comm] at this
      omega
     rw [heq] at hcell
     exact ⟨u,hcs o u hcell,.of_scalar (List.all_eq_true.1 (hfl _) u (List.mem_of_getElem? hu))⟩
   ·simp at hu
  ·have:=VRel.sliceS hid off 0 len 0 cap hl (.inl rfl)
   rwa [Nat.add_zero] at this
def muL (P:Program) (bs:List Nat):Mu:=⟨fun i => if i < P.globals.size then some i else if i < 1000 then none else bs[i - 1000]?,fun _ => 0,fun _ => none⟩
theorem muL_at {P:Program} (hG:P.globals.size ≤ 1000) {bs:List Nat} {j b:Nat} (h:bs[j]? = some b):muL P bs (1000 + j) = some b:=by
 show (if 1000 + j < P.globals.size then some (1000 + j) else if 1000 + j < 1000 then none else bs[1000 + j - 1000]?) = some b
 rw [if_neg (by omega),if_neg (by omega),Nat.add_sub_cancel_left];exact h
def Hands (P:Program) (bs:List Nat) (W:World) (Hl:Heap):Prop:=∀ i B,lk Hl i = some B → B.ro = true ∧ ∃ b',muL P bs i = some b' ∧ BlkRel (muL P bs) B W.heap[b']?
theorem hands_nil {P:Program} {bs:List Nat} {W:World}:Hands P bs W []:=fun i B h => by simp [lk] at h
theorem hands_cons {P:Program} {bs:List Nat} {W:World} {i b:Nat} {B:Blk} {Hl:Heap} (hi:muL P bs i = some b) (hro:B.ro = true) (hB:BlkRel (muL P bs) B W.heap[b]?) (ht:Hands P bs W Hl):Hands P bs W ((i,B) :: Hl):=by
 intro j C h
 simp only [lk] at h
 cases e:Nat.beq j i <;> rw [e] at h
 ·exact ht j C h
 ·simp at h;subst h
  rw [beq_tt e]
  exact ⟨hro,b,hi,hB⟩
theorem calls_of_spec_hands {P:Program} {f:FuncId} {A:List Value} {Hl H':Heap} (hG:P.globals.size ≤ 1000) (bs:List Nat) {n0:Nat} (sp:FnSpec P f n0 A Hl (.bool true) H') (hn:n0 = 1000 + bs.length) {W:World} {args:Array Value} (hg:P.globals.size ≤ W.heap.size) (hbs:∀ b ∈ bs,b < W.heap.size)
  (hb:Hands P bs W Hl) (ha:VRels (muL P bs) A args.toList) :
  Calls P f args W fun e W' => e = .returned (.bool true) ∧ Below W.heap.size W W':=by
 subst hn
 have hr:Rep (muL P bs) (lk Hl) W:=by
  refine ⟨fun i B e _ => (hb i B e).2,fun i j A B b e1 e2 _ _ _ => ⟨(hb i A e1).1,(hb j B e2).1⟩,fun i b' e => ?_,fun i B b e hr => (by rw [(hb i B e).1] at hr;cases hr),(fun b cs e => nomatch e),fun i B b e hr => (by rw [(hb i B e).1] at hr;cases hr)⟩
  simp only [muL] at e
  split at e
  ·simp at e;omega
  ·split at e
   ·cases e
   ·exact hbs _ (List.mem_of_getElem? e)
 have:=sp.runs (muL P bs) W args.toList (fun g h => by simp [muL,h]) (fun i hi => by simp only [muL];rw [if_neg (by omega),if_neg (by omega)];exact List.getElem?_eq_none (by omega)) ha hr
 refine this.mono fun e W' ⟨μ',rv,_,_,hv,he,k⟩ => ?_
 cases hv
 exact ⟨he,⟨k.os,k.tape,k.output,k.size,fun b hb' => k.same b hb' (by rintro ⟨i,B,e,hr,_⟩;rw [(hb i B e).1] at hr;cases hr)⟩⟩
section
variable {H:Type} {enc:TypeId × Value → H} {P:Program} {w:World} {base:Nat} {spare:Nat → Bool} {held:Bool}
theorem open_agg5 {r:Reach} {b0:Nat} {t:TypeId} {f0 f1 f2 f3 f4:Field} {v:Value} {d:DataW H} {p:List MemPlace} (hs:P.underlying t = some (.struct #[f0,f1,f2,f3,f4])) (hone:oneCellFields P #[f0,f1,f2,f3,f4] = true) (hC:P.cellsOf t = 5)
  (hv:Value.okWide P w r b0 t v) (h:DataW.Trod enc P w base spare held t v d p) :
  ∃ (v0 v1 v2 v3 v4:Value) (y0 y1 y2 y3 y4:DataW H × List MemPlace) (n:Nat),v = .agg #[v0,v1,v2,v3,v4] ∧ d = .agg [y0.1,y1.1,y2.1,y3.1,y4.1] ∧ p = y0.2 ++ (y1.2 ++ (y2.2 ++ (y3.2 ++ y4.2))) ∧
   DataW.trod enc P w base spare held n f0.type [v0] = some y0 ∧ DataW.trod enc P w base spare held n f1.type [v1] = some y1 ∧ DataW.trod enc P w base spare held n f2.type [v2] = some y2 ∧ DataW.trod enc P w base spare held n f3.type [v3] = some y3 ∧ DataW.trod enc P w base spare held n f4.type [v4] = some y4:=by
 obtain ⟨cs,rfl,hsz⟩:=okWide_struct hs hv
 obtain ⟨l⟩:=cs
 match l,hsz.trans hC with
 | [c0,c1,c2,c3,c4],_ =>
  obtain ⟨fuel,hf⟩:=h
  obtain ⟨xs,n,_,hx,_,hlen,hg⟩:=DataW.trod_struct hs hf
  obtain ⟨o0,k0⟩:=hone_of hone 0 f0 rfl
  obtain ⟨o1,k1⟩:=hone_of hone 1 f1 rfl
  obtain ⟨o2,k2⟩:=hone_of hone 2 f2 rfl
  obtain ⟨o3,k3⟩:=hone_of hone 3 f3 rfl
  obtain ⟨o4,k4⟩:=hone_of hone 4 f4 rfl
  match xs,hlen with
  | [y0,y1,y2,y3,y4],_ =>
   simp only [Prod.mk.injEq] at hx
   exact ⟨c0,c1,c2,c3,c4,y0,y1,y2,y3,y4,n,rfl,by simpa using hx.1,by simpa using hx.2,by simpa [Value.cells,o0,k0] using hg 0 f0 rfl,by simpa [Value.cells,o1,k1] using hg 1 f1 rfl,by simpa [Value.cells,o2,k2] using hg 2 f2 rfl,by simpa [Value.cells,o3,k3] using hg 3 f3 rfl,by simpa [Value.cells,o4,k4] using hg 4 f4 rfl⟩
end
end Go.Proofs.Ytgnhhnmpeklciaa.VX
namespace Go.Proofs.Ytgnhhnmpeklciaa
open Go VX Go.ChangeShapes Go.WideShapes Go.RowKit Go.Joins Go.Deep
section
variable {H:Type} {enc:TypeId × Value → H} {W:World} {base:Nat} {sp:Nat → Bool} {held:Bool}
theorem open_linesF {fuel:Nat} {v:Value} {x0:DataW H × List MemPlace} (hany:∃ (b:Nat) (cs:Array Value) (ty:TypeId) (fr:Nat × Nat),W.heap[b]? = some (Obj.cells cs ty fr))
  (hf:DataW.trod enc Try.prog W base sp held fuel 23 [v] = some x0):∃ (N k:Nat) (f:Nat → Int),(∀ j,rng 256 (f j)) ∧ HandedInts W .u8 f N k v:=by
 obtain ⟨N,k,g,hg,hh⟩:=open_handedF Try.underlying23 c1_5 (by decide) (fun a:Int => [.int .u8 a]) (rng 256) 0 (by decide) (fun _ => rfl) (fun fuel cs x hx => by
  obtain ⟨z,h1,_,h2⟩:=DataW.trod_int Try.underlying5 hx
  exact ⟨z,wf_u8 h2,h1⟩) hany hf
 exact ⟨N,k,g,hg.1,handed_ints hh⟩
theorem open_scene {r:Reach} {b0:Nat} {v:Value} {d:DataW H} {p:List MemPlace} (hany:∃ (b:Nat) (cs:Array Value) (ty:TypeId) (fr:Nat × Nat),W.heap[b]? = some (Obj.cells cs ty fr))
  (hv:Value.okWide Try.prog W r b0 45 v) (h:DataW.Trod enc Try.prog W base sp held 45 v d p) :
  ∃ (N0 k0:Nat) (f0:Nat → Int) (N1 k1:Nat) (f1:Nat → Int) (N2 k2:Nat) (f2:Nat → Int) (N3 k3:Nat) (f3:Nat → Int) (u:Bool) (v0 v1 v2 v3:Value),v = .agg #[v0,v1,v2,v3,.bool u] ∧
   (∀ j,rng 256 (f0 j)) ∧ (∀ j,rng 256 (f1 j)) ∧ (∀ j,rng 256 (f2 j)) ∧ (∀ j,rng 256 (f3 j)) ∧ HandedInts W .u8 f0 N0 k0 v0 ∧ HandedInts W .u8 f1 N1 k1 v1 ∧ HandedInts W .u8 f2 N2 k2 v2 ∧ HandedInts W .u8 f3 N3 k3 v3:=by
 obtain ⟨c0,c1,c2,c3,c4,y0,y1,y2,y3,y4,m,rfl,rfl,rfl,hy0,hy1,hy2,hy3,hy4⟩:=open_agg5 Try.underlying45 (by kernel_rfl) (by kernel_rfl) hv h
 obtain ⟨N0,k0,f0,w0,g0⟩:=open_linesF hany hy0
 obtain ⟨N1,k1,f1,w1,g1⟩:=open_linesF hany hy1
 obtain ⟨N2,k2,f2,w2,g2⟩:=open_linesF hany hy2
 obtain ⟨N3,k3,f3,w3,g3⟩:=open_linesF hany hy3
 obtain ⟨u,e4,_⟩:=DataW.trod_bool Try.underlying4 hy4
 simp only [List.cons.injEq,and_true] at e4
 subst e4
 exact ⟨N0,k0,f0,N1,k1,f1,N2,k2,f2,N3,k3,f3,u,c0,c1,c2,c3,rfl,w0,w1,w2,w3,g0,g1,g2,g3⟩
end
end Go.Proofs.Ytgnhhnmpeklciaa
namespace Go.Proofs.Ytgnhhnmpeklciaa
open Go VX Go.ChangeShapes Go.WideShapes Go.RowKit Go.Joins Go.Deep
section
variable {H:Type} {enc:TypeId × Value → H} {W:World} {base:Nat} {sp:Nat → Bool} {held:Bool}
theorem open_acts {r:Reach} {b0:Nat} {v:Value} {d:DataW H} {p:List MemPlace} (hany:∃ (b:Nat) (cs:Array Value) (ty:TypeId) (fr:Nat × Nat),W.heap[b]? = some (Obj.cells cs ty fr))
  (hv:Value.okWide Try.prog W r b0 46 v) (h:DataW.Trod enc Try.prog W base sp held 46 v d p):∃ (N k:Nat) (f:Nat → Act),((∀ j,Act.ok (f j)) ∧ (N:Int) ≤ 9223372036854775807) ∧ HandedAt W 5 (fun i => Act.cells (f i)) N k v:=by
 obtain ⟨N,k,g,hg,hh⟩:=open_handed Try.underlying46 (by kernel_rfl:Try.prog.cellsOf 50 = 5) (by decide) Act.cells Act.ok ⟨0,0,0,0,0⟩ ⟨by decide,by decide,by decide,by decide,by decide⟩ (fun _ => rfl) (fun fuel cs x hx => by
  obtain ⟨n0,e0,w0⟩:=trod_cell_int Try.underlying50 hx (i:=0) rfl Try.underlying5 c1_5
  obtain ⟨n1,e1,w1⟩:=trod_cell_int Try.underlying50 hx (i:=1) rfl Try.underlying5 c1_5
  obtain ⟨n2,e2,w2⟩:=trod_cell_int Try.underlying50 hx (i:=2) rfl Try.underlying5 c1_5
  obtain ⟨n3,e3,w3⟩:=trod_cell_int Try.underlying50 hx (i:=3) rfl Try.underlying22 (by kernel_rfl)
  obtain ⟨n4,e4,w4⟩:=trod_cell_int Try.underlying50 hx (i:=4) rfl Try.underlying22 (by kernel_rfl)
  have hl:cs.length = 5:=(trod_len Try.underlying50 hx).trans (by kernel_rfl)
  match cs,hl with
  | [x0,x1,x2,x3,x4],_ =>
   simp at e0 e1 e2 e3 e4
   subst e0 e1 e2 e3 e4
   exact ⟨⟨n0,n1,n2,n3,n4⟩,⟨wf_u8 w0,wf_u8 w1,wf_u8 w2,wf_u16 w3,wf_u16 w4⟩,rfl⟩) hany hv h
 have hle:=handed_le Try.underlying46 hv h hh
 exact ⟨N,k,g,⟨hg,by omega⟩,hh⟩
end
end Go.Proofs.Ytgnhhnmpeklciaa
