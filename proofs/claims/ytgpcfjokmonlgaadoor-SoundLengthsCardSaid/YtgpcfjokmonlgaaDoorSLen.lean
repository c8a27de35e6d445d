/-
  A law of layer 12. Written by gen_sound.py. No condition.
-/
import Derived.Test.YtgpcfjokmonlgaaDoorSE
namespace Go.Proofs.YtgpcfjokmonlgaaDoor
open Go VX
set_option linter.unusedVariables false
set_option linter.unusedSimpArgs false
set_option maxRecDepth 100000

/-- a loop of kotatsu/kotatsulaw12.SoundLengths: one round -/
inductive lawLen_L1n (on : Int) (number : Int) (frames : Int) (xd : Int × Snd) : (Int × Snd) ⊕ (Int × Snd) → Prop
  | p1 (d1 : (decide ((xd.1 : Int) < 4)) = true) (w1d : Snd.ok xd.2) : lawLen_L1n on number frames xd (.inl ((IntKind.u16.wrap (xd.1 + 1)), (sPut xd.2 (IntKind.u16.wrap (16387 + (IntKind.u16.wrap (4 * xd.1)))) (bShl .u8 number 3))))
  | p2 (d1 : (decide ((xd.1 : Int) < 4)) = false) : lawLen_L1n on number frames xd (.inr (xd.1, xd.2))
def lawLen_L1n_T (on : Int) (number : Int) (frames : Int) (xd : Int × Snd) : Tm := [(0, .int .u8 on), (1, .int .u8 number), (2, .int .u8 frames), (6, .bool false), (7, .pointer (some ⟨1000, 0, none⟩)), (18, .int .u16 xd.1)]
def lawLen_L1n_H (on : Int) (number : Int) (frames : Int) (xd : Int × Snd) : Heap := ([tb0, tb4] ++ (Snd.H 1000 1001 1002 1003 1004 xd.2))
def lawLen_L1n_T1 (on : Int) (number : Int) (frames : Int) (r : Int × Snd) : Tm := lawLen_L1n_T on number frames r
def lawLen_L1n_H1 (on : Int) (number : Int) (frames : Int) (r : Int × Snd) : Heap := lawLen_L1n_H on number frames r
def lawLen_L1n_ex (_ : Int × Snd) : Ex := .exit 0
theorem lawLen_L1n_p1 (on : Int) (number : Int) (frames : Int) (xd : Int × Snd) (d1 : (decide ((xd.1 : Int) < 4)) = true) (w1d : Snd.ok xd.2) : Runs Tryd.prog 54 (bodyOf Tryd.f3 [1, 1, 1, 1, 0, 1, 0, 0]) (lawLen_L1n_T on number frames xd) (lawLen_L1n_H on number frames xd) 1005 .normal (lawLen_L1n_T on number frames ((IntKind.u16.wrap (xd.1 + 1)), (sPut xd.2 (IntKind.u16.wrap (16387 + (IntKind.u16.wrap (4 * xd.1)))) (bShl .u8 number 3)))) (lawLen_L1n_H on number frames ((IntKind.u16.wrap (xd.1 + 1)), (sPut xd.2 (IntKind.u16.wrap (16387 + (IntKind.u16.wrap (4 * xd.1)))) (bShl .u8 number 3)))) 1005 := by
  exact runs_of_x hG hM 400 [.yes, .call [(0, 0), (4, 4), (1000, 1000), (1001, 1001), (1002, 1002), (1003, 1003), (1004, 1004)] [] 1005 (.tuple ⟨[]⟩) (Snd.H 1000 1001 1002 1003 1004 (sPut xd.2 (IntKind.u16.wrap (16387 + (IntKind.u16.wrap (4 * xd.1)))) (bShl .u8 number 3)))] (J d1 (J (by decide : (0 : Int) ≤ 3) (J (sPut_ok xd.2 (IntKind.u16.wrap (16387 + (IntKind.u16.wrap (4 * xd.1)))) (bShl .u8 number 3) w1d (rng_wrap_u16 (16387 + (IntKind.u16.wrap (4 * xd.1)))) (rng_bShl_u8 number 3)) trivial))) (by kernel_rfl)
theorem lawLen_L1n_p2 (on : Int) (number : Int) (frames : Int) (xd : Int × Snd) (d1 : (decide ((xd.1 : Int) < 4)) = false) : Runs Tryd.prog 54 (bodyOf Tryd.f3 [1, 1, 1, 1, 0, 1, 0, 0]) (lawLen_L1n_T on number frames xd) (lawLen_L1n_H on number frames xd) 1005 (.exit 0) (lawLen_L1n_T1 on number frames (xd.1, xd.2)) (lawLen_L1n_H1 on number frames (xd.1, xd.2)) 1005 := by
  exact runs_of_x hG hM 400 [.no] (J d1 trivial) (by kernel_rfl)
theorem lawLen_L1n_runs (on : Int) (number : Int) (frames : Int) (x_ : Int × Snd) (y_ : Int × Snd) (h_ : LoopR (lawLen_L1n on number frames) x_ y_) : Runs Tryd.prog 54 (.block 0 (.loop (bodyOf Tryd.f3 [1, 1, 1, 1, 0, 1, 0, 0]))) (lawLen_L1n_T on number frames x_) (lawLen_L1n_H on number frames x_) 1005 (outOf 0 (lawLen_L1n_ex y_)) (lawLen_L1n_T1 on number frames y_) (lawLen_L1n_H1 on number frames y_) 1005 := by
  refine block_loop (lawLen_L1n on number frames) (lawLen_L1n_T on number frames) (lawLen_L1n_H on number frames) lawLen_L1n_ex (lawLen_L1n_T1 on number frames) (lawLen_L1n_H1 on number frames) ?_ ?_ ?_ x_ y_ h_
  · intro r hr; cases hr
  · intro xd y_ hx
    cases hx with
    | p1 d1 w1d => exact lawLen_L1n_p1 on number frames xd d1 w1d
  · intro xd y_ hx
    cases hx with
    | p2 d1 => exact lawLen_L1n_p2 on number frames xd d1

/-- a loop of kotatsu/kotatsulaw12.SoundLengths: one round -/
def lawLen_L2n (on : Int) (number : Int) (frames : Int) (r1 : Int × Snd) (xd : Int × Snd) : (Int × Snd) ⊕ (Int × Snd) :=
  if (decide ((xd.1 : Int) < (IntKind.i64.wrap (Int.tmod frames 20)))) = true then
    .inl ((IntKind.i64.wrap (xd.1 + 1)), (sPut_23 xd.2 192))
  else
    .inr (xd.1, xd.2)
def lawLen_L2n_T (on : Int) (number : Int) (frames : Int) (r1 : Int × Snd) (xd : Int × Snd) : Tm := [(0, .int .u8 on), (6, .bool false), (7, .pointer (some ⟨1000, 0, none⟩)), (9, .int .i64 (rLength (IntKind.i64.wrap (Int.tmod number 32)))), (10, .int .i64 (IntKind.i64.wrap (Int.tmod frames 20))), (36, .int .i64 (IntKind.i64.wrap (Int.tmod frames 20))), (37, .int .i64 xd.1)]
def lawLen_L2n_H (on : Int) (number : Int) (frames : Int) (r1 : Int × Snd) (xd : Int × Snd) : Heap := (Snd.H 1000 1001 1002 1003 1004 xd.2)
def lawLen_L2n_T1 (on : Int) (number : Int) (frames : Int) (r1 : Int × Snd) (r : Int × Snd) : Tm := lawLen_L2n_T on number frames r1 r
def lawLen_L2n_H1 (on : Int) (number : Int) (frames : Int) (r1 : Int × Snd) (r : Int × Snd) : Heap := lawLen_L2n_H on number frames r1 r
def lawLen_L2n_ex (_ : Int × Snd) : Ex := .exit 2
theorem lawLen_L2n_p1 (on : Int) (number : Int) (frames : Int) (r1 : Int × Snd) (xd : Int × Snd) (d1 : (decide ((xd.1 : Int) < (IntKind.i64.wrap (Int.tmod frames 20)))) = true) : Runs Tryd.prog 54 (bodyOf Tryd.f3 [1, 1, 1, 1, 1, 1, 1, 0, 1, 0, 0]) (lawLen_L2n_T on number frames r1 xd) (lawLen_L2n_H on number frames r1 xd) 1005 .normal (lawLen_L2n_T on number frames r1 ((IntKind.i64.wrap (xd.1 + 1)), (sPut_23 xd.2 192))) (lawLen_L2n_H on number frames r1 ((IntKind.i64.wrap (xd.1 + 1)), (sPut_23 xd.2 192))) 1005 := by
  exact runs_of_x hG hM 400 [.yes, .call [(1000, 1000), (1001, 1001), (1002, 1002), (1003, 1003), (1004, 1004)] [] 1005 (.tuple ⟨[]⟩) (Snd.H 1000 1001 1002 1003 1004 (sPut_23 xd.2 192))] (J d1 (J (sPut_23_ok xd.2 192) trivial)) (by kernel_rfl)
theorem lawLen_L2n_p2 (on : Int) (number : Int) (frames : Int) (r1 : Int × Snd) (xd : Int × Snd) (d1 : (decide ((xd.1 : Int) < (IntKind.i64.wrap (Int.tmod frames 20)))) = false) : Runs Tryd.prog 54 (bodyOf Tryd.f3 [1, 1, 1, 1, 1, 1, 1, 0, 1, 0, 0]) (lawLen_L2n_T on number frames r1 xd) (lawLen_L2n_H on number frames r1 xd) 1005 (.exit 2) (lawLen_L2n_T1 on number frames r1 (xd.1, xd.2)) (lawLen_L2n_H1 on number frames r1 (xd.1, xd.2)) 1005 := by
  exact runs_of_x hG hM 400 [.no] (J d1 trivial) (by kernel_rfl)
theorem lawLen_L2n_runs (on : Int) (number : Int) (frames : Int) (r1 : Int × Snd) (k_ : Nat) (x_ : Int × Snd) (y_ : Int × Snd) (h_ : iter (lawLen_L2n on number frames r1) k_ x_ = some y_) : Runs Tryd.prog 54 (.block 2 (.loop (bodyOf Tryd.f3 [1, 1, 1, 1, 1, 1, 1, 0, 1, 0, 0]))) (lawLen_L2n_T on number frames r1 x_) (lawLen_L2n_H on number frames r1 x_) 1005 (outOf 2 (lawLen_L2n_ex y_)) (lawLen_L2n_T1 on number frames r1 y_) (lawLen_L2n_H1 on number frames r1 y_) 1005 := by
  refine block_iter (lawLen_L2n on number frames r1) (lawLen_L2n_T on number frames r1) (lawLen_L2n_H on number frames r1) lawLen_L2n_ex (lawLen_L2n_T1 on number frames r1) (lawLen_L2n_H1 on number frames r1) ?_ ?_ ?_ k_ x_ y_ h_
  · intro r hr; cases hr
  · intro xd y_ hx
    unfold lawLen_L2n at hx
    rcases bt (decide ((xd.1 : Int) < (IntKind.i64.wrap (Int.tmod frames 20)))) with d1 | d1
    · rw [if_pos d1] at hx
      cases hx; exact lawLen_L2n_p1 on number frames r1 xd d1
    · rw [if_neg (nt d1)] at hx
      cases hx
  · intro xd y_ hx
    unfold lawLen_L2n at hx
    rcases bt (decide ((xd.1 : Int) < (IntKind.i64.wrap (Int.tmod frames 20)))) with d1 | d1
    · rw [if_pos d1] at hx
      cases hx
    · rw [if_neg (nt d1)] at hx
      cases hx; exact lawLen_L2n_p2 on number frames r1 xd d1

theorem lawLen_p1 (on : Int) (number : Int) (frames : Int) (c1 : (!awake) = false) (r1 : Int × Snd) (l1 : LoopR (lawLen_L1n on number frames) (0, (sPut_21 sNew on)) r1) (w1c : 0 ≤ (IntKind.i64.wrap (Int.tmod number 32)) ∧ (IntKind.i64.wrap (Int.tmod number 32)) < 32) (m2 : Nat) (r2 : Int × Snd) (l2 : iter (lawLen_L2n on number frames r1) m2 (0, r1.2) = some r2) (c2 : (decide (((IntKind.i64.wrap (Int.tmod frames 20)) : Int) < (rLength (IntKind.i64.wrap (Int.tmod number 32))))) = true) : FnSpec Tryd.prog 3 1000 [.int .u8 on, .int .u8 number, .int .u8 frames] [tb0, tb3, tb4] (.bool (((bAnd .u8 ((sGet r2.2).2) 15) : Int) == (bAnd .u8 on 15))) [] := by
  exact fn_of_x hG hM Tryd.func3 (by kernel_rfl) (by kernel_rfl) 400 [.call [(0, 0), (3, 3)] [] 1000 (.bool awake) [], .no, .call [(0, 0)] [(1000, 1000), (1001, 1001), (1002, 1002), (1003, 1003), (1004, 1004)] 1000 (.pointer (some ⟨1000, 0, none⟩)) (Snd.H 1000 1001 1002 1003 1004 sNew), .call [(1000, 1000), (1001, 1001), (1002, 1002), (1003, 1003), (1004, 1004)] [] 1005 (.tuple ⟨[]⟩) (Snd.H 1000 1001 1002 1003 1004 (sPut_21 sNew on)), .seg [0, 1, 2, 6, 7, 18] [0, 4, 1000, 1001, 1002, 1003, 1004] .normal (lawLen_L1n_T1 on number frames r1) (lawLen_L1n_H1 on number frames r1) 1005, .call [] [] 1000 (.int .i64 (rLength (IntKind.i64.wrap (Int.tmod number 32)))) [], .seg [0, 6, 7, 9, 10, 36, 37] [1000, 1001, 1002, 1003, 1004] .normal (lawLen_L2n_T1 on number frames r1 r2) (lawLen_L2n_H1 on number frames r1 r2) 1005, .call [(1000, 1000), (1001, 1001), (1002, 1002), (1003, 1003), (1004, 1004)] [] 1005 (.int .u8 ((sGet r2.2).2)) (Snd.H 1000 1001 1002 1003 1004 ((sGet r2.2).1)), .yes] (J (awake_ok) (J c1 (J (sNew_ok) (J (sPut_21_ok sNew on) (J (lawLen_L1n_runs on number frames (0, (sPut_21 sNew on)) r1 l1) (J (by decide : ((32 : Int) ≠ 0)) (J (rLength_ok (IntKind.i64.wrap (Int.tmod number 32)) w1c) (J (by decide : ((20 : Int) ≠ 0)) (J (lawLen_L2n_runs on number frames r1 m2 (0, r1.2) r2 l2) (J (sGet_ok r2.2) (J c2 trivial))))))))))) (by kernel_rfl)
theorem lawLen_p2 (on : Int) (number : Int) (frames : Int) (c1 : (!awake) = false) (r1 : Int × Snd) (l1 : LoopR (lawLen_L1n on number frames) (0, (sPut_21 sNew on)) r1) (w1c : 0 ≤ (IntKind.i64.wrap (Int.tmod number 32)) ∧ (IntKind.i64.wrap (Int.tmod number 32)) < 32) (m2 : Nat) (r2 : Int × Snd) (l2 : iter (lawLen_L2n on number frames r1) m2 (0, r1.2) = some r2) (c2 : (decide (((IntKind.i64.wrap (Int.tmod frames 20)) : Int) < (rLength (IntKind.i64.wrap (Int.tmod number 32))))) = false) : FnSpec Tryd.prog 3 1000 [.int .u8 on, .int .u8 number, .int .u8 frames] [tb0, tb3, tb4] (.bool (((bAnd .u8 ((sGet r2.2).2) 15) : Int) == 0)) [] := by
  exact fn_of_x hG hM Tryd.func3 (by kernel_rfl) (by kernel_rfl) 400 [.call [(0, 0), (3, 3)] [] 1000 (.bool awake) [], .no, .call [(0, 0)] [(1000, 1000), (1001, 1001), (1002, 1002), (1003, 1003), (1004, 1004)] 1000 (.pointer (some ⟨1000, 0, none⟩)) (Snd.H 1000 1001 1002 1003 1004 sNew), .call [(1000, 1000), (1001, 1001), (1002, 1002), (1003, 1003), (1004, 1004)] [] 1005 (.tuple ⟨[]⟩) (Snd.H 1000 1001 1002 1003 1004 (sPut_21 sNew on)), .seg [0, 1, 2, 6, 7, 18] [0, 4, 1000, 1001, 1002, 1003, 1004] .normal (lawLen_L1n_T1 on number frames r1) (lawLen_L1n_H1 on number frames r1) 1005, .call [] [] 1000 (.int .i64 (rLength (IntKind.i64.wrap (Int.tmod number 32)))) [], .seg [0, 6, 7, 9, 10, 36, 37] [1000, 1001, 1002, 1003, 1004] .normal (lawLen_L2n_T1 on number frames r1 r2) (lawLen_L2n_H1 on number frames r1 r2) 1005, .call [(1000, 1000), (1001, 1001), (1002, 1002), (1003, 1003), (1004, 1004)] [] 1005 (.int .u8 ((sGet r2.2).2)) (Snd.H 1000 1001 1002 1003 1004 ((sGet r2.2).1)), .no] (J (awake_ok) (J c1 (J (sNew_ok) (J (sPut_21_ok sNew on) (J (lawLen_L1n_runs on number frames (0, (sPut_21 sNew on)) r1 l1) (J (by decide : ((32 : Int) ≠ 0)) (J (rLength_ok (IntKind.i64.wrap (Int.tmod number 32)) w1c) (J (by decide : ((20 : Int) ≠ 0)) (J (lawLen_L2n_runs on number frames r1 m2 (0, r1.2) r2 l2) (J (sGet_ok r2.2) (J c2 trivial))))))))))) (by kernel_rfl)

end Go.Proofs.YtgpcfjokmonlgaaDoor
