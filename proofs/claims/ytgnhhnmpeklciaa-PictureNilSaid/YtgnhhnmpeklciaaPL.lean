/-
  The picture: awake. Written by gen_pic.py. No condition.
-/
import Derived.Test.YtgnhhnmpeklciaaPJ
import Derived.Test.YtgnhhnmpeklciaaPK
namespace Go.Proofs.Ytgnhhnmpeklciaa
open Go VX
set_option linter.unusedVariables false
set_option linter.unusedSimpArgs false
set_option maxRecDepth 100000

set_option maxHeartbeats 4000000
/-- a loop of kotatsu/kotatsulaw15.awake: one round -/
inductive wAwake_L1 (xd : (List Sprite) × Int × Pic) : ((List Sprite) × Int × Pic) ⊕ ((List Sprite) × Int × Pic) → Prop
  | p1 (d1 : (decide ((xd.2.1 : Int) < 82183)) = true) (w1d : Pic.ok xd.2.2) (w2d : 0 ≤ xd.2.2.line) (w3d : (List.length xd.1) ≤ 8) : wAwake_L1 xd (.inl ((pClock xd.2.2 xd.1).2, (IntKind.i64.wrap (xd.2.1 + 1)), (pClock xd.2.2 xd.1).1))
  | p2 (d1 : (decide ((xd.2.1 : Int) < 82183)) = false) : wAwake_L1 xd (.inr (xd.1, xd.2.1, xd.2.2))
def wAwake_L1_T (xd : (List Sprite) × Int × Pic) : Tm := [(0, .bool false), (1, .pointer (some ⟨1000, 0, none⟩)), (3, .int .i64 xd.2.1)]
def wAwake_L1_H (xd : (List Sprite) × Int × Pic) : Heap := [(1000, (Pic.bl xd.2.2 (.slice (some ⟨1001, 0, (some 0)⟩) (List.length xd.1) 5) false)), (1001, ⟨[rowsL Sprite.cells Sprite.nil 5 xd.1], 92, false⟩)]
def wAwake_L1_T1 (y_ : (List Sprite) × Int × Pic) : Tm := wAwake_L1_T y_
def wAwake_L1_H1 (y_ : (List Sprite) × Int × Pic) : Heap := wAwake_L1_H y_
def wAwake_L1_ex (_ : (List Sprite) × Int × Pic) : Ex := .exit 0
theorem wAwake_L1_p1 (xd : (List Sprite) × Int × Pic) (d1 : (decide ((xd.2.1 : Int) < 82183)) = true) (w1d : Pic.ok xd.2.2) (w2d : 0 ≤ xd.2.2.line) (w3d : (List.length xd.1) ≤ 8) : RunsM Try.prog 16 (bodyOf Try.f12 [1, 1, 0, 1, 0, 0]) 1001 (wAwake_L1_T xd) (wAwake_L1_H xd) 1002 .normal (wAwake_L1_T ((pClock xd.2.2 xd.1).2, (IntKind.i64.wrap (xd.2.1 + 1)), (pClock xd.2.2 xd.1).1)) (wAwake_L1_H ((pClock xd.2.2 xd.1).2, (IntKind.i64.wrap (xd.2.1 + 1)), (pClock xd.2.2 xd.1).1)) 1002 := by
  exact runsM_of_x hG hM 400 1001 [.yes, .call [(1000, 1000), (1001, 1001)] [(1002, 1002)] 1002 (.tuple ⟨[]⟩) [(1000, (Pic.bl ((pClock xd.2.2 xd.1).1) (.slice (some ⟨1002, 0, (some 0)⟩) (List.length ((pClock xd.2.2 xd.1).2)) 5) false)), (1002, ⟨[rowsL Sprite.cells Sprite.nil 5 ((pClock xd.2.2 xd.1).2)], 92, false⟩)]] [(1000, 1000), (1002, 1001)] (J d1 (J (pClock_ok xd.2.2 xd.1 w1d w2d w3d) trivial)) (by kernel_rfl)
theorem wAwake_L1_p2 (xd : (List Sprite) × Int × Pic) (d1 : (decide ((xd.2.1 : Int) < 82183)) = false) : RunsM Try.prog 16 (bodyOf Try.f12 [1, 1, 0, 1, 0, 0]) 1001 (wAwake_L1_T xd) (wAwake_L1_H xd) 1002 (.exit 0) (wAwake_L1_T1 (xd.1, xd.2.1, xd.2.2)) (wAwake_L1_H1 (xd.1, xd.2.1, xd.2.2)) 1002 := by
  exact runsM_of_x hG hM 400 1001 [.no] [(1000, 1000), (1001, 1001)] (J d1 trivial) (by kernel_rfl)
theorem wAwake_L1_runs (x_ : (List Sprite) × Int × Pic) (y_ : (List Sprite) × Int × Pic) (h_ : LoopR (wAwake_L1) x_ y_) : RunsM Try.prog 16 (.block 0 (.loop (bodyOf Try.f12 [1, 1, 0, 1, 0, 0]))) 1001 (wAwake_L1_T x_) (wAwake_L1_H x_) 1002 (outOf 0 (wAwake_L1_ex y_)) (wAwake_L1_T1 y_) (wAwake_L1_H1 y_) 1002 := by
  refine block_loopM hG (wAwake_L1) (wAwake_L1_T) (wAwake_L1_H) wAwake_L1_ex (wAwake_L1_T1) (wAwake_L1_H1) ?_ ?_ ?_ x_ y_ h_
  · intro s r _ hr; cases hr
  · intro xd y_ hx
    cases hx with
    | p1 d1 w1d w2d w3d => exact wAwake_L1_p1 xd d1 w1d w2d w3d
  · intro xd y_ hx
    cases hx with
    | p2 d1 => exact wAwake_L1_p2 xd d1

theorem wAwake_p1  (r1 : (List Sprite) × Int × Pic) (l1 : LoopR (wAwake_L1) ([], 0, picZero) r1) (w1c : Pic.ok r1.2.2) (c1 : (((pGet r1.2.2 r1.1 2).2 : Int) == 128) = true) : FnSpec Try.prog 12 1000 [] [] (.bool (((pGet ((pGet r1.2.2 r1.1 2).1) r1.1 2).2 : Int) == 0)) [] := by
  exact fn_of_x hG hM Try.func12 (by kernel_rfl) (by kernel_rfl) 400 [.call [] [(1000, 1000)] 1000 (.pointer (some ⟨1000, 0, none⟩)) [(1000, (Pic.bl picZero (.slice none 0 0) false))], .segk 1 0 [0, 1, 3] [1000] .normal (wAwake_L1_T1 r1) (wAwake_L1_H1 r1) 1002, .call [(1000, 1000), (1001, 1001)] [] 1002 (.int .u8 ((pGet r1.2.2 r1.1 2).2)) [(1000, (Pic.bl ((pGet r1.2.2 r1.1 2).1) (.slice (some ⟨1001, 0, (some 0)⟩) (List.length r1.1) 5) false)), (1001, ⟨[rowsL Sprite.cells Sprite.nil 5 r1.1], 92, false⟩)], .yes, .yes, .call [(1000, 1000), (1001, 1001)] [] 1002 (.int .u8 ((pGet ((pGet r1.2.2 r1.1 2).1) r1.1 2).2)) [(1000, (Pic.bl ((pGet ((pGet r1.2.2 r1.1 2).1) r1.1 2).1) (.slice (some ⟨1001, 0, (some 0)⟩) (List.length r1.1) 5) false)), (1001, ⟨[rowsL Sprite.cells Sprite.nil 5 r1.1], 92, false⟩)], .yes, .yes] (J new_ok (J (runs_of_pre hG (wAwake_L1_runs ([], 0, picZero) r1 l1) [(1000, 1000)] (T := [(0, .bool false), (1, .pointer (some ⟨1000, 0, none⟩)), (3, .int .i64 0)]) (H := [(1000, (Pic.bl picZero (.slice none 0 0) false))]) (by kernel_rfl)) (J (pGet_ok r1.2.2 r1.1 2 w1c) (J c1 (J c1 (J (pGet_ok ((pGet r1.2.2 r1.1 2).1) r1.1 2 (pGet_w1 r1.2.2 r1.1 2 w1c (by decide : rng 256 2))) (J c1 (J c1 trivial)))))))) (by kernel_rfl)
theorem wAwake_p2  (r1 : (List Sprite) × Int × Pic) (l1 : LoopR (wAwake_L1) ([], 0, picZero) r1) (w1c : Pic.ok r1.2.2) (c1 : (((pGet r1.2.2 r1.1 2).2 : Int) == 128) = false) : FnSpec Try.prog 12 1000 [] [] (.bool false) [] := by
  exact fn_of_x hG hM Try.func12 (by kernel_rfl) (by kernel_rfl) 400 [.call [] [(1000, 1000)] 1000 (.pointer (some ⟨1000, 0, none⟩)) [(1000, (Pic.bl picZero (.slice none 0 0) false))], .segk 1 0 [0, 1, 3] [1000] .normal (wAwake_L1_T1 r1) (wAwake_L1_H1 r1) 1002, .call [(1000, 1000), (1001, 1001)] [] 1002 (.int .u8 ((pGet r1.2.2 r1.1 2).2)) [(1000, (Pic.bl ((pGet r1.2.2 r1.1 2).1) (.slice (some ⟨1001, 0, (some 0)⟩) (List.length r1.1) 5) false)), (1001, ⟨[rowsL Sprite.cells Sprite.nil 5 r1.1], 92, false⟩)], .no, .no, .no, .no] (J new_ok (J (runs_of_pre hG (wAwake_L1_runs ([], 0, picZero) r1 l1) [(1000, 1000)] (T := [(0, .bool false), (1, .pointer (some ⟨1000, 0, none⟩)), (3, .int .i64 0)]) (H := [(1000, (Pic.bl picZero (.slice none 0 0) false))]) (by kernel_rfl)) (J (pGet_ok r1.2.2 r1.1 2 w1c) (J c1 (J c1 (J c1 (J c1 trivial))))))) (by kernel_rfl)

end Go.Proofs.Ytgnhhnmpeklciaa
