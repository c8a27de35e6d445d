/-
  A window of a noise. Written by gen_tone.py. No condition.
-/
import Derived.Test.YtngeghiaakkdbaaDoorTC
namespace Go.Proofs.YtngeghiaakkdbaaDoor
open Go VX
set_option linter.unusedVariables false
set_option linter.unusedSimpArgs false
set_option maxRecDepth 100000

/-- a loop of kotatsu/kotatsulaw11.window: one round -/
inductive lWindow_L1 (t : Tone) (xd : Int × Int × Tone) : (Int × Int × Tone) ⊕ (Int × Int × Tone) → Prop
  | p1 (d1 : (decide ((xd.1 : Int) < 30)) = true) (w1d : Tone.ok xd.2.2) : lWindow_L1 t xd (.inl ((IntKind.i64.wrap (xd.1 + 1)), (bOr .u64 (bShl .u64 xd.2.1 1) (IntKind.u64.wrap (bAnd .u8 (tOut xd.2.2) 1))), (walkF xd.2.2 1)))
  | p2 (d1 : (decide ((xd.1 : Int) < 30)) = false) : lWindow_L1 t xd (.inr (xd.1, xd.2.1, xd.2.2))
def lWindow_L1_T (t : Tone) (xd : Int × Int × Tone) : Tm := [(0, .pointer (some ⟨1000, 0, none⟩)), (2, .int .u64 0), (3, .int .u64 xd.2.1), (4, .int .i64 xd.1)]
def lWindow_L1_H (t : Tone) (xd : Int × Int × Tone) : Heap := [(1, ⟨[.ints .u8 4 dutiesT], 39, true⟩), (1000, ⟨[.one (.int .u8 xd.2.2.kind), .one (.bool xd.2.2.on), .ints .u8 4 xd.2.2.reg, .one (.int .u8 xd.2.2.length), .one (.int .u16 xd.2.2.period), .one (.int .u16 xd.2.2.timer), .one (.int .u8 xd.2.2.step), .one (.bool xd.2.2.begins), .one (.int .u8 xd.2.2.level), .one (.int .u8 xd.2.2.count), .one (.int .u8 xd.2.2.sweep), .one (.bool xd.2.2.swept), .one (.int .u8 xd.2.2.line), .one (.int .u16 xd.2.2.row)], 59, false⟩)]
def lWindow_L1_T1 (t : Tone) (r : Int × Int × Tone) : Tm := lWindow_L1_T t r
def lWindow_L1_H1 (t : Tone) (r : Int × Int × Tone) : Heap := lWindow_L1_H t r
def lWindow_L1_ex (_ : Int × Int × Tone) : Ex := .exit 0
theorem lWindow_L1_p1 (t : Tone) (xd : Int × Int × Tone) (d1 : (decide ((xd.1 : Int) < 30)) = true) (w1d : Tone.ok xd.2.2) : Runs Tryd.prog 17 (bodyOf Tryd.f15 [1, 1, 0, 1, 0, 0]) (lWindow_L1_T t xd) (lWindow_L1_H t xd) 1001 .normal (lWindow_L1_T t ((IntKind.i64.wrap (xd.1 + 1)), (bOr .u64 (bShl .u64 xd.2.1 1) (IntKind.u64.wrap (bAnd .u8 (tOut xd.2.2) 1))), (walkF xd.2.2 1))) (lWindow_L1_H t ((IntKind.i64.wrap (xd.1 + 1)), (bOr .u64 (bShl .u64 xd.2.1 1) (IntKind.u64.wrap (bAnd .u8 (tOut xd.2.2) 1))), (walkF xd.2.2 1))) 1001 := by
  exact runs_of_x hG hM 400 [.yes, .call [(1, 1), (1000, 1000)] [] 1001 (.int .u8 (tOut xd.2.2)) [(1000, Tone.blk xd.2.2)], .call [(1000, 1000)] [] 1001 (.tuple ⟨[]⟩) [(1000, Tone.blk (walkF xd.2.2 1))]] (And.intro d1 (And.intro (by decide : (0 : Int) ≤ 1) (And.intro (tOut_ok xd.2.2 w1d) (And.intro (walkF_ok xd.2.2 1 (by decide)) trivial)))) (by kernel_rfl)
theorem lWindow_L1_p2 (t : Tone) (xd : Int × Int × Tone) (d1 : (decide ((xd.1 : Int) < 30)) = false) : Runs Tryd.prog 17 (bodyOf Tryd.f15 [1, 1, 0, 1, 0, 0]) (lWindow_L1_T t xd) (lWindow_L1_H t xd) 1001 (.exit 0) (lWindow_L1_T1 t (xd.1, xd.2.1, xd.2.2)) (lWindow_L1_H1 t (xd.1, xd.2.1, xd.2.2)) 1001 := by
  exact runs_of_x hG hM 400 [.no] (And.intro d1 trivial) (by kernel_rfl)
theorem lWindow_L1_runs (t : Tone) (x_ : Int × Int × Tone) (y_ : Int × Int × Tone) (h_ : LoopR (lWindow_L1 t) x_ y_) : Runs Tryd.prog 17 (.block 0 (.loop (bodyOf Tryd.f15 [1, 1, 0, 1, 0, 0]))) (lWindow_L1_T t x_) (lWindow_L1_H t x_) 1001 (outOf 0 (lWindow_L1_ex y_)) (lWindow_L1_T1 t y_) (lWindow_L1_H1 t y_) 1001 := by
  refine block_loop (lWindow_L1 t) (lWindow_L1_T t) (lWindow_L1_H t) lWindow_L1_ex (lWindow_L1_T1 t) (lWindow_L1_H1 t) ?_ ?_ ?_ x_ y_ h_
  · intro r hr; cases hr
  · intro xd y_ hx
    cases hx with
    | p1 d1 w1d => exact lWindow_L1_p1 t xd d1 w1d
  · intro xd y_ hx
    cases hx with
    | p2 d1 => exact lWindow_L1_p2 t xd d1

theorem lWindow_p1 (t : Tone) (r1 : Int × Int × Tone) (l1 : LoopR (lWindow_L1 t) (0, 0, t) r1) : FnSpec Tryd.prog 15 1001 [.pointer (some ⟨1000, 0, none⟩)] [(1, ⟨[.ints .u8 4 dutiesT], 39, true⟩), (1000, Tone.blk t)] (.int .u64 r1.2.1) [(1000, Tone.blk r1.2.2)] := by
  exact fn_of_x hG hM Tryd.func15 (by kernel_rfl) (by kernel_rfl) 400 [.seg [0, 2, 3, 4] [1, 1000] .normal (lWindow_L1_T1 t r1) (lWindow_L1_H1 t r1) 1001] (And.intro (lWindow_L1_runs t (0, 0, t) r1 l1) trivial) (by kernel_rfl)

end Go.Proofs.YtngeghiaakkdbaaDoor
