/-
  The core: what a cycle wants, and what it does then. Written by gen_core.py. No condition.
-/
import Derived.Test.YtmnhmplcpijanaaGreatCB
namespace Go.Proofs.YtmnhmplcpijanaaGreat
open Go VX
set_option linter.unusedVariables false
set_option linter.unusedSimpArgs false
set_option maxRecDepth 100000

/-- The cells of a list of cycles; the slice of such that nobody writes. -/
def cycL : List (Nat × Nat) → List Value
  | [] => []
  | p :: r => .func (.func p.1) ⟨[]⟩ ⟨[]⟩ :: .func (.func p.2) ⟨[]⟩ ⟨[]⟩ :: cycL r
def cycV (l : List (Nat × Nat)) : Value := .func (.yield 2) ⟨cycL l⟩ ⟨[.bool true]⟩
theorem cycL_len : ∀ l : List (Nat × Nat), (cycL l).length = l.length * 2
  | [] => rfl
  | p :: r => by simp only [cycL, List.length_cons, cycL_len r]; omega
theorem cyc2 (w d : Nat) (r : List (Nat × Nat)) : 1 * 2 ≤ (cycL ((w, d) :: r)).length := by rw [cycL_len]; simp only [List.length_cons]; omega

structure Regs where
  U : Un
  PC : Int
def Regs.enc (s : Regs) : Value := .agg ⟨[.int .u8 s.U.A, .int .u8 s.U.X, .int .u8 s.U.Y, .int .u8 s.U.S, .int .u8 s.U.P, .int .u16 s.PC]⟩
def Regs.blk (s : Regs) : Blk := ⟨[.one (.int .u8 s.U.A), .one (.int .u8 s.U.X), .one (.int .u8 s.U.Y), .one (.int .u8 s.U.S), .one (.int .u8 s.U.P), .one (.int .u16 s.PC)], 27, false⟩
def Regs.cells (s : Regs) : List Value := [.int .u8 s.U.A, .int .u8 s.U.X, .int .u8 s.U.Y, .int .u8 s.U.S, .int .u8 s.U.P, .int .u16 s.PC]
structure Regs.ok (s : Regs) : Prop where
  U : Un.ok s.U
  PC : rng 65536 s.PC

structure Acc where
  At : Int
  Put : Bool
  B : Int
def Acc.enc (s : Acc) : Value := .agg ⟨[.int .u16 s.At, .bool s.Put, .int .u8 s.B]⟩
def Acc.blk (s : Acc) : Blk := ⟨[.one (.int .u16 s.At), .one (.bool s.Put), .one (.int .u8 s.B)], 43, false⟩
def Acc.cells (s : Acc) : List Value := [.int .u16 s.At, .bool s.Put, .int .u8 s.B]
structure Acc.ok (s : Acc) : Prop where
  At : rng 65536 s.At
  B : rng 256 s.B

structure Core where
  r : Regs
  was : Regs
  l : List (Nat × Nat)
  c : Code
  at_ : Int
  near : Int
  vector : Int
  low : Int
  m : Int
  fresh : Bool
  jam : Bool
  waits : Bool
  line : Bool
def Core.enc (s : Core) : Value := .agg ⟨[.int .u8 s.r.U.A, .int .u8 s.r.U.X, .int .u8 s.r.U.Y, .int .u8 s.r.U.S, .int .u8 s.r.U.P, .int .u16 s.r.PC, .int .u8 s.was.U.A, .int .u8 s.was.U.X, .int .u8 s.was.U.Y, .int .u8 s.was.U.S, .int .u8 s.was.U.P, .int .u16 s.was.PC, cycV s.l, .int .u8 s.c.Op, .int .u8 s.c.Mode, .int .u16 s.at_, .int .u16 s.near, .int .u16 s.vector, .int .u8 s.low, .int .u8 s.m, .bool s.fresh, .bool s.jam, .bool s.waits, .bool s.line]⟩
def Core.blk (s : Core) : Blk := ⟨[.one (.int .u8 s.r.U.A), .one (.int .u8 s.r.U.X), .one (.int .u8 s.r.U.Y), .one (.int .u8 s.r.U.S), .one (.int .u8 s.r.U.P), .one (.int .u16 s.r.PC), .one (.int .u8 s.was.U.A), .one (.int .u8 s.was.U.X), .one (.int .u8 s.was.U.Y), .one (.int .u8 s.was.U.S), .one (.int .u8 s.was.U.P), .one (.int .u16 s.was.PC), .one (cycV s.l), .one (.int .u8 s.c.Op), .one (.int .u8 s.c.Mode), .one (.int .u16 s.at_), .one (.int .u16 s.near), .one (.int .u16 s.vector), .one (.int .u8 s.low), .one (.int .u8 s.m), .one (.bool s.fresh), .one (.bool s.jam), .one (.bool s.waits), .one (.bool s.line)], 79, false⟩
def Core.cells (s : Core) : List Value := [.int .u8 s.r.U.A, .int .u8 s.r.U.X, .int .u8 s.r.U.Y, .int .u8 s.r.U.S, .int .u8 s.r.U.P, .int .u16 s.r.PC, .int .u8 s.was.U.A, .int .u8 s.was.U.X, .int .u8 s.was.U.Y, .int .u8 s.was.U.S, .int .u8 s.was.U.P, .int .u16 s.was.PC, cycV s.l, .int .u8 s.c.Op, .int .u8 s.c.Mode, .int .u16 s.at_, .int .u16 s.near, .int .u16 s.vector, .int .u8 s.low, .int .u8 s.m, .bool s.fresh, .bool s.jam, .bool s.waits, .bool s.line]
structure Core.ok (s : Core) : Prop where
  r : Regs.ok s.r
  was : Regs.ok s.was
  c : Code.ok s.c
  at_ : rng 65536 s.at_
  near : rng 65536 s.near
  vector : rng 65536 s.vector
  low : rng 256 s.low
  m : rng 256 s.m

/-- kotatsu/core.right -/
def right (p : Int) : Int :=
  (bOr .u8 (bAndNot .u8 p 16) 32)
theorem right_ok (p : Int) : FnSpec Tryz.prog 36 1000 [.int .u8 p] [] (.int .u8 (right p)) [] := by
  unfold right
  exact fn_of_x hG hM Tryz.func36 (by kernel_rfl) (by kernel_rfl) 400 [] trivial (by kernel_rfl)

theorem right_w (p : Int) (w_p : rng 256 p) : rng 256 (right p) := by
  unfold right
  exact (rng_bOr_u8 (bAndNot .u8 p 16) 32)

/-- (*kotatsu/core.Core).push -/
def c_push (c : Core) (b : Int) : Acc :=
  ({ At := (bOr .u16 256 (IntKind.u16.wrap c.r.U.S)), Put := true, B := b } : Acc)
theorem c_push_ok (c : Core) (b : Int) : FnSpec Tryz.prog 117 1001 [.pointer (some ⟨1000, 0, none⟩), .int .u8 b] [(1000, Core.blk c)] (Acc.enc (c_push c b)) [(1000, Core.blk c)] := by
  unfold c_push
  exact fn_of_x hG hM Tryz.func117 (by kernel_rfl) (by kernel_rfl) 400 [] trivial (by kernel_rfl)

theorem c_push_w (c : Core) (b : Int) (w_c : Core.ok c) (w_b : rng 256 b) : Acc.ok (c_push c b) := by
  unfold c_push
  exact (⟨(rng_bOr_u16 256 (IntKind.u16.wrap c.r.U.S)), w_b⟩ : Acc.ok ({ At := (bOr .u16 256 (IntKind.u16.wrap c.r.U.S)), Put := true, B := b } : Acc))

/-- (*kotatsu/core.Core).atPC -/
def c_atPC (c : Core) : Acc :=
  ({ At := c.r.PC, Put := false, B := 0 } : Acc)
theorem c_atPC_ok (c : Core) : FnSpec Tryz.prog 38 1001 [.pointer (some ⟨1000, 0, none⟩)] [(1000, Core.blk c)] (Acc.enc (c_atPC c)) [(1000, Core.blk c)] := by
  unfold c_atPC
  exact fn_of_x hG hM Tryz.func38 (by kernel_rfl) (by kernel_rfl) 400 [] trivial (by kernel_rfl)

theorem c_atPC_w (c : Core) (w_c : Core.ok c) : Acc.ok (c_atPC c) := by
  unfold c_atPC
  exact (⟨w_c.r.PC, (by decide : rng 256 0)⟩ : Acc.ok ({ At := c.r.PC, Put := false, B := 0 } : Acc))

/-- (*kotatsu/core.Core).atStack -/
def c_atStack (c : Core) : Acc :=
  ({ At := (bOr .u16 256 (IntKind.u16.wrap c.r.U.S)), Put := false, B := 0 } : Acc)
theorem c_atStack_ok (c : Core) : FnSpec Tryz.prog 44 1001 [.pointer (some ⟨1000, 0, none⟩)] [(1000, Core.blk c)] (Acc.enc (c_atStack c)) [(1000, Core.blk c)] := by
  unfold c_atStack
  exact fn_of_x hG hM Tryz.func44 (by kernel_rfl) (by kernel_rfl) 400 [] trivial (by kernel_rfl)

theorem c_atStack_w (c : Core) (w_c : Core.ok c) : Acc.ok (c_atStack c) := by
  unfold c_atStack
  exact (⟨(rng_bOr_u16 256 (IntKind.u16.wrap c.r.U.S)), (by decide : rng 256 0)⟩ : Acc.ok ({ At := (bOr .u16 256 (IntKind.u16.wrap c.r.U.S)), Put := false, B := 0 } : Acc))

/-- (*kotatsu/core.Core).atPlace -/
def c_atPlace (c : Core) : Acc :=
  ({ At := c.at_, Put := false, B := 0 } : Acc)
theorem c_atPlace_ok (c : Core) : FnSpec Tryz.prog 87 1001 [.pointer (some ⟨1000, 0, none⟩)] [(1000, Core.blk c)] (Acc.enc (c_atPlace c)) [(1000, Core.blk c)] := by
  unfold c_atPlace
  exact fn_of_x hG hM Tryz.func87 (by kernel_rfl) (by kernel_rfl) 400 [] trivial (by kernel_rfl)

theorem c_atPlace_w (c : Core) (w_c : Core.ok c) : Acc.ok (c_atPlace c) := by
  unfold c_atPlace
  exact (⟨w_c.at_, (by decide : rng 256 0)⟩ : Acc.ok ({ At := c.at_, Put := false, B := 0 } : Acc))

/-- (*kotatsu/core.Core).atNear -/
def c_atNear (c : Core) : Acc :=
  ({ At := c.near, Put := false, B := 0 } : Acc)
theorem c_atNear_ok (c : Core) : FnSpec Tryz.prog 85 1001 [.pointer (some ⟨1000, 0, none⟩)] [(1000, Core.blk c)] (Acc.enc (c_atNear c)) [(1000, Core.blk c)] := by
  unfold c_atNear
  exact fn_of_x hG hM Tryz.func85 (by kernel_rfl) (by kernel_rfl) 400 [] trivial (by kernel_rfl)

theorem c_atNear_w (c : Core) (w_c : Core.ok c) : Acc.ok (c_atNear c) := by
  unfold c_atNear
  exact (⟨w_c.near, (by decide : rng 256 0)⟩ : Acc.ok ({ At := c.near, Put := false, B := 0 } : Acc))

/-- (*kotatsu/core.Core).atVector -/
def c_atVector (c : Core) : Acc :=
  ({ At := c.vector, Put := false, B := 0 } : Acc)
theorem c_atVector_ok (c : Core) : FnSpec Tryz.prog 46 1001 [.pointer (some ⟨1000, 0, none⟩)] [(1000, Core.blk c)] (Acc.enc (c_atVector c)) [(1000, Core.blk c)] := by
  unfold c_atVector
  exact fn_of_x hG hM Tryz.func46 (by kernel_rfl) (by kernel_rfl) 400 [] trivial (by kernel_rfl)

theorem c_atVector_w (c : Core) (w_c : Core.ok c) : Acc.ok (c_atVector c) := by
  unfold c_atVector
  exact (⟨w_c.vector, (by decide : rng 256 0)⟩ : Acc.ok ({ At := c.vector, Put := false, B := 0 } : Acc))

/-- (*kotatsu/core.Core).atEnd -/
def c_atEnd (c : Core) : Acc :=
  ({ At := 65535, Put := false, B := 0 } : Acc)
theorem c_atEnd_ok (c : Core) : FnSpec Tryz.prog 128 1001 [.pointer (some ⟨1000, 0, none⟩)] [(1000, Core.blk c)] (Acc.enc (c_atEnd c)) [(1000, Core.blk c)] := by
  unfold c_atEnd
  exact fn_of_x hG hM Tryz.func128 (by kernel_rfl) (by kernel_rfl) 400 [] trivial (by kernel_rfl)

theorem c_atEnd_w (c : Core) (w_c : Core.ok c) : Acc.ok (c_atEnd c) := by
  unfold c_atEnd
  exact (⟨(by decide : rng 65536 65535), (by decide : rng 256 0)⟩ : Acc.ok ({ At := 65535, Put := false, B := 0 } : Acc))

/-- (*kotatsu/core.Core).putHigh -/
def c_putHigh (c : Core) : Acc :=
  (c_push c (IntKind.u8.wrap (bShr .u16 c.r.PC 8)))
theorem c_putHigh_ok (c : Core) : FnSpec Tryz.prog 77 1001 [.pointer (some ⟨1000, 0, none⟩)] [(1000, Core.blk c)] (Acc.enc (c_putHigh c)) [(1000, Core.blk c)] := by
  unfold c_putHigh
  exact fn_of_x hG hM Tryz.func77 (by kernel_rfl) (by kernel_rfl) 400 [.call [(1000, 1000)] [] 1001 (Acc.enc (c_push c (IntKind.u8.wrap (bShr .u16 c.r.PC 8)))) [(1000, Core.blk c)]] (J (by decide : (0 : Int) ≤ 8) (J (c_push_ok c (IntKind.u8.wrap (bShr .u16 c.r.PC 8))) trivial)) (by kernel_rfl)

theorem c_putHigh_w (c : Core) (w_c : Core.ok c) : Acc.ok (c_putHigh c) := by
  unfold c_putHigh
  exact (c_push_w c (IntKind.u8.wrap (bShr .u16 c.r.PC 8)) w_c (rng_wrap_u8 (bShr .u16 c.r.PC 8)))

/-- (*kotatsu/core.Core).putLow -/
def c_putLow (c : Core) : Acc :=
  (c_push c (IntKind.u8.wrap c.r.PC))
theorem c_putLow_ok (c : Core) : FnSpec Tryz.prog 78 1001 [.pointer (some ⟨1000, 0, none⟩)] [(1000, Core.blk c)] (Acc.enc (c_putLow c)) [(1000, Core.blk c)] := by
  unfold c_putLow
  exact fn_of_x hG hM Tryz.func78 (by kernel_rfl) (by kernel_rfl) 400 [.call [(1000, 1000)] [] 1001 (Acc.enc (c_push c (IntKind.u8.wrap c.r.PC))) [(1000, Core.blk c)]] (J (c_push_ok c (IntKind.u8.wrap c.r.PC)) trivial) (by kernel_rfl)

theorem c_putLow_w (c : Core) (w_c : Core.ok c) : Acc.ok (c_putLow c) := by
  unfold c_putLow
  exact (c_push_w c (IntKind.u8.wrap c.r.PC) w_c (rng_wrap_u8 c.r.PC))

/-- (*kotatsu/core.Core).putFlags -/
def c_putFlags (c : Core) : Acc :=
  (c_push c c.r.U.P)
theorem c_putFlags_ok (c : Core) : FnSpec Tryz.prog 79 1001 [.pointer (some ⟨1000, 0, none⟩)] [(1000, Core.blk c)] (Acc.enc (c_putFlags c)) [(1000, Core.blk c)] := by
  unfold c_putFlags
  exact fn_of_x hG hM Tryz.func79 (by kernel_rfl) (by kernel_rfl) 400 [.call [(1000, 1000)] [] 1001 (Acc.enc (c_push c c.r.U.P)) [(1000, Core.blk c)]] (J (c_push_ok c c.r.U.P) trivial) (by kernel_rfl)

theorem c_putFlags_w (c : Core) (w_c : Core.ok c) : Acc.ok (c_putFlags c) := by
  unfold c_putFlags
  exact (c_push_w c c.r.U.P w_c w_c.r.U.P)

/-- (*kotatsu/core.Core).putBroken -/
def c_putBroken (c : Core) : Acc :=
  (c_push c (bOr .u8 c.r.U.P 16))
theorem c_putBroken_ok (c : Core) : FnSpec Tryz.prog 125 1001 [.pointer (some ⟨1000, 0, none⟩)] [(1000, Core.blk c)] (Acc.enc (c_putBroken c)) [(1000, Core.blk c)] := by
  unfold c_putBroken
  exact fn_of_x hG hM Tryz.func125 (by kernel_rfl) (by kernel_rfl) 400 [.call [(1000, 1000)] [] 1001 (Acc.enc (c_push c (bOr .u8 c.r.U.P 16))) [(1000, Core.blk c)]] (J (c_push_ok c (bOr .u8 c.r.U.P 16)) trivial) (by kernel_rfl)

theorem c_putBroken_w (c : Core) (w_c : Core.ok c) : Acc.ok (c_putBroken c) := by
  unfold c_putBroken
  exact (c_push_w c (bOr .u8 c.r.U.P 16) w_c (rng_bOr_u8 c.r.U.P 16))

/-- (*kotatsu/core.Core).putA -/
def c_putA (c : Core) : Acc :=
  (c_push c c.r.U.A)
theorem c_putA_ok (c : Core) : FnSpec Tryz.prog 124 1001 [.pointer (some ⟨1000, 0, none⟩)] [(1000, Core.blk c)] (Acc.enc (c_putA c)) [(1000, Core.blk c)] := by
  unfold c_putA
  exact fn_of_x hG hM Tryz.func124 (by kernel_rfl) (by kernel_rfl) 400 [.call [(1000, 1000)] [] 1001 (Acc.enc (c_push c c.r.U.A)) [(1000, Core.blk c)]] (J (c_push_ok c c.r.U.A) trivial) (by kernel_rfl)

theorem c_putA_w (c : Core) (w_c : Core.ok c) : Acc.ok (c_putA c) := by
  unfold c_putA
  exact (c_push_w c c.r.U.A w_c w_c.r.U.A)

/-- (*kotatsu/core.Core).putM -/
def c_putM (c : Core) : Acc :=
  ({ At := c.at_, Put := true, B := c.m } : Acc)
theorem c_putM_ok (c : Core) : FnSpec Tryz.prog 99 1001 [.pointer (some ⟨1000, 0, none⟩)] [(1000, Core.blk c)] (Acc.enc (c_putM c)) [(1000, Core.blk c)] := by
  unfold c_putM
  exact fn_of_x hG hM Tryz.func99 (by kernel_rfl) (by kernel_rfl) 400 [] trivial (by kernel_rfl)

theorem c_putM_w (c : Core) (w_c : Core.ok c) : Acc.ok (c_putM c) := by
  unfold c_putM
  exact (⟨w_c.at_, w_c.m⟩ : Acc.ok ({ At := c.at_, Put := true, B := c.m } : Acc))

/-- (*kotatsu/core.Core).putStore -/
def c_putStore (c : Core) : Acc :=
  ({ At := c.at_, Put := true, B := (uStore c.r.U c.c.Op) } : Acc)
theorem c_putStore_ok (c : Core) : FnSpec Tryz.prog 93 1001 [.pointer (some ⟨1000, 0, none⟩)] [(1000, Core.blk c)] (Acc.enc (c_putStore c)) [(1000, Core.blk c)] := by
  unfold c_putStore
  exact fn_of_x hG hM Tryz.func93 (by kernel_rfl) (by kernel_rfl) 400 [.call [] [] 1000 (.int .u8 (uStore c.r.U c.c.Op)) []] (J (uStore_ok c.r.U c.c.Op) trivial) (by kernel_rfl)

theorem c_putStore_w (c : Core) (w_c : Core.ok c) : Acc.ok (c_putStore c) := by
  unfold c_putStore
  exact (⟨w_c.at_, (uStore_w c.r.U c.c.Op w_c.r.U w_c.c.Op)⟩ : Acc.ok ({ At := c.at_, Put := true, B := (uStore c.r.U c.c.Op) } : Acc))

/-- (*kotatsu/core.Core).whole -/
def c_whole (c : Core) (b : Int) : Core :=
  ({ c with at_ := (bOr .u16 (bShl .u16 (IntKind.u16.wrap b) 8) (IntKind.u16.wrap c.low)) } : Core)
theorem c_whole_ok (c : Core) (b : Int) : FnSpec Tryz.prog 91 1001 [.pointer (some ⟨1000, 0, none⟩), .int .u8 b] [(1000, Core.blk c)] (.tuple ⟨[]⟩) [(1000, Core.blk (c_whole c b))] := by
  unfold c_whole
  exact fn_of_x hG hM Tryz.func91 (by kernel_rfl) (by kernel_rfl) 400 [] (J (by decide : (0 : Int) ≤ 8) trivial) (by kernel_rfl)

theorem c_whole_w (c : Core) (b : Int) (w_c : Core.ok c) (w_b : rng 256 b) : Core.ok (c_whole c b) := by
  unfold c_whole
  exact (⟨w_c.r, w_c.was, w_c.c, (rng_bOr_u16 (bShl .u16 (IntKind.u16.wrap b) 8) (IntKind.u16.wrap c.low)), w_c.near, w_c.vector, w_c.low, w_c.m⟩ : Core.ok ({ c with at_ := (bOr .u16 (bShl .u16 (IntKind.u16.wrap b) 8) (IntKind.u16.wrap c.low)) } : Core))

/-- (*kotatsu/core.Core).jump -/
def c_jump (c : Core) (b : Int) : Core :=
  ({ c with r := ({ c.r with PC := (bOr .u16 (bShl .u16 (IntKind.u16.wrap b) 8) (IntKind.u16.wrap c.low)) } : Regs) } : Core)
theorem c_jump_ok (c : Core) (b : Int) : FnSpec Tryz.prog 60 1001 [.pointer (some ⟨1000, 0, none⟩), .int .u8 b] [(1000, Core.blk c)] (.tuple ⟨[]⟩) [(1000, Core.blk (c_jump c b))] := by
  unfold c_jump
  exact fn_of_x hG hM Tryz.func60 (by kernel_rfl) (by kernel_rfl) 400 [] (J (by decide : (0 : Int) ≤ 8) trivial) (by kernel_rfl)

theorem c_jump_w (c : Core) (b : Int) (w_c : Core.ok c) (w_b : rng 256 b) : Core.ok (c_jump c b) := by
  unfold c_jump
  exact (⟨(⟨w_c.r.U, (rng_bOr_u16 (bShl .u16 (IntKind.u16.wrap b) 8) (IntKind.u16.wrap c.low))⟩ : Regs.ok ({ c.r with PC := (bOr .u16 (bShl .u16 (IntKind.u16.wrap b) 8) (IntKind.u16.wrap c.low)) } : Regs)), w_c.was, w_c.c, w_c.at_, w_c.near, w_c.vector, w_c.low, w_c.m⟩ : Core.ok ({ c with r := ({ c.r with PC := (bOr .u16 (bShl .u16 (IntKind.u16.wrap b) 8) (IntKind.u16.wrap c.low)) } : Regs) } : Core))

/-- (*kotatsu/core.Core).set -/
def c_set (c : Core) (b : Int) : Core :=
  ({ c with r := ({ c.r with U := ({ c.r.U with P := (right b) } : Un) } : Regs) } : Core)
theorem c_set_ok (c : Core) (b : Int) : FnSpec Tryz.prog 127 1001 [.pointer (some ⟨1000, 0, none⟩), .int .u8 b] [(1000, Core.blk c)] (.tuple ⟨[]⟩) [(1000, Core.blk (c_set c b))] := by
  unfold c_set
  exact fn_of_x hG hM Tryz.func127 (by kernel_rfl) (by kernel_rfl) 400 [.call [] [] 1000 (.int .u8 (right b)) []] (J (right_ok b) trivial) (by kernel_rfl)

theorem c_set_w (c : Core) (b : Int) (w_c : Core.ok c) (w_b : rng 256 b) : Core.ok (c_set c b) := by
  unfold c_set
  exact (⟨(⟨(⟨w_c.r.U.A, w_c.r.U.X, w_c.r.U.Y, w_c.r.U.S, (right_w b w_b)⟩ : Un.ok ({ c.r.U with P := (right b) } : Un)), w_c.r.PC⟩ : Regs.ok ({ c.r with U := ({ c.r.U with P := (right b) } : Un) } : Regs)), w_c.was, w_c.c, w_c.at_, w_c.near, w_c.vector, w_c.low, w_c.m⟩ : Core.ok ({ c with r := ({ c.r with U := ({ c.r.U with P := (right b) } : Un) } : Regs) } : Core))

/-- (*kotatsu/core.Core).read -/
def c_read (c : Core) (b : Int) : Core :=
  ({ c with r := ({ c.r with U := (uRead c.r.U c.c.Op b) } : Regs) } : Core)
theorem c_read_ok (c : Core) (b : Int) (hop : 0 ≤ c.c.Op ∧ c.c.Op < 256) : FnSpec Tryz.prog 101 1001 [.pointer (some ⟨1000, 0, none⟩), .int .u8 b] [(1000, Core.blk c)] (.tuple ⟨[]⟩) [(1000, Core.blk (c_read c b))] := by
  unfold c_read
  exact fn_of_x hG hM Tryz.func101 (by kernel_rfl) (by kernel_rfl) 400 [.call [] [] 1000 (Un.enc (uRead c.r.U c.c.Op b)) []] (J (uRead_ok c.r.U c.c.Op b hop) trivial) (by kernel_rfl)

theorem c_read_w (c : Core) (b : Int) (w_c : Core.ok c) (w_b : rng 256 b) (hop : 0 ≤ c.c.Op ∧ c.c.Op < 256) : Core.ok (c_read c b) := by
  unfold c_read
  exact (⟨(⟨(uRead_w c.r.U c.c.Op b w_c.r.U w_b), w_c.r.PC⟩ : Regs.ok ({ c.r with U := (uRead c.r.U c.c.Op b) } : Regs)), w_c.was, w_c.c, w_c.at_, w_c.near, w_c.vector, w_c.low, w_c.m⟩ : Core.ok ({ c with r := ({ c.r with U := (uRead c.r.U c.c.Op b) } : Regs) } : Core))

/-- (*kotatsu/core.Core).none -/
def c_none (c : Core) (b : Int) : Unit :=
  ()
theorem c_none_ok (c : Core) (b : Int) : FnSpec Tryz.prog 43 1001 [.pointer (some ⟨1000, 0, none⟩), .int .u8 b] [(1000, Core.blk c)] (.tuple ⟨[]⟩) [(1000, Core.blk c)] := by
  exact fn_of_x hG hM Tryz.func43 (by kernel_rfl) (by kernel_rfl) 400 [] trivial (by kernel_rfl)

/-- (*kotatsu/core.Core).next -/
def c_next (c : Core) (b : Int) : Core :=
  ({ c with r := ({ c.r with PC := (IntKind.u16.wrap (c.r.PC + 1)) } : Regs) } : Core)
theorem c_next_ok (c : Core) (b : Int) : FnSpec Tryz.prog 122 1001 [.pointer (some ⟨1000, 0, none⟩), .int .u8 b] [(1000, Core.blk c)] (.tuple ⟨[]⟩) [(1000, Core.blk (c_next c b))] := by
  unfold c_next
  exact fn_of_x hG hM Tryz.func122 (by kernel_rfl) (by kernel_rfl) 400 [] trivial (by kernel_rfl)

theorem c_next_w (c : Core) (b : Int) (w_c : Core.ok c) (w_b : rng 256 b) : Core.ok (c_next c b) := by
  unfold c_next
  exact (⟨(⟨w_c.r.U, (rng_wrap_u16 (c.r.PC + 1))⟩ : Regs.ok ({ c.r with PC := (IntKind.u16.wrap (c.r.PC + 1)) } : Regs)), w_c.was, w_c.c, w_c.at_, w_c.near, w_c.vector, w_c.low, w_c.m⟩ : Core.ok ({ c with r := ({ c.r with PC := (IntKind.u16.wrap (c.r.PC + 1)) } : Regs) } : Core))

/-- (*kotatsu/core.Core).down -/
def c_down (c : Core) (b : Int) : Core :=
  ({ c with r := ({ c.r with U := ({ c.r.U with S := (IntKind.u8.wrap (c.r.U.S - 1)) } : Un) } : Regs) } : Core)
theorem c_down_ok (c : Core) (b : Int) : FnSpec Tryz.prog 45 1001 [.pointer (some ⟨1000, 0, none⟩), .int .u8 b] [(1000, Core.blk c)] (.tuple ⟨[]⟩) [(1000, Core.blk (c_down c b))] := by
  unfold c_down
  exact fn_of_x hG hM Tryz.func45 (by kernel_rfl) (by kernel_rfl) 400 [] trivial (by kernel_rfl)

theorem c_down_w (c : Core) (b : Int) (w_c : Core.ok c) (w_b : rng 256 b) : Core.ok (c_down c b) := by
  unfold c_down
  exact (⟨(⟨(⟨w_c.r.U.A, w_c.r.U.X, w_c.r.U.Y, (rng_wrap_u8 (c.r.U.S - 1)), w_c.r.U.P⟩ : Un.ok ({ c.r.U with S := (IntKind.u8.wrap (c.r.U.S - 1)) } : Un)), w_c.r.PC⟩ : Regs.ok ({ c.r with U := ({ c.r.U with S := (IntKind.u8.wrap (c.r.U.S - 1)) } : Un) } : Regs)), w_c.was, w_c.c, w_c.at_, w_c.near, w_c.vector, w_c.low, w_c.m⟩ : Core.ok ({ c with r := ({ c.r with U := ({ c.r.U with S := (IntKind.u8.wrap (c.r.U.S - 1)) } : Un) } : Regs) } : Core))

/-- (*kotatsu/core.Core).up -/
def c_up (c : Core) (b : Int) : Core :=
  ({ c with r := ({ c.r with U := ({ c.r.U with S := (IntKind.u8.wrap (c.r.U.S + 1)) } : Un) } : Regs) } : Core)
theorem c_up_ok (c : Core) (b : Int) : FnSpec Tryz.prog 120 1001 [.pointer (some ⟨1000, 0, none⟩), .int .u8 b] [(1000, Core.blk c)] (.tuple ⟨[]⟩) [(1000, Core.blk (c_up c b))] := by
  unfold c_up
  exact fn_of_x hG hM Tryz.func120 (by kernel_rfl) (by kernel_rfl) 400 [] trivial (by kernel_rfl)

theorem c_up_w (c : Core) (b : Int) (w_c : Core.ok c) (w_b : rng 256 b) : Core.ok (c_up c b) := by
  unfold c_up
  exact (⟨(⟨(⟨w_c.r.U.A, w_c.r.U.X, w_c.r.U.Y, (rng_wrap_u8 (c.r.U.S + 1)), w_c.r.U.P⟩ : Un.ok ({ c.r.U with S := (IntKind.u8.wrap (c.r.U.S + 1)) } : Un)), w_c.r.PC⟩ : Regs.ok ({ c.r with U := ({ c.r.U with S := (IntKind.u8.wrap (c.r.U.S + 1)) } : Un) } : Regs)), w_c.was, w_c.c, w_c.at_, w_c.near, w_c.vector, w_c.low, w_c.m⟩ : Core.ok ({ c with r := ({ c.r with U := ({ c.r.U with S := (IntKind.u8.wrap (c.r.U.S + 1)) } : Un) } : Regs) } : Core))

/-- (*kotatsu/core.Core).zero -/
def c_zero (c : Core) (b : Int) : Core :=
  ({ c with r := ({ c.r with PC := (IntKind.u16.wrap (c.r.PC + 1)) } : Regs), at_ := (IntKind.u16.wrap b) } : Core)
theorem c_zero_ok (c : Core) (b : Int) : FnSpec Tryz.prog 86 1001 [.pointer (some ⟨1000, 0, none⟩), .int .u8 b] [(1000, Core.blk c)] (.tuple ⟨[]⟩) [(1000, Core.blk (c_zero c b))] := by
  unfold c_zero
  exact fn_of_x hG hM Tryz.func86 (by kernel_rfl) (by kernel_rfl) 400 [] trivial (by kernel_rfl)

theorem c_zero_w (c : Core) (b : Int) (w_c : Core.ok c) (w_b : rng 256 b) : Core.ok (c_zero c b) := by
  unfold c_zero
  exact (⟨(⟨w_c.r.U, (rng_wrap_u16 (c.r.PC + 1))⟩ : Regs.ok ({ c.r with PC := (IntKind.u16.wrap (c.r.PC + 1)) } : Regs)), w_c.was, w_c.c, (rng_wrap_u16 b), w_c.near, w_c.vector, w_c.low, w_c.m⟩ : Core.ok ({ c with r := ({ c.r with PC := (IntKind.u16.wrap (c.r.PC + 1)) } : Regs), at_ := (IntKind.u16.wrap b) } : Core))

/-- (*kotatsu/core.Core).addX -/
def c_addX (c : Core) (b : Int) : Core :=
  ({ c with at_ := (IntKind.u16.wrap (IntKind.u8.wrap ((IntKind.u8.wrap c.at_) + c.r.U.X))) } : Core)
theorem c_addX_ok (c : Core) (b : Int) : FnSpec Tryz.prog 81 1001 [.pointer (some ⟨1000, 0, none⟩), .int .u8 b] [(1000, Core.blk c)] (.tuple ⟨[]⟩) [(1000, Core.blk (c_addX c b))] := by
  unfold c_addX
  exact fn_of_x hG hM Tryz.func81 (by kernel_rfl) (by kernel_rfl) 400 [] trivial (by kernel_rfl)

theorem c_addX_w (c : Core) (b : Int) (w_c : Core.ok c) (w_b : rng 256 b) : Core.ok (c_addX c b) := by
  unfold c_addX
  exact (⟨w_c.r, w_c.was, w_c.c, (rng_wrap_u16 (IntKind.u8.wrap ((IntKind.u8.wrap c.at_) + c.r.U.X))), w_c.near, w_c.vector, w_c.low, w_c.m⟩ : Core.ok ({ c with at_ := (IntKind.u16.wrap (IntKind.u8.wrap ((IntKind.u8.wrap c.at_) + c.r.U.X))) } : Core))

/-- (*kotatsu/core.Core).addY -/
def c_addY (c : Core) (b : Int) : Core :=
  ({ c with at_ := (IntKind.u16.wrap (IntKind.u8.wrap ((IntKind.u8.wrap c.at_) + c.r.U.Y))) } : Core)
theorem c_addY_ok (c : Core) (b : Int) : FnSpec Tryz.prog 83 1001 [.pointer (some ⟨1000, 0, none⟩), .int .u8 b] [(1000, Core.blk c)] (.tuple ⟨[]⟩) [(1000, Core.blk (c_addY c b))] := by
  unfold c_addY
  exact fn_of_x hG hM Tryz.func83 (by kernel_rfl) (by kernel_rfl) 400 [] trivial (by kernel_rfl)

theorem c_addY_w (c : Core) (b : Int) (w_c : Core.ok c) (w_b : rng 256 b) : Core.ok (c_addY c b) := by
  unfold c_addY
  exact (⟨w_c.r, w_c.was, w_c.c, (rng_wrap_u16 (IntKind.u8.wrap ((IntKind.u8.wrap c.at_) + c.r.U.Y))), w_c.near, w_c.vector, w_c.low, w_c.m⟩ : Core.ok ({ c with at_ := (IntKind.u16.wrap (IntKind.u8.wrap ((IntKind.u8.wrap c.at_) + c.r.U.Y))) } : Core))

/-- (*kotatsu/core.Core).first -/
def c_first (c : Core) (b : Int) : Core :=
  ({ c with r := ({ c.r with PC := (IntKind.u16.wrap (c.r.PC + 1)) } : Regs), low := b } : Core)
theorem c_first_ok (c : Core) (b : Int) : FnSpec Tryz.prog 88 1001 [.pointer (some ⟨1000, 0, none⟩), .int .u8 b] [(1000, Core.blk c)] (.tuple ⟨[]⟩) [(1000, Core.blk (c_first c b))] := by
  unfold c_first
  exact fn_of_x hG hM Tryz.func88 (by kernel_rfl) (by kernel_rfl) 400 [] trivial (by kernel_rfl)

theorem c_first_w (c : Core) (b : Int) (w_c : Core.ok c) (w_b : rng 256 b) : Core.ok (c_first c b) := by
  unfold c_first
  exact (⟨(⟨w_c.r.U, (rng_wrap_u16 (c.r.PC + 1))⟩ : Regs.ok ({ c.r with PC := (IntKind.u16.wrap (c.r.PC + 1)) } : Regs)), w_c.was, w_c.c, w_c.at_, w_c.near, w_c.vector, w_b, w_c.m⟩ : Core.ok ({ c with r := ({ c.r with PC := (IntKind.u16.wrap (c.r.PC + 1)) } : Regs), low := b } : Core))

/-- (*kotatsu/core.Core).second -/
def c_second (c : Core) (b : Int) : Core :=
  ({ (c_whole c b) with r := ({ ((c_whole c b).r) with PC := (IntKind.u16.wrap (((c_whole c b).r).PC + 1)) } : Regs) } : Core)
theorem c_second_ok (c : Core) (b : Int) : FnSpec Tryz.prog 89 1001 [.pointer (some ⟨1000, 0, none⟩), .int .u8 b] [(1000, Core.blk c)] (.tuple ⟨[]⟩) [(1000, Core.blk (c_second c b))] := by
  unfold c_second
  exact fn_of_x hG hM Tryz.func89 (by kernel_rfl) (by kernel_rfl) 400 [.call [(1000, 1000)] [] 1001 (.tuple ⟨[]⟩) [(1000, Core.blk (c_whole c b))]] (J (c_whole_ok c b) trivial) (by kernel_rfl)

theorem c_second_w (c : Core) (b : Int) (w_c : Core.ok c) (w_b : rng 256 b) : Core.ok (c_second c b) := by
  unfold c_second
  exact (⟨(⟨((c_whole_w c b w_c w_b).r).U, (rng_wrap_u16 (((c_whole c b).r).PC + 1))⟩ : Regs.ok ({ ((c_whole c b).r) with PC := (IntKind.u16.wrap (((c_whole c b).r).PC + 1)) } : Regs)), (c_whole_w c b w_c w_b).was, (c_whole_w c b w_c w_b).c, (c_whole_w c b w_c w_b).at_, (c_whole_w c b w_c w_b).near, (c_whole_w c b w_c w_b).vector, (c_whole_w c b w_c w_b).low, (c_whole_w c b w_c w_b).m⟩ : Core.ok ({ (c_whole c b) with r := ({ ((c_whole c b).r) with PC := (IntKind.u16.wrap (((c_whole c b).r).PC + 1)) } : Regs) } : Core))

/-- (*kotatsu/core.Core).point -/
def c_point (c : Core) (b : Int) : Core :=
  ({ c with at_ := (bOr .u16 (bAnd .u16 c.at_ 65280) (IntKind.u16.wrap (IntKind.u8.wrap ((IntKind.u8.wrap c.at_) + 1)))), low := b } : Core)
theorem c_point_ok (c : Core) (b : Int) : FnSpec Tryz.prog 90 1001 [.pointer (some ⟨1000, 0, none⟩), .int .u8 b] [(1000, Core.blk c)] (.tuple ⟨[]⟩) [(1000, Core.blk (c_point c b))] := by
  unfold c_point
  exact fn_of_x hG hM Tryz.func90 (by kernel_rfl) (by kernel_rfl) 400 [] trivial (by kernel_rfl)

theorem c_point_w (c : Core) (b : Int) (w_c : Core.ok c) (w_b : rng 256 b) : Core.ok (c_point c b) := by
  unfold c_point
  exact (⟨w_c.r, w_c.was, w_c.c, (rng_bOr_u16 (bAnd .u16 c.at_ 65280) (IntKind.u16.wrap (IntKind.u8.wrap ((IntKind.u8.wrap c.at_) + 1)))), w_c.near, w_c.vector, w_b, w_c.m⟩ : Core.ok ({ c with at_ := (bOr .u16 (bAnd .u16 c.at_ 65280) (IntKind.u16.wrap (IntKind.u8.wrap ((IntKind.u8.wrap c.at_) + 1)))), low := b } : Core))

/-- (*kotatsu/core.Core).beside -/
def c_beside (c : Core) (b : Int) : Core :=
  ({ (c_read c b) with r := ({ ((c_read c b).r) with PC := (IntKind.u16.wrap (((c_read c b).r).PC + 1)) } : Regs) } : Core)
theorem c_beside_ok (c : Core) (b : Int) (w_c : Core.ok c) : FnSpec Tryz.prog 97 1001 [.pointer (some ⟨1000, 0, none⟩), .int .u8 b] [(1000, Core.blk c)] (.tuple ⟨[]⟩) [(1000, Core.blk (c_beside c b))] := by
  unfold c_beside
  exact fn_of_x hG hM Tryz.func97 (by kernel_rfl) (by kernel_rfl) 400 [.call [(1000, 1000)] [] 1001 (.tuple ⟨[]⟩) [(1000, Core.blk (c_read c b))]] (J (c_read_ok c b (show 0 ≤ c.c.Op ∧ c.c.Op < 256 from w_c.c.Op)) trivial) (by kernel_rfl)

theorem c_beside_w (c : Core) (b : Int) (w_c : Core.ok c) (w_b : rng 256 b) : Core.ok (c_beside c b) := by
  unfold c_beside
  exact (⟨(⟨((c_read_w c b w_c w_b (show 0 ≤ c.c.Op ∧ c.c.Op < 256 from w_c.c.Op)).r).U, (rng_wrap_u16 (((c_read c b).r).PC + 1))⟩ : Regs.ok ({ ((c_read c b).r) with PC := (IntKind.u16.wrap (((c_read c b).r).PC + 1)) } : Regs)), (c_read_w c b w_c w_b (show 0 ≤ c.c.Op ∧ c.c.Op < 256 from w_c.c.Op)).was, (c_read_w c b w_c w_b (show 0 ≤ c.c.Op ∧ c.c.Op < 256 from w_c.c.Op)).c, (c_read_w c b w_c w_b (show 0 ≤ c.c.Op ∧ c.c.Op < 256 from w_c.c.Op)).at_, (c_read_w c b w_c w_b (show 0 ≤ c.c.Op ∧ c.c.Op < 256 from w_c.c.Op)).near, (c_read_w c b w_c w_b (show 0 ≤ c.c.Op ∧ c.c.Op < 256 from w_c.c.Op)).vector, (c_read_w c b w_c w_b (show 0 ≤ c.c.Op ∧ c.c.Op < 256 from w_c.c.Op)).low, (c_read_w c b w_c w_b (show 0 ≤ c.c.Op ∧ c.c.Op < 256 from w_c.c.Op)).m⟩ : Core.ok ({ (c_read c b) with r := ({ ((c_read c b).r) with PC := (IntKind.u16.wrap (((c_read c b).r).PC + 1)) } : Regs) } : Core))

/-- (*kotatsu/core.Core).self -/
def c_self (c : Core) (b : Int) : Core :=
  ({ c with r := ({ c.r with U := (uSelf c.r.U c.c.Op) } : Regs) } : Core)
theorem c_self_ok (c : Core) (b : Int) (w_c : Core.ok c) : FnSpec Tryz.prog 96 1001 [.pointer (some ⟨1000, 0, none⟩), .int .u8 b] [(1000, Core.blk c)] (.tuple ⟨[]⟩) [(1000, Core.blk (c_self c b))] := by
  unfold c_self
  exact fn_of_x hG hM Tryz.func96 (by kernel_rfl) (by kernel_rfl) 400 [.call [] [] 1000 (Un.enc (uSelf c.r.U c.c.Op)) []] (J (uSelf_ok c.r.U c.c.Op (show 0 ≤ c.c.Op ∧ c.c.Op < 256 from w_c.c.Op)) trivial) (by kernel_rfl)

theorem c_self_w (c : Core) (b : Int) (w_c : Core.ok c) (w_b : rng 256 b) : Core.ok (c_self c b) := by
  unfold c_self
  exact (⟨(⟨(uSelf_w c.r.U c.c.Op w_c.r.U w_c.c.Op (show 0 ≤ c.c.Op ∧ c.c.Op < 256 from w_c.c.Op)), w_c.r.PC⟩ : Regs.ok ({ c.r with U := (uSelf c.r.U c.c.Op) } : Regs)), w_c.was, w_c.c, w_c.at_, w_c.near, w_c.vector, w_c.low, w_c.m⟩ : Core.ok ({ c with r := ({ c.r with U := (uSelf c.r.U c.c.Op) } : Regs) } : Core))

/-- (*kotatsu/core.Core).take -/
def c_take (c : Core) (b : Int) : Core :=
  ({ c with m := b } : Core)
theorem c_take_ok (c : Core) (b : Int) : FnSpec Tryz.prog 98 1001 [.pointer (some ⟨1000, 0, none⟩), .int .u8 b] [(1000, Core.blk c)] (.tuple ⟨[]⟩) [(1000, Core.blk (c_take c b))] := by
  unfold c_take
  exact fn_of_x hG hM Tryz.func98 (by kernel_rfl) (by kernel_rfl) 400 [] trivial (by kernel_rfl)

theorem c_take_w (c : Core) (b : Int) (w_c : Core.ok c) (w_b : rng 256 b) : Core.ok (c_take c b) := by
  unfold c_take
  exact (⟨w_c.r, w_c.was, w_c.c, w_c.at_, w_c.near, w_c.vector, w_c.low, w_b⟩ : Core.ok ({ c with m := b } : Core))

/-- (*kotatsu/core.Core).change -/
def c_change (c : Core) (b : Int) : Core :=
  ({ c with r := ({ c.r with U := (uChange c.r.U c.c.Op c.m).1 } : Regs), m := (uChange c.r.U c.c.Op c.m).2 } : Core)
theorem c_change_ok (c : Core) (b : Int) (w_c : Core.ok c) : FnSpec Tryz.prog 100 1001 [.pointer (some ⟨1000, 0, none⟩), .int .u8 b] [(1000, Core.blk c)] (.tuple ⟨[]⟩) [(1000, Core.blk (c_change c b))] := by
  unfold c_change
  exact fn_of_x hG hM Tryz.func100 (by kernel_rfl) (by kernel_rfl) 400 [.call [] [] 1000 (.tuple ⟨[Un.enc ((uChange c.r.U c.c.Op c.m).1), .int .u8 ((uChange c.r.U c.c.Op c.m).2)]⟩) []] (J (uChange_ok c.r.U c.c.Op c.m (show 0 ≤ c.c.Op ∧ c.c.Op < 256 from w_c.c.Op)) trivial) (by kernel_rfl)

theorem c_change_w (c : Core) (b : Int) (w_c : Core.ok c) (w_b : rng 256 b) : Core.ok (c_change c b) := by
  unfold c_change
  exact (⟨(⟨(uChange_w1 c.r.U c.c.Op c.m w_c.r.U w_c.m), w_c.r.PC⟩ : Regs.ok ({ c.r with U := (uChange c.r.U c.c.Op c.m).1 } : Regs)), w_c.was, w_c.c, w_c.at_, w_c.near, w_c.vector, w_c.low, (uChange_w2 c.r.U c.c.Op c.m w_c.r.U w_c.m)⟩ : Core.ok ({ c with r := ({ c.r with U := (uChange c.r.U c.c.Op c.m).1 } : Regs), m := (uChange c.r.U c.c.Op c.m).2 } : Core))

/-- (*kotatsu/core.Core).arrive -/
def c_arrive (c : Core) (b : Int) : Core :=
  ({ c with r := ({ c.r with PC := c.at_ } : Regs) } : Core)
theorem c_arrive_ok (c : Core) (b : Int) : FnSpec Tryz.prog 135 1001 [.pointer (some ⟨1000, 0, none⟩), .int .u8 b] [(1000, Core.blk c)] (.tuple ⟨[]⟩) [(1000, Core.blk (c_arrive c b))] := by
  unfold c_arrive
  exact fn_of_x hG hM Tryz.func135 (by kernel_rfl) (by kernel_rfl) 400 [] trivial (by kernel_rfl)

theorem c_arrive_w (c : Core) (b : Int) (w_c : Core.ok c) (w_b : rng 256 b) : Core.ok (c_arrive c b) := by
  unfold c_arrive
  exact (⟨(⟨w_c.r.U, w_c.at_⟩ : Regs.ok ({ c.r with PC := c.at_ } : Regs)), w_c.was, w_c.c, w_c.at_, w_c.near, w_c.vector, w_c.low, w_c.m⟩ : Core.ok ({ c with r := ({ c.r with PC := c.at_ } : Regs) } : Core))

/-- (*kotatsu/core.Core).pull -/
def c_pull (c : Core) (b : Int) : Core :=
  ({ c with r := ({ c.r with U := ({ c.r.U with S := (IntKind.u8.wrap (c.r.U.S + 1)) } : Un) } : Regs), low := b } : Core)
theorem c_pull_ok (c : Core) (b : Int) : FnSpec Tryz.prog 121 1001 [.pointer (some ⟨1000, 0, none⟩), .int .u8 b] [(1000, Core.blk c)] (.tuple ⟨[]⟩) [(1000, Core.blk (c_pull c b))] := by
  unfold c_pull
  exact fn_of_x hG hM Tryz.func121 (by kernel_rfl) (by kernel_rfl) 400 [] trivial (by kernel_rfl)

theorem c_pull_w (c : Core) (b : Int) (w_c : Core.ok c) (w_b : rng 256 b) : Core.ok (c_pull c b) := by
  unfold c_pull
  exact (⟨(⟨(⟨w_c.r.U.A, w_c.r.U.X, w_c.r.U.Y, (rng_wrap_u8 (c.r.U.S + 1)), w_c.r.U.P⟩ : Un.ok ({ c.r.U with S := (IntKind.u8.wrap (c.r.U.S + 1)) } : Un)), w_c.r.PC⟩ : Regs.ok ({ c.r with U := ({ c.r.U with S := (IntKind.u8.wrap (c.r.U.S + 1)) } : Un) } : Regs)), w_c.was, w_c.c, w_c.at_, w_c.near, w_c.vector, w_b, w_c.m⟩ : Core.ok ({ c with r := ({ c.r with U := ({ c.r.U with S := (IntKind.u8.wrap (c.r.U.S + 1)) } : Un) } : Regs), low := b } : Core))

/-- (*kotatsu/core.Core).load -/
def c_load (c : Core) (b : Int) : Core :=
  ({ c with r := ({ c.r with U := (uRead_9 c.r.U b) } : Regs) } : Core)
theorem c_load_ok (c : Core) (b : Int) : FnSpec Tryz.prog 126 1001 [.pointer (some ⟨1000, 0, none⟩), .int .u8 b] [(1000, Core.blk c)] (.tuple ⟨[]⟩) [(1000, Core.blk (c_load c b))] := by
  unfold c_load
  exact fn_of_x hG hM Tryz.func126 (by kernel_rfl) (by kernel_rfl) 400 [.call [] [] 1000 (Un.enc (uRead_9 c.r.U b)) []] (J (uRead_9_ok c.r.U b) trivial) (by kernel_rfl)

theorem c_load_w (c : Core) (b : Int) (w_c : Core.ok c) (w_b : rng 256 b) : Core.ok (c_load c b) := by
  unfold c_load
  exact (⟨(⟨(uRead_9_w c.r.U b w_c.r.U w_b), w_c.r.PC⟩ : Regs.ok ({ c.r with U := (uRead_9 c.r.U b) } : Regs)), w_c.was, w_c.c, w_c.at_, w_c.near, w_c.vector, w_c.low, w_c.m⟩ : Core.ok ({ c with r := ({ c.r with U := (uRead_9 c.r.U b) } : Regs) } : Core))

/-- (*kotatsu/core.Core).flags -/
def c_flags (c : Core) (b : Int) : Core :=
  ({ (c_set c b) with r := ({ ((c_set c b).r) with U := ({ (((c_set c b).r).U) with S := (IntKind.u8.wrap ((((c_set c b).r).U).S + 1)) } : Un) } : Regs) } : Core)
theorem c_flags_ok (c : Core) (b : Int) : FnSpec Tryz.prog 123 1001 [.pointer (some ⟨1000, 0, none⟩), .int .u8 b] [(1000, Core.blk c)] (.tuple ⟨[]⟩) [(1000, Core.blk (c_flags c b))] := by
  unfold c_flags
  exact fn_of_x hG hM Tryz.func123 (by kernel_rfl) (by kernel_rfl) 400 [.call [(1000, 1000)] [] 1001 (.tuple ⟨[]⟩) [(1000, Core.blk (c_set c b))]] (J (c_set_ok c b) trivial) (by kernel_rfl)

theorem c_flags_w (c : Core) (b : Int) (w_c : Core.ok c) (w_b : rng 256 b) : Core.ok (c_flags c b) := by
  unfold c_flags
  exact (⟨(⟨(⟨(((c_set_w c b w_c w_b).r).U).A, (((c_set_w c b w_c w_b).r).U).X, (((c_set_w c b w_c w_b).r).U).Y, (rng_wrap_u8 ((((c_set c b).r).U).S + 1)), (((c_set_w c b w_c w_b).r).U).P⟩ : Un.ok ({ (((c_set c b).r).U) with S := (IntKind.u8.wrap ((((c_set c b).r).U).S + 1)) } : Un)), ((c_set_w c b w_c w_b).r).PC⟩ : Regs.ok ({ ((c_set c b).r) with U := ({ (((c_set c b).r).U) with S := (IntKind.u8.wrap ((((c_set c b).r).U).S + 1)) } : Un) } : Regs)), (c_set_w c b w_c w_b).was, (c_set_w c b w_c w_b).c, (c_set_w c b w_c w_b).at_, (c_set_w c b w_c w_b).near, (c_set_w c b w_c w_b).vector, (c_set_w c b w_c w_b).low, (c_set_w c b w_c w_b).m⟩ : Core.ok ({ (c_set c b) with r := ({ ((c_set c b).r) with U := ({ (((c_set c b).r).U) with S := (IntKind.u8.wrap ((((c_set c b).r).U).S + 1)) } : Un) } : Regs) } : Core))

/-- (*kotatsu/core.Core).lower -/
def c_lower (c : Core) (b : Int) : Core :=
  ({ c with vector := (IntKind.u16.wrap (c.vector + 1)), low := b } : Core)
theorem c_lower_ok (c : Core) (b : Int) : FnSpec Tryz.prog 47 1001 [.pointer (some ⟨1000, 0, none⟩), .int .u8 b] [(1000, Core.blk c)] (.tuple ⟨[]⟩) [(1000, Core.blk (c_lower c b))] := by
  unfold c_lower
  exact fn_of_x hG hM Tryz.func47 (by kernel_rfl) (by kernel_rfl) 400 [] trivial (by kernel_rfl)

theorem c_lower_w (c : Core) (b : Int) (w_c : Core.ok c) (w_b : rng 256 b) : Core.ok (c_lower c b) := by
  unfold c_lower
  exact (⟨w_c.r, w_c.was, w_c.c, w_c.at_, w_c.near, (rng_wrap_u16 (c.vector + 1)), w_b, w_c.m⟩ : Core.ok ({ c with vector := (IntKind.u16.wrap (c.vector + 1)), low := b } : Core))

/-- (*kotatsu/core.Core).enter -/
def c_enter (c : Core) (b : Int) : Core :=
  ({ (c_jump c b) with r := ({ ((c_jump c b).r) with U := (uFlag (((c_jump c b).r).U) 4 true) } : Regs) } : Core)
theorem c_enter_ok (c : Core) (b : Int) : FnSpec Tryz.prog 48 1001 [.pointer (some ⟨1000, 0, none⟩), .int .u8 b] [(1000, Core.blk c)] (.tuple ⟨[]⟩) [(1000, Core.blk (c_enter c b))] := by
  unfold c_enter
  exact fn_of_x hG hM Tryz.func48 (by kernel_rfl) (by kernel_rfl) 400 [.call [(1000, 1000)] [] 1001 (.tuple ⟨[]⟩) [(1000, Core.blk (c_jump c b))], .call [] [] 1000 (Un.enc (uFlag (((c_jump c b).r).U) 4 true)) []] (J (c_jump_ok c b) (J (uFlag_ok (((c_jump c b).r).U) 4 true) trivial)) (by kernel_rfl)

theorem c_enter_w (c : Core) (b : Int) (w_c : Core.ok c) (w_b : rng 256 b) : Core.ok (c_enter c b) := by
  unfold c_enter
  exact (⟨(⟨(uFlag_w (((c_jump c b).r).U) 4 true (((c_jump_w c b w_c w_b).r).U) (by decide : rng 256 4)), ((c_jump_w c b w_c w_b).r).PC⟩ : Regs.ok ({ ((c_jump c b).r) with U := (uFlag (((c_jump c b).r).U) 4 true) } : Regs)), (c_jump_w c b w_c w_b).was, (c_jump_w c b w_c w_b).c, (c_jump_w c b w_c w_b).at_, (c_jump_w c b w_c w_b).near, (c_jump_w c b w_c w_b).vector, (c_jump_w c b w_c w_b).low, (c_jump_w c b w_c w_b).m⟩ : Core.ok ({ (c_jump c b) with r := ({ ((c_jump c b).r) with U := (uFlag (((c_jump c b).r).U) 4 true) } : Regs) } : Core))

/-- (*kotatsu/core.Core).freeze -/
def c_freeze (c : Core) (b : Int) : Core :=
  ({ c with l := [(128, 129)] } : Core)
theorem c_freeze_ok (c : Core) (b : Int) : FnSpec Tryz.prog 129 1001 [.pointer (some ⟨1000, 0, none⟩), .int .u8 b] [(1000, Core.blk c)] (.tuple ⟨[]⟩) [(1000, Core.blk (c_freeze c b))] := by
  unfold c_freeze
  exact fn_of_x hG hM Tryz.func129 (by kernel_rfl) (by kernel_rfl) 400 [.born] trivial (by kernel_rfl)

theorem c_freeze_w (c : Core) (b : Int) (w_c : Core.ok c) (w_b : rng 256 b) : Core.ok (c_freeze c b) := by
  unfold c_freeze
  exact (⟨w_c.r, w_c.was, w_c.c, w_c.at_, w_c.near, w_c.vector, w_c.low, w_c.m⟩ : Core.ok ({ c with l := [(128, 129)] } : Core))

/-- (*kotatsu/core.Core).begin -/
def c_begin (c : Core) (l : List (Nat × Nat)) : Core :=
  ({ c with was := c.r, l := l, fresh := true } : Core)
theorem c_begin_ok (c : Core) (l : List (Nat × Nat)) : FnSpec Tryz.prog 37 1001 [.pointer (some ⟨1000, 0, none⟩), cycV l] [(1000, Core.blk c)] (.tuple ⟨[]⟩) [(1000, Core.blk (c_begin c l))] := by
  unfold c_begin
  exact fn_of_x hG hM Tryz.func37 (by kernel_rfl) (by kernel_rfl) 400 [] trivial (by kernel_rfl)

theorem c_begin_w (c : Core) (l : List (Nat × Nat)) (w_c : Core.ok c) : Core.ok (c_begin c l) := by
  unfold c_begin
  exact (⟨w_c.r, w_c.r, w_c.c, w_c.at_, w_c.near, w_c.vector, w_c.low, w_c.m⟩ : Core.ok ({ c with was := c.r, l := l, fresh := true } : Core))

end Go.Proofs.YtmnhmplcpijanaaGreat
