/-
  The functions of layer 12, of its tones: each as a Lean function, and that the Go code comes to its answers. Written by gen_sound.py. No condition.
-/
import Derived.Test.YtgpcfjokmonlgaaDoorVS
import Derived.Test.YtgpcfjokmonlgaaDoorVR
import Derived.Test.YtgpcfjokmonlgaaDoorVP
import Derived.Test.YtgpcfjokmonlgaaDoorVT
import Derived.Test.YtgpcfjokmonlgaaDoorRows
namespace Go.Proofs.YtgpcfjokmonlgaaDoor
open Go VX
set_option linter.unusedVariables false
set_option linter.unusedSimpArgs false
set_option maxRecDepth 100000

theorem hG : Tryd.prog.globals.size ≤ 1000 := of_decide_eq_true (by kernel_rfl)
theorem hM : Tryd.prog.follows .mixedOrders = true := by kernel_rfl
theorem bt (b : Bool) : b = true ∨ b = false := by cases b <;> simp
theorem nt {b : Bool} (h : b = false) : ¬ b = true := by rw [h]; decide
theorem nf {b : Bool} (h : b = false) : (!b) = true := by rw [h]; rfl

def noisesL : List Int := [4, 8, 16, 32, 64, 96, 128, 160, 202, 254, 380, 508, 762, 1016, 2034, 4068]
def ratesL : List Int := [428, 380, 340, 320, 286, 254, 226, 214, 190, 160, 142, 128, 106, 84, 72, 54]
def dutiesL : List Int := [64, 96, 120, 159]
def lengthsL : List Int := [10, 254, 20, 2, 40, 4, 80, 6, 160, 8, 60, 10, 14, 12, 26, 14, 12, 16, 24, 18, 48, 20, 96, 22, 192, 24, 72, 26, 16, 28, 32, 30]
def noisesT : Nat → Int := fun r => noisesL.getD r 0
def ratesT : Nat → Int := fun r => ratesL.getD r 0
def dutiesT : Nat → Int := fun r => dutiesL.getD r 0
def lengthsT : Nat → Int := fun r => lengthsL.getD r 0

theorem noisesT_w (r : Nat) : rng 65536 (noisesT r) := rng_list (by decide) noisesL (by unfold noisesL; simp only [allR]; decide) r
theorem ratesT_w (r : Nat) : rng 65536 (ratesT r) := rng_list (by decide) ratesL (by unfold ratesL; simp only [allR]; decide) r
theorem dutiesT_w (r : Nat) : rng 256 (dutiesT r) := rng_list (by decide) dutiesL (by unfold dutiesL; simp only [allR]; decide) r
theorem lengthsT_w (r : Nat) : rng 256 (lengthsT r) := rng_list (by decide) lengthsL (by unfold lengthsL; simp only [allR]; decide) r

def tb0 : Nat × Blk := (0, ⟨[.ints .u16 16 noisesT], 84, true⟩)
def tb1 : Nat × Blk := (1, ⟨[.one (.int .i64 7457), .one (.int .i64 14913), .one (.int .i64 22371), .one (.int .i64 29829), .one (.int .i64 7457), .one (.int .i64 14913), .one (.int .i64 22371), .one (.int .i64 37281)], 88, true⟩)
def tb2 : Nat × Blk := (2, ⟨[.ints .u16 16 ratesT], 84, true⟩)
def tb3 : Nat × Blk := (3, ⟨[.ints .u8 4 dutiesT], 60, true⟩)
def tb4 : Nat × Blk := (4, ⟨[.ints .u8 32 lengthsT], 92, true⟩)
structure Tone where
  kind : Int
  on : Bool
  reg : Nat → Int
  length : Int
  period : Int
  timer : Int
  step : Int
  begins : Bool
  level : Int
  count : Int
  sweep : Int
  swept : Bool
  line : Int
  row : Int
def Tone.enc (s : Tone) : Value := .agg ⟨[.int .u8 s.kind, .bool s.on, .int .u8 (s.reg 0), .int .u8 (s.reg 1), .int .u8 (s.reg 2), .int .u8 (s.reg 3), .int .u8 s.length, .int .u16 s.period, .int .u16 s.timer, .int .u8 s.step, .bool s.begins, .int .u8 s.level, .int .u8 s.count, .int .u8 s.sweep, .bool s.swept, .int .u8 s.line, .int .u16 s.row]⟩
def Tone.blk (s : Tone) : Blk := ⟨[.one (.int .u8 s.kind), .one (.bool s.on), .ints .u8 4 s.reg, .one (.int .u8 s.length), .one (.int .u16 s.period), .one (.int .u16 s.timer), .one (.int .u8 s.step), .one (.bool s.begins), .one (.int .u8 s.level), .one (.int .u8 s.count), .one (.int .u8 s.sweep), .one (.bool s.swept), .one (.int .u8 s.line), .one (.int .u16 s.row)], 83, false⟩
def Tone.cells (s : Tone) : List Value := [.int .u8 s.kind, .bool s.on, .int .u8 (s.reg 0), .int .u8 (s.reg 1), .int .u8 (s.reg 2), .int .u8 (s.reg 3), .int .u8 s.length, .int .u16 s.period, .int .u16 s.timer, .int .u8 s.step, .bool s.begins, .int .u8 s.level, .int .u8 s.count, .int .u8 s.sweep, .bool s.swept, .int .u8 s.line, .int .u16 s.row]
structure Tone.ok (s : Tone) : Prop where
  kind : rng 256 s.kind
  reg : ∀ j, rng 256 (s.reg j)
  length : rng 256 s.length
  period : rng 65536 s.period
  timer : rng 65536 s.timer
  step : rng 256 s.step
  level : rng 256 s.level
  count : rng 256 s.count
  sweep : rng 256 s.sweep
  line : rng 256 s.line
  row : rng 65536 s.row

/-- kotatsu/tone.New -/
def tNew_0  : Tone :=
  ({ kind := 0, on := false, reg := (fun j => List.getD [0, 0, 0, 0] j 0), length := 0, period := 0, timer := 0, step := 0, begins := false, level := 0, count := 0, sweep := 0, swept := false, line := 0, row := 1 } : Tone)
theorem tNew_0_p1  : FnSpec Tryd.prog 28 1000 [.int .u8 0] [] (.pointer (some ⟨1000, 0, none⟩)) [(1000, Tone.blk ({ kind := 0, on := false, reg := (fun j => List.getD [0, 0, 0, 0] j 0), length := 0, period := 0, timer := 0, step := 0, begins := false, level := 0, count := 0, sweep := 0, swept := false, line := 0, row := 1 } : Tone))] := by
  exact fn_of_x hG hM Tryd.func28 (by kernel_rfl) (by kernel_rfl) 400 [.no, .group [1, 1, 4, 1, 1, 1, 1, 1, 1, 1, 1, 1, 1, 1], .no] (J (Eq.refl false) (J (Eq.refl false) trivial)) (by kernel_rfl)
theorem tNew_0_ok  : FnSpec Tryd.prog 28 1000 [.int .u8 0] [] (.pointer (some ⟨1000, 0, none⟩)) [(1000, Tone.blk tNew_0)] := by
  exact tNew_0_p1 

theorem tNew_0_w  : Tone.ok tNew_0 := by
  rw [tNew_0]
  exact (⟨(by decide : rng 256 0), (rng_list (n := 256) (by decide) [0, 0, 0, 0] ⟨(by decide : rng 256 0), ⟨(by decide : rng 256 0), ⟨(by decide : rng 256 0), ⟨(by decide : rng 256 0), trivial⟩⟩⟩⟩), (by decide : rng 256 0), (by decide : rng 65536 0), (by decide : rng 65536 0), (by decide : rng 256 0), (by decide : rng 256 0), (by decide : rng 256 0), (by decide : rng 256 0), (by decide : rng 256 0), (by decide : rng 65536 1)⟩ : Tone.ok ({ kind := 0, on := false, reg := (fun j => List.getD [0, 0, 0, 0] j 0), length := 0, period := 0, timer := 0, step := 0, begins := false, level := 0, count := 0, sweep := 0, swept := false, line := 0, row := 1 } : Tone))

/-- kotatsu/tone.New -/
def tNew_1  : Tone :=
  ({ kind := 1, on := false, reg := (fun j => List.getD [0, 0, 0, 0] j 0), length := 0, period := 0, timer := 0, step := 0, begins := false, level := 0, count := 0, sweep := 0, swept := false, line := 0, row := 1 } : Tone)
theorem tNew_1_p1  : FnSpec Tryd.prog 28 1000 [.int .u8 1] [] (.pointer (some ⟨1000, 0, none⟩)) [(1000, Tone.blk ({ kind := 1, on := false, reg := (fun j => List.getD [0, 0, 0, 0] j 0), length := 0, period := 0, timer := 0, step := 0, begins := false, level := 0, count := 0, sweep := 0, swept := false, line := 0, row := 1 } : Tone))] := by
  exact fn_of_x hG hM Tryd.func28 (by kernel_rfl) (by kernel_rfl) 400 [.no, .group [1, 1, 4, 1, 1, 1, 1, 1, 1, 1, 1, 1, 1, 1], .no] (J (Eq.refl false) (J (Eq.refl false) trivial)) (by kernel_rfl)
theorem tNew_1_ok  : FnSpec Tryd.prog 28 1000 [.int .u8 1] [] (.pointer (some ⟨1000, 0, none⟩)) [(1000, Tone.blk tNew_1)] := by
  exact tNew_1_p1 

theorem tNew_1_w  : Tone.ok tNew_1 := by
  rw [tNew_1]
  exact (⟨(by decide : rng 256 1), (rng_list (n := 256) (by decide) [0, 0, 0, 0] ⟨(by decide : rng 256 0), ⟨(by decide : rng 256 0), ⟨(by decide : rng 256 0), ⟨(by decide : rng 256 0), trivial⟩⟩⟩⟩), (by decide : rng 256 0), (by decide : rng 65536 0), (by decide : rng 65536 0), (by decide : rng 256 0), (by decide : rng 256 0), (by decide : rng 256 0), (by decide : rng 256 0), (by decide : rng 256 0), (by decide : rng 65536 1)⟩ : Tone.ok ({ kind := 1, on := false, reg := (fun j => List.getD [0, 0, 0, 0] j 0), length := 0, period := 0, timer := 0, step := 0, begins := false, level := 0, count := 0, sweep := 0, swept := false, line := 0, row := 1 } : Tone))

/-- kotatsu/tone.New -/
def tNew_2  : Tone :=
  ({ kind := 2, on := false, reg := (fun j => List.getD [0, 0, 0, 0] j 0), length := 0, period := 0, timer := 0, step := 0, begins := false, level := 0, count := 0, sweep := 0, swept := false, line := 0, row := 1 } : Tone)
theorem tNew_2_p1  : FnSpec Tryd.prog 28 1000 [.int .u8 2] [] (.pointer (some ⟨1000, 0, none⟩)) [(1000, Tone.blk ({ kind := 2, on := false, reg := (fun j => List.getD [0, 0, 0, 0] j 0), length := 0, period := 0, timer := 0, step := 0, begins := false, level := 0, count := 0, sweep := 0, swept := false, line := 0, row := 1 } : Tone))] := by
  exact fn_of_x hG hM Tryd.func28 (by kernel_rfl) (by kernel_rfl) 400 [.no, .group [1, 1, 4, 1, 1, 1, 1, 1, 1, 1, 1, 1, 1, 1], .no] (J (Eq.refl false) (J (Eq.refl false) trivial)) (by kernel_rfl)
theorem tNew_2_ok  : FnSpec Tryd.prog 28 1000 [.int .u8 2] [] (.pointer (some ⟨1000, 0, none⟩)) [(1000, Tone.blk tNew_2)] := by
  exact tNew_2_p1 

theorem tNew_2_w  : Tone.ok tNew_2 := by
  rw [tNew_2]
  exact (⟨(by decide : rng 256 2), (rng_list (n := 256) (by decide) [0, 0, 0, 0] ⟨(by decide : rng 256 0), ⟨(by decide : rng 256 0), ⟨(by decide : rng 256 0), ⟨(by decide : rng 256 0), trivial⟩⟩⟩⟩), (by decide : rng 256 0), (by decide : rng 65536 0), (by decide : rng 65536 0), (by decide : rng 256 0), (by decide : rng 256 0), (by decide : rng 256 0), (by decide : rng 256 0), (by decide : rng 256 0), (by decide : rng 65536 1)⟩ : Tone.ok ({ kind := 2, on := false, reg := (fun j => List.getD [0, 0, 0, 0] j 0), length := 0, period := 0, timer := 0, step := 0, begins := false, level := 0, count := 0, sweep := 0, swept := false, line := 0, row := 1 } : Tone))

/-- kotatsu/tone.New -/
def tNew_3  : Tone :=
  ({ kind := 3, on := false, reg := (fun j => List.getD [0, 0, 0, 0] j 0), length := 0, period := (IntKind.u16.wrap ((noisesT 0) - 1)), timer := 0, step := 0, begins := false, level := 0, count := 0, sweep := 0, swept := false, line := 0, row := 1 } : Tone)
theorem tNew_3_p1  : FnSpec Tryd.prog 28 1000 [.int .u8 3] [tb0] (.pointer (some ⟨1000, 0, none⟩)) [(1000, Tone.blk ({ kind := 3, on := false, reg := (fun j => List.getD [0, 0, 0, 0] j 0), length := 0, period := (IntKind.u16.wrap ((noisesT 0) - 1)), timer := 0, step := 0, begins := false, level := 0, count := 0, sweep := 0, swept := false, line := 0, row := 1 } : Tone))] := by
  exact fn_of_x hG hM Tryd.func28 (by kernel_rfl) (by kernel_rfl) 400 [.no, .group [1, 1, 4, 1, 1, 1, 1, 1, 1, 1, 1, 1, 1, 1], .yes, .lit 0] (J (Eq.refl false) (J (Eq.refl true) (J (Eq.refl (0 : Int)) (J (by decide : 0 < 16) trivial)))) (by kernel_rfl)
theorem tNew_3_ok  : FnSpec Tryd.prog 28 1000 [.int .u8 3] [tb0] (.pointer (some ⟨1000, 0, none⟩)) [(1000, Tone.blk tNew_3)] := by
  exact tNew_3_p1 

theorem tNew_3_w  : Tone.ok tNew_3 := by
  rw [tNew_3]
  exact (⟨(by decide : rng 256 3), (rng_list (n := 256) (by decide) [0, 0, 0, 0] ⟨(by decide : rng 256 0), ⟨(by decide : rng 256 0), ⟨(by decide : rng 256 0), ⟨(by decide : rng 256 0), trivial⟩⟩⟩⟩), (by decide : rng 256 0), (rng_wrap_u16 ((noisesT 0) - 1)), (by decide : rng 65536 0), (by decide : rng 256 0), (by decide : rng 256 0), (by decide : rng 256 0), (by decide : rng 256 0), (by decide : rng 256 0), (by decide : rng 65536 1)⟩ : Tone.ok ({ kind := 3, on := false, reg := (fun j => List.getD [0, 0, 0, 0] j 0), length := 0, period := (IntKind.u16.wrap ((noisesT 0) - 1)), timer := 0, step := 0, begins := false, level := 0, count := 0, sweep := 0, swept := false, line := 0, row := 1 } : Tone))

/-- (*kotatsu/tone.Tone).Enable -/
def tEnable (t : Tone) (on : Bool) : Tone :=
  if (!on) = true then
    ({ t with on := on, length := 0 } : Tone)
  else
    ({ t with on := on } : Tone)
theorem tEnable_p1 (t : Tone) (on : Bool) (c1 : (!on) = true) : FnSpec Tryd.prog 31 1001 [.pointer (some ⟨1000, 0, none⟩), .bool on] [(1000, Tone.blk t)] (.tuple ⟨[]⟩) [(1000, Tone.blk ({ t with on := on, length := 0 } : Tone))] := by
  exact fn_of_x hG hM Tryd.func31 (by kernel_rfl) (by kernel_rfl) 400 [.no, .yes] (J (Eq.refl false) (J c1 trivial)) (by kernel_rfl)
theorem tEnable_p2 (t : Tone) (on : Bool) (c1 : (!on) = false) : FnSpec Tryd.prog 31 1001 [.pointer (some ⟨1000, 0, none⟩), .bool on] [(1000, Tone.blk t)] (.tuple ⟨[]⟩) [(1000, Tone.blk ({ t with on := on } : Tone))] := by
  exact fn_of_x hG hM Tryd.func31 (by kernel_rfl) (by kernel_rfl) 400 [.no, .no] (J (Eq.refl false) (J c1 trivial)) (by kernel_rfl)
theorem tEnable_ok (t : Tone) (on : Bool) : FnSpec Tryd.prog 31 1001 [.pointer (some ⟨1000, 0, none⟩), .bool on] [(1000, Tone.blk t)] (.tuple ⟨[]⟩) [(1000, Tone.blk (tEnable t on))] := by
  rcases bt (!on) with c1 | c1
  ·
    rw [tEnable, if_pos c1]
    exact tEnable_p1 t on c1
  ·
    rw [tEnable, if_neg (nt c1)]
    exact tEnable_p2 t on c1

theorem tEnable_w (t : Tone) (on : Bool) (w_t : Tone.ok t) : Tone.ok (tEnable t on) := by
  rcases bt (!on) with c1 | c1
  ·
    rw [tEnable, if_pos c1]
    exact (⟨w_t.kind, w_t.reg, (by decide : rng 256 0), w_t.period, w_t.timer, w_t.step, w_t.level, w_t.count, w_t.sweep, w_t.line, w_t.row⟩ : Tone.ok ({ t with on := on, length := 0 } : Tone))
  ·
    rw [tEnable, if_neg (nt c1)]
    exact (⟨w_t.kind, w_t.reg, w_t.length, w_t.period, w_t.timer, w_t.step, w_t.level, w_t.count, w_t.sweep, w_t.line, w_t.row⟩ : Tone.ok ({ t with on := on } : Tone))

/-- (*kotatsu/tone.Tone).Live -/
def tLive (t : Tone) : Bool :=
  (decide ((t.length : Int) > 0))
theorem tLive_p1 (t : Tone) : FnSpec Tryd.prog 34 1001 [.pointer (some ⟨1000, 0, none⟩)] [(1000, (Tone.blk t).lend)] (.bool (decide ((t.length : Int) > 0))) [] := by
  exact fn_of_x hG hM Tryd.func34 (by kernel_rfl) (by kernel_rfl) 400 [.yes, .yes, .yes, .yes, .yes, .yes] (J (Eq.refl true) (J (Eq.refl true) (J (Eq.refl true) (J (Eq.refl true) (J (Eq.refl true) (J (Eq.refl true) trivial)))))) (by kernel_rfl)
theorem tLive_ok (t : Tone) : FnSpec Tryd.prog 34 1001 [.pointer (some ⟨1000, 0, none⟩)] [(1000, (Tone.blk t).lend)] (.bool (tLive t)) [] := by
  exact tLive_p1 t

/-- (*kotatsu/tone.Tone).target -/
def tTarget (t : Tone) : Int :=
  if (((bAnd .u8 (t.reg 1) 8) : Int) == 0) = true then
    (IntKind.u16.wrap (t.period + (bShr .u16 t.period (bAnd .u8 (t.reg 1) 7))))
  else
    if ((t.kind : Int) == 0) = true then
      (IntKind.u16.wrap (t.period - (if t.period < (IntKind.u16.wrap ((bShr .u16 t.period (bAnd .u8 (t.reg 1) 7)) + 1)) then t.period else (IntKind.u16.wrap ((bShr .u16 t.period (bAnd .u8 (t.reg 1) 7)) + 1)))))
    else
      (IntKind.u16.wrap (t.period - (if t.period < (bShr .u16 t.period (bAnd .u8 (t.reg 1) 7)) then t.period else (bShr .u16 t.period (bAnd .u8 (t.reg 1) 7)))))
theorem tTarget_p1 (t : Tone) (c1 : (((bAnd .u8 (t.reg 1) 8) : Int) == 0) = true) : FnSpec Tryd.prog 67 1001 [.pointer (some ⟨1000, 0, none⟩)] [(1000, (Tone.blk t).lend)] (.int .u16 (IntKind.u16.wrap (t.period + (bShr .u16 t.period (bAnd .u8 (t.reg 1) 7))))) [] := by
  exact fn_of_x hG hM Tryd.func67 (by kernel_rfl) (by kernel_rfl) 400 [.lit 1, .lit 1, .yes] (J (Eq.refl (1 : Int)) (J (by decide : 1 < 4) (J (rng_bAnd_u8 (t.reg 1) 7).1 (J (Eq.refl (1 : Int)) (J (by decide : 1 < 4) (J c1 trivial)))))) (by kernel_rfl)
theorem tTarget_p2 (t : Tone) (c1 : (((bAnd .u8 (t.reg 1) 8) : Int) == 0) = false) (c2 : ((t.kind : Int) == 0) = true) : FnSpec Tryd.prog 67 1001 [.pointer (some ⟨1000, 0, none⟩)] [(1000, (Tone.blk t).lend)] (.int .u16 (IntKind.u16.wrap (t.period - (if t.period < (IntKind.u16.wrap ((bShr .u16 t.period (bAnd .u8 (t.reg 1) 7)) + 1)) then t.period else (IntKind.u16.wrap ((bShr .u16 t.period (bAnd .u8 (t.reg 1) 7)) + 1)))))) [] := by
  exact fn_of_x hG hM Tryd.func67 (by kernel_rfl) (by kernel_rfl) 400 [.lit 1, .lit 1, .no, .yes] (J (Eq.refl (1 : Int)) (J (by decide : 1 < 4) (J (rng_bAnd_u8 (t.reg 1) 7).1 (J (Eq.refl (1 : Int)) (J (by decide : 1 < 4) (J c1 (J c2 trivial))))))) (by kernel_rfl)
theorem tTarget_p3 (t : Tone) (c1 : (((bAnd .u8 (t.reg 1) 8) : Int) == 0) = false) (c2 : ((t.kind : Int) == 0) = false) : FnSpec Tryd.prog 67 1001 [.pointer (some ⟨1000, 0, none⟩)] [(1000, (Tone.blk t).lend)] (.int .u16 (IntKind.u16.wrap (t.period - (if t.period < (bShr .u16 t.period (bAnd .u8 (t.reg 1) 7)) then t.period else (bShr .u16 t.period (bAnd .u8 (t.reg 1) 7)))))) [] := by
  exact fn_of_x hG hM Tryd.func67 (by kernel_rfl) (by kernel_rfl) 400 [.lit 1, .lit 1, .no, .no] (J (Eq.refl (1 : Int)) (J (by decide : 1 < 4) (J (rng_bAnd_u8 (t.reg 1) 7).1 (J (Eq.refl (1 : Int)) (J (by decide : 1 < 4) (J c1 (J c2 trivial))))))) (by kernel_rfl)
theorem tTarget_ok (t : Tone) : FnSpec Tryd.prog 67 1001 [.pointer (some ⟨1000, 0, none⟩)] [(1000, (Tone.blk t).lend)] (.int .u16 (tTarget t)) [] := by
  rcases bt (((bAnd .u8 (t.reg 1) 8) : Int) == 0) with c1 | c1
  ·
    rw [tTarget, if_pos c1]
    exact tTarget_p1 t c1
  ·
    rcases bt ((t.kind : Int) == 0) with c2 | c2
    ·
      rw [tTarget, if_neg (nt c1), if_pos c2]
      exact tTarget_p2 t c1 c2
    ·
      rw [tTarget, if_neg (nt c1), if_neg (nt c2)]
      exact tTarget_p3 t c1 c2

theorem tTarget_w (t : Tone) (w_t : Tone.ok t) : rng 65536 (tTarget t) := by
  rcases bt (((bAnd .u8 (t.reg 1) 8) : Int) == 0) with c1 | c1
  ·
    rw [tTarget, if_pos c1]
    exact (rng_wrap_u16 (t.period + (bShr .u16 t.period (bAnd .u8 (t.reg 1) 7))))
  ·
    rcases bt ((t.kind : Int) == 0) with c2 | c2
    ·
      rw [tTarget, if_neg (nt c1), if_pos c2]
      exact (rng_wrap_u16 (t.period - (if t.period < (IntKind.u16.wrap ((bShr .u16 t.period (bAnd .u8 (t.reg 1) 7)) + 1)) then t.period else (IntKind.u16.wrap ((bShr .u16 t.period (bAnd .u8 (t.reg 1) 7)) + 1)))))
    ·
      rw [tTarget, if_neg (nt c1), if_neg (nt c2)]
      exact (rng_wrap_u16 (t.period - (if t.period < (bShr .u16 t.period (bAnd .u8 (t.reg 1) 7)) then t.period else (bShr .u16 t.period (bAnd .u8 (t.reg 1) 7)))))

/-- (*kotatsu/tone.Tone).mute -/
def tMute (t : Tone) : Bool :=
  if (decide ((t.period : Int) < 8)) = true then
    true
  else
    (decide (((tTarget t) : Int) > 2047))
theorem tMute_p1 (t : Tone) (c1 : (decide ((t.period : Int) < 8)) = true) : FnSpec Tryd.prog 60 1001 [.pointer (some ⟨1000, 0, none⟩)] [(1000, (Tone.blk t).lend)] (.bool true) [] := by
  exact fn_of_x hG hM Tryd.func60 (by kernel_rfl) (by kernel_rfl) 400 [.yes, .yes, .yes, .yes] (J c1 (J c1 (J c1 (J c1 trivial)))) (by kernel_rfl)
theorem tMute_p2 (t : Tone) (c1 : (decide ((t.period : Int) < 8)) = false) : FnSpec Tryd.prog 60 1001 [.pointer (some ⟨1000, 0, none⟩)] [(1000, (Tone.blk t).lend)] (.bool (decide (((tTarget t) : Int) > 2047))) [] := by
  exact fn_of_x hG hM Tryd.func60 (by kernel_rfl) (by kernel_rfl) 400 [.no, .no, .call [(1000, 1000)] [] 1001 (.int .u16 (tTarget t)) [], .no, .no] (J c1 (J c1 (J (tTarget_ok t) (J c1 (J c1 trivial))))) (by kernel_rfl)
theorem tMute_ok (t : Tone) : FnSpec Tryd.prog 60 1001 [.pointer (some ⟨1000, 0, none⟩)] [(1000, (Tone.blk t).lend)] (.bool (tMute t)) [] := by
  rcases bt (decide ((t.period : Int) < 8)) with c1 | c1
  ·
    rw [tMute, if_pos c1]
    exact tMute_p1 t c1
  ·
    rw [tMute, if_neg (nt c1)]
    exact tMute_p2 t c1

/-- (*kotatsu/tone.Tone).Quarter -/
def tQuarter (t : Tone) : Tone :=
  if ((t.kind : Int) == 2) = true then
    if t.begins = true then
      ({ t with begins := (((bAnd .u8 (t.reg 0) 128) : Int) != 0), line := (bAndNot .u8 (t.reg 0) 128) } : Tone)
    else
      if (decide ((t.line : Int) > 0)) = true then
        ({ t with begins := false, line := (IntKind.u8.wrap (t.line - 1)) } : Tone)
      else
        ({ t with begins := false } : Tone)
  else
    if t.begins = true then
      ({ t with begins := false, level := 15, count := (bAnd .u8 (t.reg 0) 15) } : Tone)
    else
      if (decide ((t.count : Int) > 0)) = true then
        ({ t with count := (IntKind.u8.wrap (t.count - 1)) } : Tone)
      else
        if (decide ((t.level : Int) > 0)) = true then
          ({ t with level := (IntKind.u8.wrap (t.level - 1)), count := (bAnd .u8 (t.reg 0) 15) } : Tone)
        else
          if (((bAnd .u8 (t.reg 0) 32) : Int) != 0) = true then
            ({ t with level := 15, count := (bAnd .u8 (t.reg 0) 15) } : Tone)
          else
            ({ t with count := (bAnd .u8 (t.reg 0) 15) } : Tone)
theorem tQuarter_p1 (t : Tone) (c1 : ((t.kind : Int) == 2) = true) (c2 : t.begins = true) : FnSpec Tryd.prog 57 1001 [.pointer (some ⟨1000, 0, none⟩)] [(1000, Tone.blk t)] (.tuple ⟨[]⟩) [(1000, Tone.blk ({ t with begins := (((bAnd .u8 (t.reg 0) 128) : Int) != 0), line := (bAndNot .u8 (t.reg 0) 128) } : Tone))] := by
  exact fn_of_x hG hM Tryd.func57 (by kernel_rfl) (by kernel_rfl) 400 [.no, .yes, .yes, .lit 0, .yes, .yes, .yes, .yes, .lit 0, .yes, .yes, .yes, .yes] (J (Eq.refl false) (J c1 (J c2 (J (Eq.refl (0 : Int)) (J (by decide : 0 < 4) (J c2 (J c2 (J c2 (J c2 (J (Eq.refl (0 : Int)) (J (by decide : 0 < 4) (J c2 (J c2 (J c2 (J c2 trivial))))))))))))))) (by kernel_rfl)
theorem tQuarter_p2 (t : Tone) (c1 : ((t.kind : Int) == 2) = true) (c2 : t.begins = false) (c3 : (decide ((t.line : Int) > 0)) = true) : FnSpec Tryd.prog 57 1001 [.pointer (some ⟨1000, 0, none⟩)] [(1000, Tone.blk t)] (.tuple ⟨[]⟩) [(1000, Tone.blk ({ t with begins := false, line := (IntKind.u8.wrap (t.line - 1)) } : Tone))] := by
  exact fn_of_x hG hM Tryd.func57 (by kernel_rfl) (by kernel_rfl) 400 [.no, .yes, .no, .yes, .no, .no, .no, .no, .no, .no, .no, .no] (J (Eq.refl false) (J c1 (J c2 (J c3 (J c2 (J c2 (J c2 (J c2 (J c2 (J c2 (J c2 (J c2 trivial)))))))))))) (by kernel_rfl)
theorem tQuarter_p3 (t : Tone) (c1 : ((t.kind : Int) == 2) = true) (c2 : t.begins = false) (c3 : (decide ((t.line : Int) > 0)) = false) : FnSpec Tryd.prog 57 1001 [.pointer (some ⟨1000, 0, none⟩)] [(1000, Tone.blk t)] (.tuple ⟨[]⟩) [(1000, Tone.blk ({ t with begins := false } : Tone))] := by
  exact fn_of_x hG hM Tryd.func57 (by kernel_rfl) (by kernel_rfl) 400 [.no, .yes, .no, .no, .no, .no, .no, .no, .no, .no, .no, .no] (J (Eq.refl false) (J c1 (J c2 (J c3 (J c2 (J c2 (J c2 (J c2 (J c2 (J c2 (J c2 (J c2 trivial)))))))))))) (by kernel_rfl)
theorem tQuarter_p4 (t : Tone) (c1 : ((t.kind : Int) == 2) = false) (c2 : t.begins = true) : FnSpec Tryd.prog 57 1001 [.pointer (some ⟨1000, 0, none⟩)] [(1000, Tone.blk t)] (.tuple ⟨[]⟩) [(1000, Tone.blk ({ t with begins := false, level := 15, count := (bAnd .u8 (t.reg 0) 15) } : Tone))] := by
  exact fn_of_x hG hM Tryd.func57 (by kernel_rfl) (by kernel_rfl) 400 [.no, .no, .lit 0, .yes] (J (Eq.refl false) (J c1 (J (Eq.refl (0 : Int)) (J (by decide : 0 < 4) (J c2 trivial))))) (by kernel_rfl)
theorem tQuarter_p5 (t : Tone) (c1 : ((t.kind : Int) == 2) = false) (c2 : t.begins = false) (c3 : (decide ((t.count : Int) > 0)) = true) : FnSpec Tryd.prog 57 1001 [.pointer (some ⟨1000, 0, none⟩)] [(1000, Tone.blk t)] (.tuple ⟨[]⟩) [(1000, Tone.blk ({ t with count := (IntKind.u8.wrap (t.count - 1)) } : Tone))] := by
  exact fn_of_x hG hM Tryd.func57 (by kernel_rfl) (by kernel_rfl) 400 [.no, .no, .lit 0, .no, .yes] (J (Eq.refl false) (J c1 (J (Eq.refl (0 : Int)) (J (by decide : 0 < 4) (J c2 (J c3 trivial)))))) (by kernel_rfl)
theorem tQuarter_p6 (t : Tone) (c1 : ((t.kind : Int) == 2) = false) (c2 : t.begins = false) (c3 : (decide ((t.count : Int) > 0)) = false) (c4 : (decide ((t.level : Int) > 0)) = true) : FnSpec Tryd.prog 57 1001 [.pointer (some ⟨1000, 0, none⟩)] [(1000, Tone.blk t)] (.tuple ⟨[]⟩) [(1000, Tone.blk ({ t with level := (IntKind.u8.wrap (t.level - 1)), count := (bAnd .u8 (t.reg 0) 15) } : Tone))] := by
  exact fn_of_x hG hM Tryd.func57 (by kernel_rfl) (by kernel_rfl) 400 [.no, .no, .lit 0, .no, .no, .yes] (J (Eq.refl false) (J c1 (J (Eq.refl (0 : Int)) (J (by decide : 0 < 4) (J c2 (J c3 (J c4 trivial))))))) (by kernel_rfl)
theorem tQuarter_p7 (t : Tone) (c1 : ((t.kind : Int) == 2) = false) (c2 : t.begins = false) (c3 : (decide ((t.count : Int) > 0)) = false) (c4 : (decide ((t.level : Int) > 0)) = false) (c5 : (((bAnd .u8 (t.reg 0) 32) : Int) != 0) = true) : FnSpec Tryd.prog 57 1001 [.pointer (some ⟨1000, 0, none⟩)] [(1000, Tone.blk t)] (.tuple ⟨[]⟩) [(1000, Tone.blk ({ t with level := 15, count := (bAnd .u8 (t.reg 0) 15) } : Tone))] := by
  exact fn_of_x hG hM Tryd.func57 (by kernel_rfl) (by kernel_rfl) 400 [.no, .no, .lit 0, .no, .no, .no, .lit 0, .yes] (J (Eq.refl false) (J c1 (J (Eq.refl (0 : Int)) (J (by decide : 0 < 4) (J c2 (J c3 (J c4 (J (Eq.refl (0 : Int)) (J (by decide : 0 < 4) (J c5 trivial)))))))))) (by kernel_rfl)
theorem tQuarter_p8 (t : Tone) (c1 : ((t.kind : Int) == 2) = false) (c2 : t.begins = false) (c3 : (decide ((t.count : Int) > 0)) = false) (c4 : (decide ((t.level : Int) > 0)) = false) (c5 : (((bAnd .u8 (t.reg 0) 32) : Int) != 0) = false) : FnSpec Tryd.prog 57 1001 [.pointer (some ⟨1000, 0, none⟩)] [(1000, Tone.blk t)] (.tuple ⟨[]⟩) [(1000, Tone.blk ({ t with count := (bAnd .u8 (t.reg 0) 15) } : Tone))] := by
  exact fn_of_x hG hM Tryd.func57 (by kernel_rfl) (by kernel_rfl) 400 [.no, .no, .lit 0, .no, .no, .no, .lit 0, .no] (J (Eq.refl false) (J c1 (J (Eq.refl (0 : Int)) (J (by decide : 0 < 4) (J c2 (J c3 (J c4 (J (Eq.refl (0 : Int)) (J (by decide : 0 < 4) (J c5 trivial)))))))))) (by kernel_rfl)
theorem tQuarter_ok (t : Tone) : FnSpec Tryd.prog 57 1001 [.pointer (some ⟨1000, 0, none⟩)] [(1000, Tone.blk t)] (.tuple ⟨[]⟩) [(1000, Tone.blk (tQuarter t))] := by
  rcases bt ((t.kind : Int) == 2) with c1 | c1
  ·
    rcases bt t.begins with c2 | c2
    ·
      rw [tQuarter, if_pos c1, if_pos c2]
      exact tQuarter_p1 t c1 c2
    ·
      rcases bt (decide ((t.line : Int) > 0)) with c3 | c3
      ·
        rw [tQuarter, if_pos c1, if_neg (nt c2), if_pos c3]
        exact tQuarter_p2 t c1 c2 c3
      ·
        rw [tQuarter, if_pos c1, if_neg (nt c2), if_neg (nt c3)]
        exact tQuarter_p3 t c1 c2 c3
  ·
    rcases bt t.begins with c2 | c2
    ·
      rw [tQuarter, if_neg (nt c1), if_pos c2]
      exact tQuarter_p4 t c1 c2
    ·
      rcases bt (decide ((t.count : Int) > 0)) with c3 | c3
      ·
        rw [tQuarter, if_neg (nt c1), if_neg (nt c2), if_pos c3]
        exact tQuarter_p5 t c1 c2 c3
      ·
        rcases bt (decide ((t.level : Int) > 0)) with c4 | c4
        ·
          rw [tQuarter, if_neg (nt c1), if_neg (nt c2), if_neg (nt c3), if_pos c4]
          exact tQuarter_p6 t c1 c2 c3 c4
        ·
          rcases bt (((bAnd .u8 (t.reg 0) 32) : Int) != 0) with c5 | c5
          ·
            rw [tQuarter, if_neg (nt c1), if_neg (nt c2), if_neg (nt c3), if_neg (nt c4), if_pos c5]
            exact tQuarter_p7 t c1 c2 c3 c4 c5
          ·
            rw [tQuarter, if_neg (nt c1), if_neg (nt c2), if_neg (nt c3), if_neg (nt c4), if_neg (nt c5)]
            exact tQuarter_p8 t c1 c2 c3 c4 c5

theorem tQuarter_w (t : Tone) (w_t : Tone.ok t) : Tone.ok (tQuarter t) := by
  rcases bt ((t.kind : Int) == 2) with c1 | c1
  ·
    rcases bt t.begins with c2 | c2
    ·
      rw [tQuarter, if_pos c1, if_pos c2]
      exact (⟨w_t.kind, w_t.reg, w_t.length, w_t.period, w_t.timer, w_t.step, w_t.level, w_t.count, w_t.sweep, (rng_bAndNot_u8 (t.reg 0) 128), w_t.row⟩ : Tone.ok ({ t with begins := (((bAnd .u8 (t.reg 0) 128) : Int) != 0), line := (bAndNot .u8 (t.reg 0) 128) } : Tone))
    ·
      rcases bt (decide ((t.line : Int) > 0)) with c3 | c3
      ·
        rw [tQuarter, if_pos c1, if_neg (nt c2), if_pos c3]
        exact (⟨w_t.kind, w_t.reg, w_t.length, w_t.period, w_t.timer, w_t.step, w_t.level, w_t.count, w_t.sweep, (rng_wrap_u8 (t.line - 1)), w_t.row⟩ : Tone.ok ({ t with begins := false, line := (IntKind.u8.wrap (t.line - 1)) } : Tone))
      ·
        rw [tQuarter, if_pos c1, if_neg (nt c2), if_neg (nt c3)]
        exact (⟨w_t.kind, w_t.reg, w_t.length, w_t.period, w_t.timer, w_t.step, w_t.level, w_t.count, w_t.sweep, w_t.line, w_t.row⟩ : Tone.ok ({ t with begins := false } : Tone))
  ·
    rcases bt t.begins with c2 | c2
    ·
      rw [tQuarter, if_neg (nt c1), if_pos c2]
      exact (⟨w_t.kind, w_t.reg, w_t.length, w_t.period, w_t.timer, w_t.step, (by decide : rng 256 15), (rng_bAnd_u8 (t.reg 0) 15), w_t.sweep, w_t.line, w_t.row⟩ : Tone.ok ({ t with begins := false, level := 15, count := (bAnd .u8 (t.reg 0) 15) } : Tone))
    ·
      rcases bt (decide ((t.count : Int) > 0)) with c3 | c3
      ·
        rw [tQuarter, if_neg (nt c1), if_neg (nt c2), if_pos c3]
        exact (⟨w_t.kind, w_t.reg, w_t.length, w_t.period, w_t.timer, w_t.step, w_t.level, (rng_wrap_u8 (t.count - 1)), w_t.sweep, w_t.line, w_t.row⟩ : Tone.ok ({ t with count := (IntKind.u8.wrap (t.count - 1)) } : Tone))
      ·
        rcases bt (decide ((t.level : Int) > 0)) with c4 | c4
        ·
          rw [tQuarter, if_neg (nt c1), if_neg (nt c2), if_neg (nt c3), if_pos c4]
          exact (⟨w_t.kind, w_t.reg, w_t.length, w_t.period, w_t.timer, w_t.step, (rng_wrap_u8 (t.level - 1)), (rng_bAnd_u8 (t.reg 0) 15), w_t.sweep, w_t.line, w_t.row⟩ : Tone.ok ({ t with level := (IntKind.u8.wrap (t.level - 1)), count := (bAnd .u8 (t.reg 0) 15) } : Tone))
        ·
          rcases bt (((bAnd .u8 (t.reg 0) 32) : Int) != 0) with c5 | c5
          ·
            rw [tQuarter, if_neg (nt c1), if_neg (nt c2), if_neg (nt c3), if_neg (nt c4), if_pos c5]
            exact (⟨w_t.kind, w_t.reg, w_t.length, w_t.period, w_t.timer, w_t.step, (by decide : rng 256 15), (rng_bAnd_u8 (t.reg 0) 15), w_t.sweep, w_t.line, w_t.row⟩ : Tone.ok ({ t with level := 15, count := (bAnd .u8 (t.reg 0) 15) } : Tone))
          ·
            rw [tQuarter, if_neg (nt c1), if_neg (nt c2), if_neg (nt c3), if_neg (nt c4), if_neg (nt c5)]
            exact (⟨w_t.kind, w_t.reg, w_t.length, w_t.period, w_t.timer, w_t.step, w_t.level, (rng_bAnd_u8 (t.reg 0) 15), w_t.sweep, w_t.line, w_t.row⟩ : Tone.ok ({ t with count := (bAnd .u8 (t.reg 0) 15) } : Tone))

/-- (*kotatsu/tone.Tone).Half -/
def tHalf (t : Tone) : Tone :=
  if ((t.kind : Int) == 2) = true then
    if (decide ((t.length : Int) > 0)) = true then
      if (((bAnd .u8 (t.reg 0) 128) : Int) == 0) = true then
        if (decide ((t.kind : Int) > 1)) = true then
          ({ t with length := (IntKind.u8.wrap (t.length - 1)) } : Tone)
        else
          if ((t.sweep : Int) == 0) = true then
            if (((bAnd .u8 (t.reg 1) 128) : Int) != 0) = true then
              if (((bAnd .u8 (t.reg 1) 7) : Int) != 0) = true then
                if (!(tMute ({ t with length := (IntKind.u8.wrap (t.length - 1)) } : Tone))) = true then
                  ({ t with length := (IntKind.u8.wrap (t.length - 1)), period := (tTarget ({ t with length := (IntKind.u8.wrap (t.length - 1)) } : Tone)), sweep := (bAnd .u8 (bShr .u8 (t.reg 1) 4) 7), swept := false } : Tone)
                else
                  ({ t with length := (IntKind.u8.wrap (t.length - 1)), sweep := (bAnd .u8 (bShr .u8 (t.reg 1) 4) 7), swept := false } : Tone)
              else
                ({ t with length := (IntKind.u8.wrap (t.length - 1)), sweep := (bAnd .u8 (bShr .u8 (t.reg 1) 4) 7), swept := false } : Tone)
            else
              ({ t with length := (IntKind.u8.wrap (t.length - 1)), sweep := (bAnd .u8 (bShr .u8 (t.reg 1) 4) 7), swept := false } : Tone)
          else
            if t.swept = true then
              ({ t with length := (IntKind.u8.wrap (t.length - 1)), sweep := (bAnd .u8 (bShr .u8 (t.reg 1) 4) 7), swept := false } : Tone)
            else
              ({ t with length := (IntKind.u8.wrap (t.length - 1)), sweep := (IntKind.u8.wrap (t.sweep - 1)) } : Tone)
      else
        if (decide ((t.kind : Int) > 1)) = true then
          t
        else
          if ((t.sweep : Int) == 0) = true then
            if (((bAnd .u8 (t.reg 1) 128) : Int) != 0) = true then
              if (((bAnd .u8 (t.reg 1) 7) : Int) != 0) = true then
                if (!(tMute t)) = true then
                  ({ t with period := (tTarget t), sweep := (bAnd .u8 (bShr .u8 (t.reg 1) 4) 7), swept := false } : Tone)
                else
                  ({ t with sweep := (bAnd .u8 (bShr .u8 (t.reg 1) 4) 7), swept := false } : Tone)
              else
                ({ t with sweep := (bAnd .u8 (bShr .u8 (t.reg 1) 4) 7), swept := false } : Tone)
            else
              ({ t with sweep := (bAnd .u8 (bShr .u8 (t.reg 1) 4) 7), swept := false } : Tone)
          else
            if t.swept = true then
              ({ t with sweep := (bAnd .u8 (bShr .u8 (t.reg 1) 4) 7), swept := false } : Tone)
            else
              ({ t with sweep := (IntKind.u8.wrap (t.sweep - 1)) } : Tone)
    else
      if (decide ((t.kind : Int) > 1)) = true then
        t
      else
        if ((t.sweep : Int) == 0) = true then
          if (((bAnd .u8 (t.reg 1) 128) : Int) != 0) = true then
            if (((bAnd .u8 (t.reg 1) 7) : Int) != 0) = true then
              if (!(tMute t)) = true then
                ({ t with period := (tTarget t), sweep := (bAnd .u8 (bShr .u8 (t.reg 1) 4) 7), swept := false } : Tone)
              else
                ({ t with sweep := (bAnd .u8 (bShr .u8 (t.reg 1) 4) 7), swept := false } : Tone)
            else
              ({ t with sweep := (bAnd .u8 (bShr .u8 (t.reg 1) 4) 7), swept := false } : Tone)
          else
            ({ t with sweep := (bAnd .u8 (bShr .u8 (t.reg 1) 4) 7), swept := false } : Tone)
        else
          if t.swept = true then
            ({ t with sweep := (bAnd .u8 (bShr .u8 (t.reg 1) 4) 7), swept := false } : Tone)
          else
            ({ t with sweep := (IntKind.u8.wrap (t.sweep - 1)) } : Tone)
  else
    if (decide ((t.length : Int) > 0)) = true then
      if (((bAnd .u8 (t.reg 0) 32) : Int) == 0) = true then
        if (decide ((t.kind : Int) > 1)) = true then
          ({ t with length := (IntKind.u8.wrap (t.length - 1)) } : Tone)
        else
          if ((t.sweep : Int) == 0) = true then
            if (((bAnd .u8 (t.reg 1) 128) : Int) != 0) = true then
              if (((bAnd .u8 (t.reg 1) 7) : Int) != 0) = true then
                if (!(tMute ({ t with length := (IntKind.u8.wrap (t.length - 1)) } : Tone))) = true then
                  ({ t with length := (IntKind.u8.wrap (t.length - 1)), period := (tTarget ({ t with length := (IntKind.u8.wrap (t.length - 1)) } : Tone)), sweep := (bAnd .u8 (bShr .u8 (t.reg 1) 4) 7), swept := false } : Tone)
                else
                  ({ t with length := (IntKind.u8.wrap (t.length - 1)), sweep := (bAnd .u8 (bShr .u8 (t.reg 1) 4) 7), swept := false } : Tone)
              else
                ({ t with length := (IntKind.u8.wrap (t.length - 1)), sweep := (bAnd .u8 (bShr .u8 (t.reg 1) 4) 7), swept := false } : Tone)
            else
              ({ t with length := (IntKind.u8.wrap (t.length - 1)), sweep := (bAnd .u8 (bShr .u8 (t.reg 1) 4) 7), swept := false } : Tone)
          else
            if t.swept = true then
              ({ t with length := (IntKind.u8.wrap (t.length - 1)), sweep := (bAnd .u8 (bShr .u8 (t.reg 1) 4) 7), swept := false } : Tone)
            else
              ({ t with length := (IntKind.u8.wrap (t.length - 1)), sweep := (IntKind.u8.wrap (t.sweep - 1)) } : Tone)
      else
        if (decide ((t.kind : Int) > 1)) = true then
          t
        else
          if ((t.sweep : Int) == 0) = true then
            if (((bAnd .u8 (t.reg 1) 128) : Int) != 0) = true then
              if (((bAnd .u8 (t.reg 1) 7) : Int) != 0) = true then
                if (!(tMute t)) = true then
                  ({ t with period := (tTarget t), sweep := (bAnd .u8 (bShr .u8 (t.reg 1) 4) 7), swept := false } : Tone)
                else
                  ({ t with sweep := (bAnd .u8 (bShr .u8 (t.reg 1) 4) 7), swept := false } : Tone)
              else
                ({ t with sweep := (bAnd .u8 (bShr .u8 (t.reg 1) 4) 7), swept := false } : Tone)
            else
              ({ t with sweep := (bAnd .u8 (bShr .u8 (t.reg 1) 4) 7), swept := false } : Tone)
          else
            if t.swept = true then
              ({ t with sweep := (bAnd .u8 (bShr .u8 (t.reg 1) 4) 7), swept := false } : Tone)
            else
              ({ t with sweep := (IntKind.u8.wrap (t.sweep - 1)) } : Tone)
    else
      if (decide ((t.kind : Int) > 1)) = true then
        t
      else
        if ((t.sweep : Int) == 0) = true then
          if (((bAnd .u8 (t.reg 1) 128) : Int) != 0) = true then
            if (((bAnd .u8 (t.reg 1) 7) : Int) != 0) = true then
              if (!(tMute t)) = true then
                ({ t with period := (tTarget t), sweep := (bAnd .u8 (bShr .u8 (t.reg 1) 4) 7), swept := false } : Tone)
              else
                ({ t with sweep := (bAnd .u8 (bShr .u8 (t.reg 1) 4) 7), swept := false } : Tone)
            else
              ({ t with sweep := (bAnd .u8 (bShr .u8 (t.reg 1) 4) 7), swept := false } : Tone)
          else
            ({ t with sweep := (bAnd .u8 (bShr .u8 (t.reg 1) 4) 7), swept := false } : Tone)
        else
          if t.swept = true then
            ({ t with sweep := (bAnd .u8 (bShr .u8 (t.reg 1) 4) 7), swept := false } : Tone)
          else
            ({ t with sweep := (IntKind.u8.wrap (t.sweep - 1)) } : Tone)
theorem tHalf_p1 (t : Tone) (c1 : ((t.kind : Int) == 2) = true) (c2 : (decide ((t.length : Int) > 0)) = true) (c3 : (((bAnd .u8 (t.reg 0) 128) : Int) == 0) = true) (c4 : (decide ((t.kind : Int) > 1)) = true) : FnSpec Tryd.prog 58 1001 [.pointer (some ⟨1000, 0, none⟩)] [(1000, Tone.blk t)] (.tuple ⟨[]⟩) [(1000, Tone.blk ({ t with length := (IntKind.u8.wrap (t.length - 1)) } : Tone))] := by
  exact fn_of_x hG hM Tryd.func58 (by kernel_rfl) (by kernel_rfl) 400 [.no, .yes, .yes, .yes, .yes, .yes, .lit 0, .yes, .yes, .yes, .yes, .yes, .yes, .yes] (J (Eq.refl false) (J c1 (J c2 (J c2 (J c2 (J c2 (J (Eq.refl (0 : Int)) (J (by decide : 0 < 4) (J c2 (J c2 (J c2 (J c2 (J c2 (J c3 (J c4 trivial))))))))))))))) (by kernel_rfl)
theorem tHalf_p2 (t : Tone) (c1 : ((t.kind : Int) == 2) = true) (c2 : (decide ((t.length : Int) > 0)) = true) (c3 : (((bAnd .u8 (t.reg 0) 128) : Int) == 0) = true) (c4 : (decide ((t.kind : Int) > 1)) = false) (c5 : ((t.sweep : Int) == 0) = true) (c6 : (((bAnd .u8 (t.reg 1) 128) : Int) != 0) = true) (c7 : (((bAnd .u8 (t.reg 1) 7) : Int) != 0) = true) (c8 : (!(tMute ({ t with length := (IntKind.u8.wrap (t.length - 1)) } : Tone))) = true) : FnSpec Tryd.prog 58 1001 [.pointer (some ⟨1000, 0, none⟩)] [(1000, Tone.blk t)] (.tuple ⟨[]⟩) [(1000, Tone.blk ({ t with length := (IntKind.u8.wrap (t.length - 1)), period := (tTarget ({ t with length := (IntKind.u8.wrap (t.length - 1)) } : Tone)), sweep := (bAnd .u8 (bShr .u8 (t.reg 1) 4) 7), swept := false } : Tone))] := by
  exact fn_of_x hG hM Tryd.func58 (by kernel_rfl) (by kernel_rfl) 400 [.no, .yes, .yes, .yes, .yes, .yes, .lit 0, .yes, .yes, .yes, .yes, .yes, .yes, .no, .lit 1, .yes, .yes, .yes, .yes, .yes, .yes, .yes, .yes, .yes, .yes, .callr [(1000, 1000)] [1000] [] 1001 (.bool (tMute ({ t with length := (IntKind.u8.wrap (t.length - 1)) } : Tone))) [], .yes, .yes, .yes, .callr [(1000, 1000)] [1000] [] 1001 (.int .u16 (tTarget ({ t with length := (IntKind.u8.wrap (t.length - 1)) } : Tone))) [], .yes, .yes, .yes, .yes, .yes, .yes] (J (Eq.refl false) (J c1 (J c2 (J c2 (J c2 (J c2 (J (Eq.refl (0 : Int)) (J (by decide : 0 < 4) (J c2 (J c2 (J c2 (J c2 (J c2 (J c3 (J c4 (J (Eq.refl (1 : Int)) (J (by decide : 1 < 4) (J c5 (J c5 (J c5 (J c5 (J c6 (J c6 (J c6 (J c6 (J c7 (J c7 (J (tMute_ok ({ t with length := (IntKind.u8.wrap (t.length - 1)) } : Tone)) (J c7 (J c7 (J c8 (J (tTarget_ok ({ t with length := (IntKind.u8.wrap (t.length - 1)) } : Tone)) (J c5 (J c5 (J c5 (J c5 (J c5 (J (Eq.refl true) (J (by decide : (0 : Int) ≤ 4) trivial))))))))))))))))))))))))))))))))))))))) (by kernel_rfl)
theorem tHalf_p3 (t : Tone) (c1 : ((t.kind : Int) == 2) = true) (c2 : (decide ((t.length : Int) > 0)) = true) (c3 : (((bAnd .u8 (t.reg 0) 128) : Int) == 0) = true) (c4 : (decide ((t.kind : Int) > 1)) = false) (c5 : ((t.sweep : Int) == 0) = true) (c6 : (((bAnd .u8 (t.reg 1) 128) : Int) != 0) = true) (c7 : (((bAnd .u8 (t.reg 1) 7) : Int) != 0) = true) (c8 : (!(tMute ({ t with length := (IntKind.u8.wrap (t.length - 1)) } : Tone))) = false) : FnSpec Tryd.prog 58 1001 [.pointer (some ⟨1000, 0, none⟩)] [(1000, Tone.blk t)] (.tuple ⟨[]⟩) [(1000, Tone.blk ({ t with length := (IntKind.u8.wrap (t.length - 1)), sweep := (bAnd .u8 (bShr .u8 (t.reg 1) 4) 7), swept := false } : Tone))] := by
  exact fn_of_x hG hM Tryd.func58 (by kernel_rfl) (by kernel_rfl) 400 [.no, .yes, .yes, .yes, .yes, .yes, .lit 0, .yes, .yes, .yes, .yes, .yes, .yes, .no, .lit 1, .yes, .yes, .yes, .yes, .yes, .yes, .yes, .yes, .yes, .yes, .callr [(1000, 1000)] [1000] [] 1001 (.bool (tMute ({ t with length := (IntKind.u8.wrap (t.length - 1)) } : Tone))) [], .yes, .yes, .no, .yes, .yes, .yes, .yes, .yes, .yes] (J (Eq.refl false) (J c1 (J c2 (J c2 (J c2 (J c2 (J (Eq.refl (0 : Int)) (J (by decide : 0 < 4) (J c2 (J c2 (J c2 (J c2 (J c2 (J c3 (J c4 (J (Eq.refl (1 : Int)) (J (by decide : 1 < 4) (J c5 (J c5 (J c5 (J c5 (J c6 (J c6 (J c6 (J c6 (J c7 (J c7 (J (tMute_ok ({ t with length := (IntKind.u8.wrap (t.length - 1)) } : Tone)) (J c7 (J c7 (J c8 (J c5 (J c5 (J c5 (J c5 (J c5 (J (Eq.refl true) (J (by decide : (0 : Int) ≤ 4) trivial)))))))))))))))))))))))))))))))))))))) (by kernel_rfl)
theorem tHalf_p4 (t : Tone) (c1 : ((t.kind : Int) == 2) = true) (c2 : (decide ((t.length : Int) > 0)) = true) (c3 : (((bAnd .u8 (t.reg 0) 128) : Int) == 0) = true) (c4 : (decide ((t.kind : Int) > 1)) = false) (c5 : ((t.sweep : Int) == 0) = true) (c6 : (((bAnd .u8 (t.reg 1) 128) : Int) != 0) = true) (c7 : (((bAnd .u8 (t.reg 1) 7) : Int) != 0) = false) : FnSpec Tryd.prog 58 1001 [.pointer (some ⟨1000, 0, none⟩)] [(1000, Tone.blk t)] (.tuple ⟨[]⟩) [(1000, Tone.blk ({ t with length := (IntKind.u8.wrap (t.length - 1)), sweep := (bAnd .u8 (bShr .u8 (t.reg 1) 4) 7), swept := false } : Tone))] := by
  exact fn_of_x hG hM Tryd.func58 (by kernel_rfl) (by kernel_rfl) 400 [.no, .yes, .yes, .yes, .yes, .yes, .lit 0, .yes, .yes, .yes, .yes, .yes, .yes, .no, .lit 1, .yes, .yes, .yes, .yes, .yes, .yes, .yes, .yes, .no, .no, .no, .no, .no, .yes, .yes, .yes, .yes, .yes, .yes] (J (Eq.refl false) (J c1 (J c2 (J c2 (J c2 (J c2 (J (Eq.refl (0 : Int)) (J (by decide : 0 < 4) (J c2 (J c2 (J c2 (J c2 (J c2 (J c3 (J c4 (J (Eq.refl (1 : Int)) (J (by decide : 1 < 4) (J c5 (J c5 (J c5 (J c5 (J c6 (J c6 (J c6 (J c6 (J c7 (J c7 (J c7 (J c7 (J (Eq.refl false) (J c5 (J c5 (J c5 (J c5 (J c5 (J (Eq.refl true) (J (by decide : (0 : Int) ≤ 4) trivial))))))))))))))))))))))))))))))))))))) (by kernel_rfl)
theorem tHalf_p5 (t : Tone) (c1 : ((t.kind : Int) == 2) = true) (c2 : (decide ((t.length : Int) > 0)) = true) (c3 : (((bAnd .u8 (t.reg 0) 128) : Int) == 0) = true) (c4 : (decide ((t.kind : Int) > 1)) = false) (c5 : ((t.sweep : Int) == 0) = true) (c6 : (((bAnd .u8 (t.reg 1) 128) : Int) != 0) = false) : FnSpec Tryd.prog 58 1001 [.pointer (some ⟨1000, 0, none⟩)] [(1000, Tone.blk t)] (.tuple ⟨[]⟩) [(1000, Tone.blk ({ t with length := (IntKind.u8.wrap (t.length - 1)), sweep := (bAnd .u8 (bShr .u8 (t.reg 1) 4) 7), swept := false } : Tone))] := by
  exact fn_of_x hG hM Tryd.func58 (by kernel_rfl) (by kernel_rfl) 400 [.no, .yes, .yes, .yes, .yes, .yes, .lit 0, .yes, .yes, .yes, .yes, .yes, .yes, .no, .lit 1, .yes, .yes, .yes, .yes, .no, .no, .no, .no, .no, .no, .no, .no, .no, .yes, .yes, .yes, .yes, .yes, .yes] (J (Eq.refl false) (J c1 (J c2 (J c2 (J c2 (J c2 (J (Eq.refl (0 : Int)) (J (by decide : 0 < 4) (J c2 (J c2 (J c2 (J c2 (J c2 (J c3 (J c4 (J (Eq.refl (1 : Int)) (J (by decide : 1 < 4) (J c5 (J c5 (J c5 (J c5 (J c6 (J c6 (J c6 (J c6 (J (Eq.refl false) (J (Eq.refl false) (J (Eq.refl false) (J (Eq.refl false) (J (Eq.refl false) (J c5 (J c5 (J c5 (J c5 (J c5 (J (Eq.refl true) (J (by decide : (0 : Int) ≤ 4) trivial))))))))))))))))))))))))))))))))))))) (by kernel_rfl)
theorem tHalf_p6 (t : Tone) (c1 : ((t.kind : Int) == 2) = true) (c2 : (decide ((t.length : Int) > 0)) = true) (c3 : (((bAnd .u8 (t.reg 0) 128) : Int) == 0) = true) (c4 : (decide ((t.kind : Int) > 1)) = false) (c5 : ((t.sweep : Int) == 0) = false) (c6 : t.swept = true) : FnSpec Tryd.prog 58 1001 [.pointer (some ⟨1000, 0, none⟩)] [(1000, Tone.blk t)] (.tuple ⟨[]⟩) [(1000, Tone.blk ({ t with length := (IntKind.u8.wrap (t.length - 1)), sweep := (bAnd .u8 (bShr .u8 (t.reg 1) 4) 7), swept := false } : Tone))] := by
  exact fn_of_x hG hM Tryd.func58 (by kernel_rfl) (by kernel_rfl) 400 [.no, .yes, .yes, .yes, .yes, .yes, .lit 0, .yes, .yes, .yes, .yes, .yes, .yes, .no, .lit 1, .no, .no, .no, .no, .no, .no, .no, .no, .no, .no, .no, .no, .no, .no, .no, .no, .no, .no, .yes] (J (Eq.refl false) (J c1 (J c2 (J c2 (J c2 (J c2 (J (Eq.refl (0 : Int)) (J (by decide : 0 < 4) (J c2 (J c2 (J c2 (J c2 (J c2 (J c3 (J c4 (J (Eq.refl (1 : Int)) (J (by decide : 1 < 4) (J c5 (J c5 (J c5 (J c5 (J (Eq.refl false) (J (Eq.refl false) (J (Eq.refl false) (J (Eq.refl false) (J (Eq.refl false) (J (Eq.refl false) (J (Eq.refl false) (J (Eq.refl false) (J (Eq.refl false) (J c5 (J c5 (J c5 (J c5 (J c5 (J c6 (J (by decide : (0 : Int) ≤ 4) trivial))))))))))))))))))))))))))))))))))))) (by kernel_rfl)
theorem tHalf_p7 (t : Tone) (c1 : ((t.kind : Int) == 2) = true) (c2 : (decide ((t.length : Int) > 0)) = true) (c3 : (((bAnd .u8 (t.reg 0) 128) : Int) == 0) = true) (c4 : (decide ((t.kind : Int) > 1)) = false) (c5 : ((t.sweep : Int) == 0) = false) (c6 : t.swept = false) : FnSpec Tryd.prog 58 1001 [.pointer (some ⟨1000, 0, none⟩)] [(1000, Tone.blk t)] (.tuple ⟨[]⟩) [(1000, Tone.blk ({ t with length := (IntKind.u8.wrap (t.length - 1)), sweep := (IntKind.u8.wrap (t.sweep - 1)) } : Tone))] := by
  exact fn_of_x hG hM Tryd.func58 (by kernel_rfl) (by kernel_rfl) 400 [.no, .yes, .yes, .yes, .yes, .yes, .lit 0, .yes, .yes, .yes, .yes, .yes, .yes, .no, .lit 1, .no, .no, .no, .no, .no, .no, .no, .no, .no, .no, .no, .no, .no, .no, .no, .no, .no, .no, .no] (J (Eq.refl false) (J c1 (J c2 (J c2 (J c2 (J c2 (J (Eq.refl (0 : Int)) (J (by decide : 0 < 4) (J c2 (J c2 (J c2 (J c2 (J c2 (J c3 (J c4 (J (Eq.refl (1 : Int)) (J (by decide : 1 < 4) (J c5 (J c5 (J c5 (J c5 (J (Eq.refl false) (J (Eq.refl false) (J (Eq.refl false) (J (Eq.refl false) (J (Eq.refl false) (J (Eq.refl false) (J (Eq.refl false) (J (Eq.refl false) (J (Eq.refl false) (J c5 (J c5 (J c5 (J c5 (J c5 (J c6 trivial)))))))))))))))))))))))))))))))))))) (by kernel_rfl)
theorem tHalf_p8 (t : Tone) (c1 : ((t.kind : Int) == 2) = true) (c2 : (decide ((t.length : Int) > 0)) = true) (c3 : (((bAnd .u8 (t.reg 0) 128) : Int) == 0) = false) (c4 : (decide ((t.kind : Int) > 1)) = true) : FnSpec Tryd.prog 58 1001 [.pointer (some ⟨1000, 0, none⟩)] [(1000, Tone.blk t)] (.tuple ⟨[]⟩) [(1000, Tone.blk t)] := by
  exact fn_of_x hG hM Tryd.func58 (by kernel_rfl) (by kernel_rfl) 400 [.no, .yes, .yes, .yes, .yes, .yes, .lit 0, .yes, .yes, .yes, .yes, .yes, .no, .yes] (J (Eq.refl false) (J c1 (J c2 (J c2 (J c2 (J c2 (J (Eq.refl (0 : Int)) (J (by decide : 0 < 4) (J c2 (J c2 (J c2 (J c2 (J c2 (J c3 (J c4 trivial))))))))))))))) (by kernel_rfl)
theorem tHalf_p9 (t : Tone) (c1 : ((t.kind : Int) == 2) = true) (c2 : (decide ((t.length : Int) > 0)) = true) (c3 : (((bAnd .u8 (t.reg 0) 128) : Int) == 0) = false) (c4 : (decide ((t.kind : Int) > 1)) = false) (c5 : ((t.sweep : Int) == 0) = true) (c6 : (((bAnd .u8 (t.reg 1) 128) : Int) != 0) = true) (c7 : (((bAnd .u8 (t.reg 1) 7) : Int) != 0) = true) (c8 : (!(tMute t)) = true) : FnSpec Tryd.prog 58 1001 [.pointer (some ⟨1000, 0, none⟩)] [(1000, Tone.blk t)] (.tuple ⟨[]⟩) [(1000, Tone.blk ({ t with period := (tTarget t), sweep := (bAnd .u8 (bShr .u8 (t.reg 1) 4) 7), swept := false } : Tone))] := by
  exact fn_of_x hG hM Tryd.func58 (by kernel_rfl) (by kernel_rfl) 400 [.no, .yes, .yes, .yes, .yes, .yes, .lit 0, .yes, .yes, .yes, .yes, .yes, .no, .no, .lit 1, .yes, .yes, .yes, .yes, .yes, .yes, .yes, .yes, .yes, .yes, .callr [(1000, 1000)] [1000] [] 1001 (.bool (tMute t)) [], .yes, .yes, .yes, .callr [(1000, 1000)] [1000] [] 1001 (.int .u16 (tTarget t)) [], .yes, .yes, .yes, .yes, .yes, .yes] (J (Eq.refl false) (J c1 (J c2 (J c2 (J c2 (J c2 (J (Eq.refl (0 : Int)) (J (by decide : 0 < 4) (J c2 (J c2 (J c2 (J c2 (J c2 (J c3 (J c4 (J (Eq.refl (1 : Int)) (J (by decide : 1 < 4) (J c5 (J c5 (J c5 (J c5 (J c6 (J c6 (J c6 (J c6 (J c7 (J c7 (J (tMute_ok t) (J c7 (J c7 (J c8 (J (tTarget_ok t) (J c5 (J c5 (J c5 (J c5 (J c5 (J (Eq.refl true) (J (by decide : (0 : Int) ≤ 4) trivial))))))))))))))))))))))))))))))))))))))) (by kernel_rfl)
theorem tHalf_p10 (t : Tone) (c1 : ((t.kind : Int) == 2) = true) (c2 : (decide ((t.length : Int) > 0)) = true) (c3 : (((bAnd .u8 (t.reg 0) 128) : Int) == 0) = false) (c4 : (decide ((t.kind : Int) > 1)) = false) (c5 : ((t.sweep : Int) == 0) = true) (c6 : (((bAnd .u8 (t.reg 1) 128) : Int) != 0) = true) (c7 : (((bAnd .u8 (t.reg 1) 7) : Int) != 0) = true) (c8 : (!(tMute t)) = false) : FnSpec Tryd.prog 58 1001 [.pointer (some ⟨1000, 0, none⟩)] [(1000, Tone.blk t)] (.tuple ⟨[]⟩) [(1000, Tone.blk ({ t with sweep := (bAnd .u8 (bShr .u8 (t.reg 1) 4) 7), swept := false } : Tone))] := by
  exact fn_of_x hG hM Tryd.func58 (by kernel_rfl) (by kernel_rfl) 400 [.no, .yes, .yes, .yes, .yes, .yes, .lit 0, .yes, .yes, .yes, .yes, .yes, .no, .no, .lit 1, .yes, .yes, .yes, .yes, .yes, .yes, .yes, .yes, .yes, .yes, .callr [(1000, 1000)] [1000] [] 1001 (.bool (tMute t)) [], .yes, .yes, .no, .yes, .yes, .yes, .yes, .yes, .yes] (J (Eq.refl false) (J c1 (J c2 (J c2 (J c2 (J c2 (J (Eq.refl (0 : Int)) (J (by decide : 0 < 4) (J c2 (J c2 (J c2 (J c2 (J c2 (J c3 (J c4 (J (Eq.refl (1 : Int)) (J (by decide : 1 < 4) (J c5 (J c5 (J c5 (J c5 (J c6 (J c6 (J c6 (J c6 (J c7 (J c7 (J (tMute_ok t) (J c7 (J c7 (J c8 (J c5 (J c5 (J c5 (J c5 (J c5 (J (Eq.refl true) (J (by decide : (0 : Int) ≤ 4) trivial)))))))))))))))))))))))))))))))))))))) (by kernel_rfl)
theorem tHalf_p11 (t : Tone) (c1 : ((t.kind : Int) == 2) = true) (c2 : (decide ((t.length : Int) > 0)) = true) (c3 : (((bAnd .u8 (t.reg 0) 128) : Int) == 0) = false) (c4 : (decide ((t.kind : Int) > 1)) = false) (c5 : ((t.sweep : Int) == 0) = true) (c6 : (((bAnd .u8 (t.reg 1) 128) : Int) != 0) = true) (c7 : (((bAnd .u8 (t.reg 1) 7) : Int) != 0) = false) : FnSpec Tryd.prog 58 1001 [.pointer (some ⟨1000, 0, none⟩)] [(1000, Tone.blk t)] (.tuple ⟨[]⟩) [(1000, Tone.blk ({ t with sweep := (bAnd .u8 (bShr .u8 (t.reg 1) 4) 7), swept := false } : Tone))] := by
  exact fn_of_x hG hM Tryd.func58 (by kernel_rfl) (by kernel_rfl) 400 [.no, .yes, .yes, .yes, .yes, .yes, .lit 0, .yes, .yes, .yes, .yes, .yes, .no, .no, .lit 1, .yes, .yes, .yes, .yes, .yes, .yes, .yes, .yes, .no, .no, .no, .no, .no, .yes, .yes, .yes, .yes, .yes, .yes] (J (Eq.refl false) (J c1 (J c2 (J c2 (J c2 (J c2 (J (Eq.refl (0 : Int)) (J (by decide : 0 < 4) (J c2 (J c2 (J c2 (J c2 (J c2 (J c3 (J c4 (J (Eq.refl (1 : Int)) (J (by decide : 1 < 4) (J c5 (J c5 (J c5 (J c5 (J c6 (J c6 (J c6 (J c6 (J c7 (J c7 (J c7 (J c7 (J (Eq.refl false) (J c5 (J c5 (J c5 (J c5 (J c5 (J (Eq.refl true) (J (by decide : (0 : Int) ≤ 4) trivial))))))))))))))))))))))))))))))))))))) (by kernel_rfl)
theorem tHalf_p12 (t : Tone) (c1 : ((t.kind : Int) == 2) = true) (c2 : (decide ((t.length : Int) > 0)) = true) (c3 : (((bAnd .u8 (t.reg 0) 128) : Int) == 0) = false) (c4 : (decide ((t.kind : Int) > 1)) = false) (c5 : ((t.sweep : Int) == 0) = true) (c6 : (((bAnd .u8 (t.reg 1) 128) : Int) != 0) = false) : FnSpec Tryd.prog 58 1001 [.pointer (some ⟨1000, 0, none⟩)] [(1000, Tone.blk t)] (.tuple ⟨[]⟩) [(1000, Tone.blk ({ t with sweep := (bAnd .u8 (bShr .u8 (t.reg 1) 4) 7), swept := false } : Tone))] := by
  exact fn_of_x hG hM Tryd.func58 (by kernel_rfl) (by kernel_rfl) 400 [.no, .yes, .yes, .yes, .yes, .yes, .lit 0, .yes, .yes, .yes, .yes, .yes, .no, .no, .lit 1, .yes, .yes, .yes, .yes, .no, .no, .no, .no, .no, .no, .no, .no, .no, .yes, .yes, .yes, .yes, .yes, .yes] (J (Eq.refl false) (J c1 (J c2 (J c2 (J c2 (J c2 (J (Eq.refl (0 : Int)) (J (by decide : 0 < 4) (J c2 (J c2 (J c2 (J c2 (J c2 (J c3 (J c4 (J (Eq.refl (1 : Int)) (J (by decide : 1 < 4) (J c5 (J c5 (J c5 (J c5 (J c6 (J c6 (J c6 (J c6 (J (Eq.refl false) (J (Eq.refl false) (J (Eq.refl false) (J (Eq.refl false) (J (Eq.refl false) (J c5 (J c5 (J c5 (J c5 (J c5 (J (Eq.refl true) (J (by decide : (0 : Int) ≤ 4) trivial))))))))))))))))))))))))))))))))))))) (by kernel_rfl)
theorem tHalf_p13 (t : Tone) (c1 : ((t.kind : Int) == 2) = true) (c2 : (decide ((t.length : Int) > 0)) = true) (c3 : (((bAnd .u8 (t.reg 0) 128) : Int) == 0) = false) (c4 : (decide ((t.kind : Int) > 1)) = false) (c5 : ((t.sweep : Int) == 0) = false) (c6 : t.swept = true) : FnSpec Tryd.prog 58 1001 [.pointer (some ⟨1000, 0, none⟩)] [(1000, Tone.blk t)] (.tuple ⟨[]⟩) [(1000, Tone.blk ({ t with sweep := (bAnd .u8 (bShr .u8 (t.reg 1) 4) 7), swept := false } : Tone))] := by
  exact fn_of_x hG hM Tryd.func58 (by kernel_rfl) (by kernel_rfl) 400 [.no, .yes, .yes, .yes, .yes, .yes, .lit 0, .yes, .yes, .yes, .yes, .yes, .no, .no, .lit 1, .no, .no, .no, .no, .no, .no, .no, .no, .no, .no, .no, .no, .no, .no, .no, .no, .no, .no, .yes] (J (Eq.refl false) (J c1 (J c2 (J c2 (J c2 (J c2 (J (Eq.refl (0 : Int)) (J (by decide : 0 < 4) (J c2 (J c2 (J c2 (J c2 (J c2 (J c3 (J c4 (J (Eq.refl (1 : Int)) (J (by decide : 1 < 4) (J c5 (J c5 (J c5 (J c5 (J (Eq.refl false) (J (Eq.refl false) (J (Eq.refl false) (J (Eq.refl false) (J (Eq.refl false) (J (Eq.refl false) (J (Eq.refl false) (J (Eq.refl false) (J (Eq.refl false) (J c5 (J c5 (J c5 (J c5 (J c5 (J c6 (J (by decide : (0 : Int) ≤ 4) trivial))))))))))))))))))))))))))))))))))))) (by kernel_rfl)
theorem tHalf_p14 (t : Tone) (c1 : ((t.kind : Int) == 2) = true) (c2 : (decide ((t.length : Int) > 0)) = true) (c3 : (((bAnd .u8 (t.reg 0) 128) : Int) == 0) = false) (c4 : (decide ((t.kind : Int) > 1)) = false) (c5 : ((t.sweep : Int) == 0) = false) (c6 : t.swept = false) : FnSpec Tryd.prog 58 1001 [.pointer (some ⟨1000, 0, none⟩)] [(1000, Tone.blk t)] (.tuple ⟨[]⟩) [(1000, Tone.blk ({ t with sweep := (IntKind.u8.wrap (t.sweep - 1)) } : Tone))] := by
  exact fn_of_x hG hM Tryd.func58 (by kernel_rfl) (by kernel_rfl) 400 [.no, .yes, .yes, .yes, .yes, .yes, .lit 0, .yes, .yes, .yes, .yes, .yes, .no, .no, .lit 1, .no, .no, .no, .no, .no, .no, .no, .no, .no, .no, .no, .no, .no, .no, .no, .no, .no, .no, .no] (J (Eq.refl false) (J c1 (J c2 (J c2 (J c2 (J c2 (J (Eq.refl (0 : Int)) (J (by decide : 0 < 4) (J c2 (J c2 (J c2 (J c2 (J c2 (J c3 (J c4 (J (Eq.refl (1 : Int)) (J (by decide : 1 < 4) (J c5 (J c5 (J c5 (J c5 (J (Eq.refl false) (J (Eq.refl false) (J (Eq.refl false) (J (Eq.refl false) (J (Eq.refl false) (J (Eq.refl false) (J (Eq.refl false) (J (Eq.refl false) (J (Eq.refl false) (J c5 (J c5 (J c5 (J c5 (J c5 (J c6 trivial)))))))))))))))))))))))))))))))))))) (by kernel_rfl)
theorem tHalf_p15 (t : Tone) (c1 : ((t.kind : Int) == 2) = true) (c2 : (decide ((t.length : Int) > 0)) = false) (c3 : (decide ((t.kind : Int) > 1)) = true) : FnSpec Tryd.prog 58 1001 [.pointer (some ⟨1000, 0, none⟩)] [(1000, Tone.blk t)] (.tuple ⟨[]⟩) [(1000, Tone.blk t)] := by
  exact fn_of_x hG hM Tryd.func58 (by kernel_rfl) (by kernel_rfl) 400 [.no, .yes, .no, .no, .no, .no, .no, .no, .no, .no, .no, .no, .yes] (J (Eq.refl false) (J c1 (J c2 (J c2 (J c2 (J c2 (J c2 (J c2 (J c2 (J c2 (J c2 (J (Eq.refl false) (J c3 trivial))))))))))))) (by kernel_rfl)
theorem tHalf_p16 (t : Tone) (c1 : ((t.kind : Int) == 2) = true) (c2 : (decide ((t.length : Int) > 0)) = false) (c3 : (decide ((t.kind : Int) > 1)) = false) (c4 : ((t.sweep : Int) == 0) = true) (c5 : (((bAnd .u8 (t.reg 1) 128) : Int) != 0) = true) (c6 : (((bAnd .u8 (t.reg 1) 7) : Int) != 0) = true) (c7 : (!(tMute t)) = true) : FnSpec Tryd.prog 58 1001 [.pointer (some ⟨1000, 0, none⟩)] [(1000, Tone.blk t)] (.tuple ⟨[]⟩) [(1000, Tone.blk ({ t with period := (tTarget t), sweep := (bAnd .u8 (bShr .u8 (t.reg 1) 4) 7), swept := false } : Tone))] := by
  exact fn_of_x hG hM Tryd.func58 (by kernel_rfl) (by kernel_rfl) 400 [.no, .yes, .no, .no, .no, .no, .no, .no, .no, .no, .no, .no, .no, .lit 1, .yes, .yes, .yes, .yes, .yes, .yes, .yes, .yes, .yes, .yes, .callr [(1000, 1000)] [1000] [] 1001 (.bool (tMute t)) [], .yes, .yes, .yes, .callr [(1000, 1000)] [1000] [] 1001 (.int .u16 (tTarget t)) [], .yes, .yes, .yes, .yes, .yes, .yes] (J (Eq.refl false) (J c1 (J c2 (J c2 (J c2 (J c2 (J c2 (J c2 (J c2 (J c2 (J c2 (J (Eq.refl false) (J c3 (J (Eq.refl (1 : Int)) (J (by decide : 1 < 4) (J c4 (J c4 (J c4 (J c4 (J c5 (J c5 (J c5 (J c5 (J c6 (J c6 (J (tMute_ok t) (J c6 (J c6 (J c7 (J (tTarget_ok t) (J c4 (J c4 (J c4 (J c4 (J c4 (J (Eq.refl true) (J (by decide : (0 : Int) ≤ 4) trivial))))))))))))))))))))))))))))))))))))) (by kernel_rfl)
theorem tHalf_p17 (t : Tone) (c1 : ((t.kind : Int) == 2) = true) (c2 : (decide ((t.length : Int) > 0)) = false) (c3 : (decide ((t.kind : Int) > 1)) = false) (c4 : ((t.sweep : Int) == 0) = true) (c5 : (((bAnd .u8 (t.reg 1) 128) : Int) != 0) = true) (c6 : (((bAnd .u8 (t.reg 1) 7) : Int) != 0) = true) (c7 : (!(tMute t)) = false) : FnSpec Tryd.prog 58 1001 [.pointer (some ⟨1000, 0, none⟩)] [(1000, Tone.blk t)] (.tuple ⟨[]⟩) [(1000, Tone.blk ({ t with sweep := (bAnd .u8 (bShr .u8 (t.reg 1) 4) 7), swept := false } : Tone))] := by
  exact fn_of_x hG hM Tryd.func58 (by kernel_rfl) (by kernel_rfl) 400 [.no, .yes, .no, .no, .no, .no, .no, .no, .no, .no, .no, .no, .no, .lit 1, .yes, .yes, .yes, .yes, .yes, .yes, .yes, .yes, .yes, .yes, .callr [(1000, 1000)] [1000] [] 1001 (.bool (tMute t)) [], .yes, .yes, .no, .yes, .yes, .yes, .yes, .yes, .yes] (J (Eq.refl false) (J c1 (J c2 (J c2 (J c2 (J c2 (J c2 (J c2 (J c2 (J c2 (J c2 (J (Eq.refl false) (J c3 (J (Eq.refl (1 : Int)) (J (by decide : 1 < 4) (J c4 (J c4 (J c4 (J c4 (J c5 (J c5 (J c5 (J c5 (J c6 (J c6 (J (tMute_ok t) (J c6 (J c6 (J c7 (J c4 (J c4 (J c4 (J c4 (J c4 (J (Eq.refl true) (J (by decide : (0 : Int) ≤ 4) trivial)))))))))))))))))))))))))))))))))))) (by kernel_rfl)
theorem tHalf_p18 (t : Tone) (c1 : ((t.kind : Int) == 2) = true) (c2 : (decide ((t.length : Int) > 0)) = false) (c3 : (decide ((t.kind : Int) > 1)) = false) (c4 : ((t.sweep : Int) == 0) = true) (c5 : (((bAnd .u8 (t.reg 1) 128) : Int) != 0) = true) (c6 : (((bAnd .u8 (t.reg 1) 7) : Int) != 0) = false) : FnSpec Tryd.prog 58 1001 [.pointer (some ⟨1000, 0, none⟩)] [(1000, Tone.blk t)] (.tuple ⟨[]⟩) [(1000, Tone.blk ({ t with sweep := (bAnd .u8 (bShr .u8 (t.reg 1) 4) 7), swept := false } : Tone))] := by
  exact fn_of_x hG hM Tryd.func58 (by kernel_rfl) (by kernel_rfl) 400 [.no, .yes, .no, .no, .no, .no, .no, .no, .no, .no, .no, .no, .no, .lit 1, .yes, .yes, .yes, .yes, .yes, .yes, .yes, .yes, .no, .no, .no, .no, .no, .yes, .yes, .yes, .yes, .yes, .yes] (J (Eq.refl false) (J c1 (J c2 (J c2 (J c2 (J c2 (J c2 (J c2 (J c2 (J c2 (J c2 (J (Eq.refl false) (J c3 (J (Eq.refl (1 : Int)) (J (by decide : 1 < 4) (J c4 (J c4 (J c4 (J c4 (J c5 (J c5 (J c5 (J c5 (J c6 (J c6 (J c6 (J c6 (J (Eq.refl false) (J c4 (J c4 (J c4 (J c4 (J c4 (J (Eq.refl true) (J (by decide : (0 : Int) ≤ 4) trivial))))))))))))))))))))))))))))))))))) (by kernel_rfl)
theorem tHalf_p19 (t : Tone) (c1 : ((t.kind : Int) == 2) = true) (c2 : (decide ((t.length : Int) > 0)) = false) (c3 : (decide ((t.kind : Int) > 1)) = false) (c4 : ((t.sweep : Int) == 0) = true) (c5 : (((bAnd .u8 (t.reg 1) 128) : Int) != 0) = false) : FnSpec Tryd.prog 58 1001 [.pointer (some ⟨1000, 0, none⟩)] [(1000, Tone.blk t)] (.tuple ⟨[]⟩) [(1000, Tone.blk ({ t with sweep := (bAnd .u8 (bShr .u8 (t.reg 1) 4) 7), swept := false } : Tone))] := by
  exact fn_of_x hG hM Tryd.func58 (by kernel_rfl) (by kernel_rfl) 400 [.no, .yes, .no, .no, .no, .no, .no, .no, .no, .no, .no, .no, .no, .lit 1, .yes, .yes, .yes, .yes, .no, .no, .no, .no, .no, .no, .no, .no, .no, .yes, .yes, .yes, .yes, .yes, .yes] (J (Eq.refl false) (J c1 (J c2 (J c2 (J c2 (J c2 (J c2 (J c2 (J c2 (J c2 (J c2 (J (Eq.refl false) (J c3 (J (Eq.refl (1 : Int)) (J (by decide : 1 < 4) (J c4 (J c4 (J c4 (J c4 (J c5 (J c5 (J c5 (J c5 (J (Eq.refl false) (J (Eq.refl false) (J (Eq.refl false) (J (Eq.refl false) (J (Eq.refl false) (J c4 (J c4 (J c4 (J c4 (J c4 (J (Eq.refl true) (J (by decide : (0 : Int) ≤ 4) trivial))))))))))))))))))))))))))))))))))) (by kernel_rfl)
theorem tHalf_p20 (t : Tone) (c1 : ((t.kind : Int) == 2) = true) (c2 : (decide ((t.length : Int) > 0)) = false) (c3 : (decide ((t.kind : Int) > 1)) = false) (c4 : ((t.sweep : Int) == 0) = false) (c5 : t.swept = true) : FnSpec Tryd.prog 58 1001 [.pointer (some ⟨1000, 0, none⟩)] [(1000, Tone.blk t)] (.tuple ⟨[]⟩) [(1000, Tone.blk ({ t with sweep := (bAnd .u8 (bShr .u8 (t.reg 1) 4) 7), swept := false } : Tone))] := by
  exact fn_of_x hG hM Tryd.func58 (by kernel_rfl) (by kernel_rfl) 400 [.no, .yes, .no, .no, .no, .no, .no, .no, .no, .no, .no, .no, .no, .lit 1, .no, .no, .no, .no, .no, .no, .no, .no, .no, .no, .no, .no, .no, .no, .no, .no, .no, .no, .yes] (J (Eq.refl false) (J c1 (J c2 (J c2 (J c2 (J c2 (J c2 (J c2 (J c2 (J c2 (J c2 (J (Eq.refl false) (J c3 (J (Eq.refl (1 : Int)) (J (by decide : 1 < 4) (J c4 (J c4 (J c4 (J c4 (J (Eq.refl false) (J (Eq.refl false) (J (Eq.refl false) (J (Eq.refl false) (J (Eq.refl false) (J (Eq.refl false) (J (Eq.refl false) (J (Eq.refl false) (J (Eq.refl false) (J c4 (J c4 (J c4 (J c4 (J c4 (J c5 (J (by decide : (0 : Int) ≤ 4) trivial))))))))))))))))))))))))))))))))))) (by kernel_rfl)
theorem tHalf_p21 (t : Tone) (c1 : ((t.kind : Int) == 2) = true) (c2 : (decide ((t.length : Int) > 0)) = false) (c3 : (decide ((t.kind : Int) > 1)) = false) (c4 : ((t.sweep : Int) == 0) = false) (c5 : t.swept = false) : FnSpec Tryd.prog 58 1001 [.pointer (some ⟨1000, 0, none⟩)] [(1000, Tone.blk t)] (.tuple ⟨[]⟩) [(1000, Tone.blk ({ t with sweep := (IntKind.u8.wrap (t.sweep - 1)) } : Tone))] := by
  exact fn_of_x hG hM Tryd.func58 (by kernel_rfl) (by kernel_rfl) 400 [.no, .yes, .no, .no, .no, .no, .no, .no, .no, .no, .no, .no, .no, .lit 1, .no, .no, .no, .no, .no, .no, .no, .no, .no, .no, .no, .no, .no, .no, .no, .no, .no, .no, .no] (J (Eq.refl false) (J c1 (J c2 (J c2 (J c2 (J c2 (J c2 (J c2 (J c2 (J c2 (J c2 (J (Eq.refl false) (J c3 (J (Eq.refl (1 : Int)) (J (by decide : 1 < 4) (J c4 (J c4 (J c4 (J c4 (J (Eq.refl false) (J (Eq.refl false) (J (Eq.refl false) (J (Eq.refl false) (J (Eq.refl false) (J (Eq.refl false) (J (Eq.refl false) (J (Eq.refl false) (J (Eq.refl false) (J c4 (J c4 (J c4 (J c4 (J c4 (J c5 trivial)))))))))))))))))))))))))))))))))) (by kernel_rfl)
theorem tHalf_p22 (t : Tone) (c1 : ((t.kind : Int) == 2) = false) (c2 : (decide ((t.length : Int) > 0)) = true) (c3 : (((bAnd .u8 (t.reg 0) 32) : Int) == 0) = true) (c4 : (decide ((t.kind : Int) > 1)) = true) : FnSpec Tryd.prog 58 1001 [.pointer (some ⟨1000, 0, none⟩)] [(1000, Tone.blk t)] (.tuple ⟨[]⟩) [(1000, Tone.blk ({ t with length := (IntKind.u8.wrap (t.length - 1)) } : Tone))] := by
  exact fn_of_x hG hM Tryd.func58 (by kernel_rfl) (by kernel_rfl) 400 [.no, .no, .yes, .yes, .yes, .yes, .lit 0, .yes, .yes, .yes, .yes, .yes, .yes, .yes] (J (Eq.refl false) (J c1 (J c2 (J c2 (J c2 (J c2 (J (Eq.refl (0 : Int)) (J (by decide : 0 < 4) (J c2 (J c2 (J c2 (J c2 (J c2 (J c3 (J c4 trivial))))))))))))))) (by kernel_rfl)
theorem tHalf_p23 (t : Tone) (c1 : ((t.kind : Int) == 2) = false) (c2 : (decide ((t.length : Int) > 0)) = true) (c3 : (((bAnd .u8 (t.reg 0) 32) : Int) == 0) = true) (c4 : (decide ((t.kind : Int) > 1)) = false) (c5 : ((t.sweep : Int) == 0) = true) (c6 : (((bAnd .u8 (t.reg 1) 128) : Int) != 0) = true) (c7 : (((bAnd .u8 (t.reg 1) 7) : Int) != 0) = true) (c8 : (!(tMute ({ t with length := (IntKind.u8.wrap (t.length - 1)) } : Tone))) = true) : FnSpec Tryd.prog 58 1001 [.pointer (some ⟨1000, 0, none⟩)] [(1000, Tone.blk t)] (.tuple ⟨[]⟩) [(1000, Tone.blk ({ t with length := (IntKind.u8.wrap (t.length - 1)), period := (tTarget ({ t with length := (IntKind.u8.wrap (t.length - 1)) } : Tone)), sweep := (bAnd .u8 (bShr .u8 (t.reg 1) 4) 7), swept := false } : Tone))] := by
  exact fn_of_x hG hM Tryd.func58 (by kernel_rfl) (by kernel_rfl) 400 [.no, .no, .yes, .yes, .yes, .yes, .lit 0, .yes, .yes, .yes, .yes, .yes, .yes, .no, .lit 1, .yes, .yes, .yes, .yes, .yes, .yes, .yes, .yes, .yes, .yes, .callr [(1000, 1000)] [1000] [] 1001 (.bool (tMute ({ t with length := (IntKind.u8.wrap (t.length - 1)) } : Tone))) [], .yes, .yes, .yes, .callr [(1000, 1000)] [1000] [] 1001 (.int .u16 (tTarget ({ t with length := (IntKind.u8.wrap (t.length - 1)) } : Tone))) [], .yes, .yes, .yes, .yes, .yes, .yes] (J (Eq.refl false) (J c1 (J c2 (J c2 (J c2 (J c2 (J (Eq.refl (0 : Int)) (J (by decide : 0 < 4) (J c2 (J c2 (J c2 (J c2 (J c2 (J c3 (J c4 (J (Eq.refl (1 : Int)) (J (by decide : 1 < 4) (J c5 (J c5 (J c5 (J c5 (J c6 (J c6 (J c6 (J c6 (J c7 (J c7 (J (tMute_ok ({ t with length := (IntKind.u8.wrap (t.length - 1)) } : Tone)) (J c7 (J c7 (J c8 (J (tTarget_ok ({ t with length := (IntKind.u8.wrap (t.length - 1)) } : Tone)) (J c5 (J c5 (J c5 (J c5 (J c5 (J (Eq.refl true) (J (by decide : (0 : Int) ≤ 4) trivial))))))))))))))))))))))))))))))))))))))) (by kernel_rfl)
theorem tHalf_p24 (t : Tone) (c1 : ((t.kind : Int) == 2) = false) (c2 : (decide ((t.length : Int) > 0)) = true) (c3 : (((bAnd .u8 (t.reg 0) 32) : Int) == 0) = true) (c4 : (decide ((t.kind : Int) > 1)) = false) (c5 : ((t.sweep : Int) == 0) = true) (c6 : (((bAnd .u8 (t.reg 1) 128) : Int) != 0) = true) (c7 : (((bAnd .u8 (t.reg 1) 7) : Int) != 0) = true) (c8 : (!(tMute ({ t with length := (IntKind.u8.wrap (t.length - 1)) } : Tone))) = false) : FnSpec Tryd.prog 58 1001 [.pointer (some ⟨1000, 0, none⟩)] [(1000, Tone.blk t)] (.tuple ⟨[]⟩) [(1000, Tone.blk ({ t with length := (IntKind.u8.wrap (t.length - 1)), sweep := (bAnd .u8 (bShr .u8 (t.reg 1) 4) 7), swept := false } : Tone))] := by
  exact fn_of_x hG hM Tryd.func58 (by kernel_rfl) (by kernel_rfl) 400 [.no, .no, .yes, .yes, .yes, .yes, .lit 0, .yes, .yes, .yes, .yes, .yes, .yes, .no, .lit 1, .yes, .yes, .yes, .yes, .yes, .yes, .yes, .yes, .yes, .yes, .callr [(1000, 1000)] [1000] [] 1001 (.bool (tMute ({ t with length := (IntKind.u8.wrap (t.length - 1)) } : Tone))) [], .yes, .yes, .no, .yes, .yes, .yes, .yes, .yes, .yes] (J (Eq.refl false) (J c1 (J c2 (J c2 (J c2 (J c2 (J (Eq.refl (0 : Int)) (J (by decide : 0 < 4) (J c2 (J c2 (J c2 (J c2 (J c2 (J c3 (J c4 (J (Eq.refl (1 : Int)) (J (by decide : 1 < 4) (J c5 (J c5 (J c5 (J c5 (J c6 (J c6 (J c6 (J c6 (J c7 (J c7 (J (tMute_ok ({ t with length := (IntKind.u8.wrap (t.length - 1)) } : Tone)) (J c7 (J c7 (J c8 (J c5 (J c5 (J c5 (J c5 (J c5 (J (Eq.refl true) (J (by decide : (0 : Int) ≤ 4) trivial)))))))))))))))))))))))))))))))))))))) (by kernel_rfl)
theorem tHalf_p25 (t : Tone) (c1 : ((t.kind : Int) == 2) = false) (c2 : (decide ((t.length : Int) > 0)) = true) (c3 : (((bAnd .u8 (t.reg 0) 32) : Int) == 0) = true) (c4 : (decide ((t.kind : Int) > 1)) = false) (c5 : ((t.sweep : Int) == 0) = true) (c6 : (((bAnd .u8 (t.reg 1) 128) : Int) != 0) = true) (c7 : (((bAnd .u8 (t.reg 1) 7) : Int) != 0) = false) : FnSpec Tryd.prog 58 1001 [.pointer (some ⟨1000, 0, none⟩)] [(1000, Tone.blk t)] (.tuple ⟨[]⟩) [(1000, Tone.blk ({ t with length := (IntKind.u8.wrap (t.length - 1)), sweep := (bAnd .u8 (bShr .u8 (t.reg 1) 4) 7), swept := false } : Tone))] := by
  exact fn_of_x hG hM Tryd.func58 (by kernel_rfl) (by kernel_rfl) 400 [.no, .no, .yes, .yes, .yes, .yes, .lit 0, .yes, .yes, .yes, .yes, .yes, .yes, .no, .lit 1, .yes, .yes, .yes, .yes, .yes, .yes, .yes, .yes, .no, .no, .no, .no, .no, .yes, .yes, .yes, .yes, .yes, .yes] (J (Eq.refl false) (J c1 (J c2 (J c2 (J c2 (J c2 (J (Eq.refl (0 : Int)) (J (by decide : 0 < 4) (J c2 (J c2 (J c2 (J c2 (J c2 (J c3 (J c4 (J (Eq.refl (1 : Int)) (J (by decide : 1 < 4) (J c5 (J c5 (J c5 (J c5 (J c6 (J c6 (J c6 (J c6 (J c7 (J c7 (J c7 (J c7 (J (Eq.refl false) (J c5 (J c5 (J c5 (J c5 (J c5 (J (Eq.refl true) (J (by decide : (0 : Int) ≤ 4) trivial))))))))))))))))))))))))))))))))))))) (by kernel_rfl)
theorem tHalf_p26 (t : Tone) (c1 : ((t.kind : Int) == 2) = false) (c2 : (decide ((t.length : Int) > 0)) = true) (c3 : (((bAnd .u8 (t.reg 0) 32) : Int) == 0) = true) (c4 : (decide ((t.kind : Int) > 1)) = false) (c5 : ((t.sweep : Int) == 0) = true) (c6 : (((bAnd .u8 (t.reg 1) 128) : Int) != 0) = false) : FnSpec Tryd.prog 58 1001 [.pointer (some ⟨1000, 0, none⟩)] [(1000, Tone.blk t)] (.tuple ⟨[]⟩) [(1000, Tone.blk ({ t with length := (IntKind.u8.wrap (t.length - 1)), sweep := (bAnd .u8 (bShr .u8 (t.reg 1) 4) 7), swept := false } : Tone))] := by
  exact fn_of_x hG hM Tryd.func58 (by kernel_rfl) (by kernel_rfl) 400 [.no, .no, .yes, .yes, .yes, .yes, .lit 0, .yes, .yes, .yes, .yes, .yes, .yes, .no, .lit 1, .yes, .yes, .yes, .yes, .no, .no, .no, .no, .no, .no, .no, .no, .no, .yes, .yes, .yes, .yes, .yes, .yes] (J (Eq.refl false) (J c1 (J c2 (J c2 (J c2 (J c2 (J (Eq.refl (0 : Int)) (J (by decide : 0 < 4) (J c2 (J c2 (J c2 (J c2 (J c2 (J c3 (J c4 (J (Eq.refl (1 : Int)) (J (by decide : 1 < 4) (J c5 (J c5 (J c5 (J c5 (J c6 (J c6 (J c6 (J c6 (J (Eq.refl false) (J (Eq.refl false) (J (Eq.refl false) (J (Eq.refl false) (J (Eq.refl false) (J c5 (J c5 (J c5 (J c5 (J c5 (J (Eq.refl true) (J (by decide : (0 : Int) ≤ 4) trivial))))))))))))))))))))))))))))))))))))) (by kernel_rfl)
theorem tHalf_p27 (t : Tone) (c1 : ((t.kind : Int) == 2) = false) (c2 : (decide ((t.length : Int) > 0)) = true) (c3 : (((bAnd .u8 (t.reg 0) 32) : Int) == 0) = true) (c4 : (decide ((t.kind : Int) > 1)) = false) (c5 : ((t.sweep : Int) == 0) = false) (c6 : t.swept = true) : FnSpec Tryd.prog 58 1001 [.pointer (some ⟨1000, 0, none⟩)] [(1000, Tone.blk t)] (.tuple ⟨[]⟩) [(1000, Tone.blk ({ t with length := (IntKind.u8.wrap (t.length - 1)), sweep := (bAnd .u8 (bShr .u8 (t.reg 1) 4) 7), swept := false } : Tone))] := by
  exact fn_of_x hG hM Tryd.func58 (by kernel_rfl) (by kernel_rfl) 400 [.no, .no, .yes, .yes, .yes, .yes, .lit 0, .yes, .yes, .yes, .yes, .yes, .yes, .no, .lit 1, .no, .no, .no, .no, .no, .no, .no, .no, .no, .no, .no, .no, .no, .no, .no, .no, .no, .no, .yes] (J (Eq.refl false) (J c1 (J c2 (J c2 (J c2 (J c2 (J (Eq.refl (0 : Int)) (J (by decide : 0 < 4) (J c2 (J c2 (J c2 (J c2 (J c2 (J c3 (J c4 (J (Eq.refl (1 : Int)) (J (by decide : 1 < 4) (J c5 (J c5 (J c5 (J c5 (J (Eq.refl false) (J (Eq.refl false) (J (Eq.refl false) (J (Eq.refl false) (J (Eq.refl false) (J (Eq.refl false) (J (Eq.refl false) (J (Eq.refl false) (J (Eq.refl false) (J c5 (J c5 (J c5 (J c5 (J c5 (J c6 (J (by decide : (0 : Int) ≤ 4) trivial))))))))))))))))))))))))))))))))))))) (by kernel_rfl)
theorem tHalf_p28 (t : Tone) (c1 : ((t.kind : Int) == 2) = false) (c2 : (decide ((t.length : Int) > 0)) = true) (c3 : (((bAnd .u8 (t.reg 0) 32) : Int) == 0) = true) (c4 : (decide ((t.kind : Int) > 1)) = false) (c5 : ((t.sweep : Int) == 0) = false) (c6 : t.swept = false) : FnSpec Tryd.prog 58 1001 [.pointer (some ⟨1000, 0, none⟩)] [(1000, Tone.blk t)] (.tuple ⟨[]⟩) [(1000, Tone.blk ({ t with length := (IntKind.u8.wrap (t.length - 1)), sweep := (IntKind.u8.wrap (t.sweep - 1)) } : Tone))] := by
  exact fn_of_x hG hM Tryd.func58 (by kernel_rfl) (by kernel_rfl) 400 [.no, .no, .yes, .yes, .yes, .yes, .lit 0, .yes, .yes, .yes, .yes, .yes, .yes, .no, .lit 1, .no, .no, .no, .no, .no, .no, .no, .no, .no, .no, .no, .no, .no, .no, .no, .no, .no, .no, .no] (J (Eq.refl false) (J c1 (J c2 (J c2 (J c2 (J c2 (J (Eq.refl (0 : Int)) (J (by decide : 0 < 4) (J c2 (J c2 (J c2 (J c2 (J c2 (J c3 (J c4 (J (Eq.refl (1 : Int)) (J (by decide : 1 < 4) (J c5 (J c5 (J c5 (J c5 (J (Eq.refl false) (J (Eq.refl false) (J (Eq.refl false) (J (Eq.refl false) (J (Eq.refl false) (J (Eq.refl false) (J (Eq.refl false) (J (Eq.refl false) (J (Eq.refl false) (J c5 (J c5 (J c5 (J c5 (J c5 (J c6 trivial)))))))))))))))))))))))))))))))))))) (by kernel_rfl)
theorem tHalf_p29 (t : Tone) (c1 : ((t.kind : Int) == 2) = false) (c2 : (decide ((t.length : Int) > 0)) = true) (c3 : (((bAnd .u8 (t.reg 0) 32) : Int) == 0) = false) (c4 : (decide ((t.kind : Int) > 1)) = true) : FnSpec Tryd.prog 58 1001 [.pointer (some ⟨1000, 0, none⟩)] [(1000, Tone.blk t)] (.tuple ⟨[]⟩) [(1000, Tone.blk t)] := by
  exact fn_of_x hG hM Tryd.func58 (by kernel_rfl) (by kernel_rfl) 400 [.no, .no, .yes, .yes, .yes, .yes, .lit 0, .yes, .yes, .yes, .yes, .yes, .no, .yes] (J (Eq.refl false) (J c1 (J c2 (J c2 (J c2 (J c2 (J (Eq.refl (0 : Int)) (J (by decide : 0 < 4) (J c2 (J c2 (J c2 (J c2 (J c2 (J c3 (J c4 trivial))))))))))))))) (by kernel_rfl)
theorem tHalf_p30 (t : Tone) (c1 : ((t.kind : Int) == 2) = false) (c2 : (decide ((t.length : Int) > 0)) = true) (c3 : (((bAnd .u8 (t.reg 0) 32) : Int) == 0) = false) (c4 : (decide ((t.kind : Int) > 1)) = false) (c5 : ((t.sweep : Int) == 0) = true) (c6 : (((bAnd .u8 (t.reg 1) 128) : Int) != 0) = true) (c7 : (((bAnd .u8 (t.reg 1) 7) : Int) != 0) = true) (c8 : (!(tMute t)) = true) : FnSpec Tryd.prog 58 1001 [.pointer (some ⟨1000, 0, none⟩)] [(1000, Tone.blk t)] (.tuple ⟨[]⟩) [(1000, Tone.blk ({ t with period := (tTarget t), sweep := (bAnd .u8 (bShr .u8 (t.reg 1) 4) 7), swept := false } : Tone))] := by
  exact fn_of_x hG hM Tryd.func58 (by kernel_rfl) (by kernel_rfl) 400 [.no, .no, .yes, .yes, .yes, .yes, .lit 0, .yes, .yes, .yes, .yes, .yes, .no, .no, .lit 1, .yes, .yes, .yes, .yes, .yes, .yes, .yes, .yes, .yes, .yes, .callr [(1000, 1000)] [1000] [] 1001 (.bool (tMute t)) [], .yes, .yes, .yes, .callr [(1000, 1000)] [1000] [] 1001 (.int .u16 (tTarget t)) [], .yes, .yes, .yes, .yes, .yes, .yes] (J (Eq.refl false) (J c1 (J c2 (J c2 (J c2 (J c2 (J (Eq.refl (0 : Int)) (J (by decide : 0 < 4) (J c2 (J c2 (J c2 (J c2 (J c2 (J c3 (J c4 (J (Eq.refl (1 : Int)) (J (by decide : 1 < 4) (J c5 (J c5 (J c5 (J c5 (J c6 (J c6 (J c6 (J c6 (J c7 (J c7 (J (tMute_ok t) (J c7 (J c7 (J c8 (J (tTarget_ok t) (J c5 (J c5 (J c5 (J c5 (J c5 (J (Eq.refl true) (J (by decide : (0 : Int) ≤ 4) trivial))))))))))))))))))))))))))))))))))))))) (by kernel_rfl)
theorem tHalf_p31 (t : Tone) (c1 : ((t.kind : Int) == 2) = false) (c2 : (decide ((t.length : Int) > 0)) = true) (c3 : (((bAnd .u8 (t.reg 0) 32) : Int) == 0) = false) (c4 : (decide ((t.kind : Int) > 1)) = false) (c5 : ((t.sweep : Int) == 0) = true) (c6 : (((bAnd .u8 (t.reg 1) 128) : Int) != 0) = true) (c7 : (((bAnd .u8 (t.reg 1) 7) : Int) != 0) = true) (c8 : (!(tMute t)) = false) : FnSpec Tryd.prog 58 1001 [.pointer (some ⟨1000, 0, none⟩)] [(1000, Tone.blk t)] (.tuple ⟨[]⟩) [(1000, Tone.blk ({ t with sweep := (bAnd .u8 (bShr .u8 (t.reg 1) 4) 7), swept := false } : Tone))] := by
  exact fn_of_x hG hM Tryd.func58 (by kernel_rfl) (by kernel_rfl) 400 [.no, .no, .yes, .yes, .yes, .yes, .lit 0, .yes, .yes, .yes, .yes, .yes, .no, .no, .lit 1, .yes, .yes, .yes, .yes, .yes, .yes, .yes, .yes, .yes, .yes, .callr [(1000, 1000)] [1000] [] 1001 (.bool (tMute t)) [], .yes, .yes, .no, .yes, .yes, .yes, .yes, .yes, .yes] (J (Eq.refl false) (J c1 (J c2 (J c2 (J c2 (J c2 (J (Eq.refl (0 : Int)) (J (by decide : 0 < 4) (J c2 (J c2 (J c2 (J c2 (J c2 (J c3 (J c4 (J (Eq.refl (1 : Int)) (J (by decide : 1 < 4) (J c5 (J c5 (J c5 (J c5 (J c6 (J c6 (J c6 (J c6 (J c7 (J c7 (J (tMute_ok t) (J c7 (J c7 (J c8 (J c5 (J c5 (J c5 (J c5 (J c5 (J (Eq.refl true) (J (by decide : (0 : Int) ≤ 4) trivial)))))))))))))))))))))))))))))))))))))) (by kernel_rfl)
theorem tHalf_p32 (t : Tone) (c1 : ((t.kind : Int) == 2) = false) (c2 : (decide ((t.length : Int) > 0)) = true) (c3 : (((bAnd .u8 (t.reg 0) 32) : Int) == 0) = false) (c4 : (decide ((t.kind : Int) > 1)) = false) (c5 : ((t.sweep : Int) == 0) = true) (c6 : (((bAnd .u8 (t.reg 1) 128) : Int) != 0) = true) (c7 : (((bAnd .u8 (t.reg 1) 7) : Int) != 0) = false) : FnSpec Tryd.prog 58 1001 [.pointer (some ⟨1000, 0, none⟩)] [(1000, Tone.blk t)] (.tuple ⟨[]⟩) [(1000, Tone.blk ({ t with sweep := (bAnd .u8 (bShr .u8 (t.reg 1) 4) 7), swept := false } : Tone))] := by
  exact fn_of_x hG hM Tryd.func58 (by kernel_rfl) (by kernel_rfl) 400 [.no, .no, .yes, .yes, .yes, .yes, .lit 0, .yes, .yes, .yes, .yes, .yes, .no, .no, .lit 1, .yes, .yes, .yes, .yes, .yes, .yes, .yes, .yes, .no, .no, .no, .no, .no, .yes, .yes, .yes, .yes, .yes, .yes] (J (Eq.refl false) (J c1 (J c2 (J c2 (J c2 (J c2 (J (Eq.refl (0 : Int)) (J (by decide : 0 < 4) (J c2 (J c2 (J c2 (J c2 (J c2 (J c3 (J c4 (J (Eq.refl (1 : Int)) (J (by decide : 1 < 4) (J c5 (J c5 (J c5 (J c5 (J c6 (J c6 (J c6 (J c6 (J c7 (J c7 (J c7 (J c7 (J (Eq.refl false) (J c5 (J c5 (J c5 (J c5 (J c5 (J (Eq.refl true) (J (by decide : (0 : Int) ≤ 4) trivial))))))))))))))))))))))))))))))))))))) (by kernel_rfl)
theorem tHalf_p33 (t : Tone) (c1 : ((t.kind : Int) == 2) = false) (c2 : (decide ((t.length : Int) > 0)) = true) (c3 : (((bAnd .u8 (t.reg 0) 32) : Int) == 0) = false) (c4 : (decide ((t.kind : Int) > 1)) = false) (c5 : ((t.sweep : Int) == 0) = true) (c6 : (((bAnd .u8 (t.reg 1) 128) : Int) != 0) = false) : FnSpec Tryd.prog 58 1001 [.pointer (some ⟨1000, 0, none⟩)] [(1000, Tone.blk t)] (.tuple ⟨[]⟩) [(1000, Tone.blk ({ t with sweep := (bAnd .u8 (bShr .u8 (t.reg 1) 4) 7), swept := false } : Tone))] := by
  exact fn_of_x hG hM Tryd.func58 (by kernel_rfl) (by kernel_rfl) 400 [.no, .no, .yes, .yes, .yes, .yes, .lit 0, .yes, .yes, .yes, .yes, .yes, .no, .no, .lit 1, .yes, .yes, .yes, .yes, .no, .no, .no, .no, .no, .no, .no, .no, .no, .yes, .yes, .yes, .yes, .yes, .yes] (J (Eq.refl false) (J c1 (J c2 (J c2 (J c2 (J c2 (J (Eq.refl (0 : Int)) (J (by decide : 0 < 4) (J c2 (J c2 (J c2 (J c2 (J c2 (J c3 (J c4 (J (Eq.refl (1 : Int)) (J (by decide : 1 < 4) (J c5 (J c5 (J c5 (J c5 (J c6 (J c6 (J c6 (J c6 (J (Eq.refl false) (J (Eq.refl false) (J (Eq.refl false) (J (Eq.refl false) (J (Eq.refl false) (J c5 (J c5 (J c5 (J c5 (J c5 (J (Eq.refl true) (J (by decide : (0 : Int) ≤ 4) trivial))))))))))))))))))))))))))))))))))))) (by kernel_rfl)
theorem tHalf_p34 (t : Tone) (c1 : ((t.kind : Int) == 2) = false) (c2 : (decide ((t.length : Int) > 0)) = true) (c3 : (((bAnd .u8 (t.reg 0) 32) : Int) == 0) = false) (c4 : (decide ((t.kind : Int) > 1)) = false) (c5 : ((t.sweep : Int) == 0) = false) (c6 : t.swept = true) : FnSpec Tryd.prog 58 1001 [.pointer (some ⟨1000, 0, none⟩)] [(1000, Tone.blk t)] (.tuple ⟨[]⟩) [(1000, Tone.blk ({ t with sweep := (bAnd .u8 (bShr .u8 (t.reg 1) 4) 7), swept := false } : Tone))] := by
  exact fn_of_x hG hM Tryd.func58 (by kernel_rfl) (by kernel_rfl) 400 [.no, .no, .yes, .yes, .yes, .yes, .lit 0, .yes, .yes, .yes, .yes, .yes, .no, .no, .lit 1, .no, .no, .no, .no, .no, .no, .no, .no, .no, .no, .no, .no, .no, .no, .no, .no, .no, .no, .yes] (J (Eq.refl false) (J c1 (J c2 (J c2 (J c2 (J c2 (J (Eq.refl (0 : Int)) (J (by decide : 0 < 4) (J c2 (J c2 (J c2 (J c2 (J c2 (J c3 (J c4 (J (Eq.refl (1 : Int)) (J (by decide : 1 < 4) (J c5 (J c5 (J c5 (J c5 (J (Eq.refl false) (J (Eq.refl false) (J (Eq.refl false) (J (Eq.refl false) (J (Eq.refl false) (J (Eq.refl false) (J (Eq.refl false) (J (Eq.refl false) (J (Eq.refl false) (J c5 (J c5 (J c5 (J c5 (J c5 (J c6 (J (by decide : (0 : Int) ≤ 4) trivial))))))))))))))))))))))))))))))))))))) (by kernel_rfl)
theorem tHalf_p35 (t : Tone) (c1 : ((t.kind : Int) == 2) = false) (c2 : (decide ((t.length : Int) > 0)) = true) (c3 : (((bAnd .u8 (t.reg 0) 32) : Int) == 0) = false) (c4 : (decide ((t.kind : Int) > 1)) = false) (c5 : ((t.sweep : Int) == 0) = false) (c6 : t.swept = false) : FnSpec Tryd.prog 58 1001 [.pointer (some ⟨1000, 0, none⟩)] [(1000, Tone.blk t)] (.tuple ⟨[]⟩) [(1000, Tone.blk ({ t with sweep := (IntKind.u8.wrap (t.sweep - 1)) } : Tone))] := by
  exact fn_of_x hG hM Tryd.func58 (by kernel_rfl) (by kernel_rfl) 400 [.no, .no, .yes, .yes, .yes, .yes, .lit 0, .yes, .yes, .yes, .yes, .yes, .no, .no, .lit 1, .no, .no, .no, .no, .no, .no, .no, .no, .no, .no, .no, .no, .no, .no, .no, .no, .no, .no, .no] (J (Eq.refl false) (J c1 (J c2 (J c2 (J c2 (J c2 (J (Eq.refl (0 : Int)) (J (by decide : 0 < 4) (J c2 (J c2 (J c2 (J c2 (J c2 (J c3 (J c4 (J (Eq.refl (1 : Int)) (J (by decide : 1 < 4) (J c5 (J c5 (J c5 (J c5 (J (Eq.refl false) (J (Eq.refl false) (J (Eq.refl false) (J (Eq.refl false) (J (Eq.refl false) (J (Eq.refl false) (J (Eq.refl false) (J (Eq.refl false) (J (Eq.refl false) (J c5 (J c5 (J c5 (J c5 (J c5 (J c6 trivial)))))))))))))))))))))))))))))))))))) (by kernel_rfl)
theorem tHalf_p36 (t : Tone) (c1 : ((t.kind : Int) == 2) = false) (c2 : (decide ((t.length : Int) > 0)) = false) (c3 : (decide ((t.kind : Int) > 1)) = true) : FnSpec Tryd.prog 58 1001 [.pointer (some ⟨1000, 0, none⟩)] [(1000, Tone.blk t)] (.tuple ⟨[]⟩) [(1000, Tone.blk t)] := by
  exact fn_of_x hG hM Tryd.func58 (by kernel_rfl) (by kernel_rfl) 400 [.no, .no, .no, .no, .no, .no, .no, .no, .no, .no, .no, .no, .yes] (J (Eq.refl false) (J c1 (J c2 (J c2 (J c2 (J c2 (J c2 (J c2 (J c2 (J c2 (J c2 (J (Eq.refl false) (J c3 trivial))))))))))))) (by kernel_rfl)
theorem tHalf_p37 (t : Tone) (c1 : ((t.kind : Int) == 2) = false) (c2 : (decide ((t.length : Int) > 0)) = false) (c3 : (decide ((t.kind : Int) > 1)) = false) (c4 : ((t.sweep : Int) == 0) = true) (c5 : (((bAnd .u8 (t.reg 1) 128) : Int) != 0) = true) (c6 : (((bAnd .u8 (t.reg 1) 7) : Int) != 0) = true) (c7 : (!(tMute t)) = true) : FnSpec Tryd.prog 58 1001 [.pointer (some ⟨1000, 0, none⟩)] [(1000, Tone.blk t)] (.tuple ⟨[]⟩) [(1000, Tone.blk ({ t with period := (tTarget t), sweep := (bAnd .u8 (bShr .u8 (t.reg 1) 4) 7), swept := false } : Tone))] := by
  exact fn_of_x hG hM Tryd.func58 (by kernel_rfl) (by kernel_rfl) 400 [.no, .no, .no, .no, .no, .no, .no, .no, .no, .no, .no, .no, .no, .lit 1, .yes, .yes, .yes, .yes, .yes, .yes, .yes, .yes, .yes, .yes, .callr [(1000, 1000)] [1000] [] 1001 (.bool (tMute t)) [], .yes, .yes, .yes, .callr [(1000, 1000)] [1000] [] 1001 (.int .u16 (tTarget t)) [], .yes, .yes, .yes, .yes, .yes, .yes] (J (Eq.refl false) (J c1 (J c2 (J c2 (J c2 (J c2 (J c2 (J c2 (J c2 (J c2 (J c2 (J (Eq.refl false) (J c3 (J (Eq.refl (1 : Int)) (J (by decide : 1 < 4) (J c4 (J c4 (J c4 (J c4 (J c5 (J c5 (J c5 (J c5 (J c6 (J c6 (J (tMute_ok t) (J c6 (J c6 (J c7 (J (tTarget_ok t) (J c4 (J c4 (J c4 (J c4 (J c4 (J (Eq.refl true) (J (by decide : (0 : Int) ≤ 4) trivial))))))))))))))))))))))))))))))))))))) (by kernel_rfl)
theorem tHalf_p38 (t : Tone) (c1 : ((t.kind : Int) == 2) = false) (c2 : (decide ((t.length : Int) > 0)) = false) (c3 : (decide ((t.kind : Int) > 1)) = false) (c4 : ((t.sweep : Int) == 0) = true) (c5 : (((bAnd .u8 (t.reg 1) 128) : Int) != 0) = true) (c6 : (((bAnd .u8 (t.reg 1) 7) : Int) != 0) = true) (c7 : (!(tMute t)) = false) : FnSpec Tryd.prog 58 1001 [.pointer (some ⟨1000, 0, none⟩)] [(1000, Tone.blk t)] (.tuple ⟨[]⟩) [(1000, Tone.blk ({ t with sweep := (bAnd .u8 (bShr .u8 (t.reg 1) 4) 7), swept := false } : Tone))] := by
  exact fn_of_x hG hM Tryd.func58 (by kernel_rfl) (by kernel_rfl) 400 [.no, .no, .no, .no, .no, .no, .no, .no, .no, .no, .no, .no, .no, .lit 1, .yes, .yes, .yes, .yes, .yes, .yes, .yes, .yes, .yes, .yes, .callr [(1000, 1000)] [1000] [] 1001 (.bool (tMute t)) [], .yes, .yes, .no, .yes, .yes, .yes, .yes, .yes, .yes] (J (Eq.refl false) (J c1 (J c2 (J c2 (J c2 (J c2 (J c2 (J c2 (J c2 (J c2 (J c2 (J (Eq.refl false) (J c3 (J (Eq.refl (1 : Int)) (J (by decide : 1 < 4) (J c4 (J c4 (J c4 (J c4 (J c5 (J c5 (J c5 (J c5 (J c6 (J c6 (J (tMute_ok t) (J c6 (J c6 (J c7 (J c4 (J c4 (J c4 (J c4 (J c4 (J (Eq.refl true) (J (by decide : (0 : Int) ≤ 4) trivial)))))))))))))))))))))))))))))))))))) (by kernel_rfl)
theorem tHalf_p39 (t : Tone) (c1 : ((t.kind : Int) == 2) = false) (c2 : (decide ((t.length : Int) > 0)) = false) (c3 : (decide ((t.kind : Int) > 1)) = false) (c4 : ((t.sweep : Int) == 0) = true) (c5 : (((bAnd .u8 (t.reg 1) 128) : Int) != 0) = true) (c6 : (((bAnd .u8 (t.reg 1) 7) : Int) != 0) = false) : FnSpec Tryd.prog 58 1001 [.pointer (some ⟨1000, 0, none⟩)] [(1000, Tone.blk t)] (.tuple ⟨[]⟩) [(1000, Tone.blk ({ t with sweep := (bAnd .u8 (bShr .u8 (t.reg 1) 4) 7), swept := false } : Tone))] := by
  exact fn_of_x hG hM Tryd.func58 (by kernel_rfl) (by kernel_rfl) 400 [.no, .no, .no, .no, .no, .no, .no, .no, .no, .no, .no, .no, .no, .lit 1, .yes, .yes, .yes, .yes, .yes, .yes, .yes, .yes, .no, .no, .no, .no, .no, .yes, .yes, .yes, .yes, .yes, .yes] (J (Eq.refl false) (J c1 (J c2 (J c2 (J c2 (J c2 (J c2 (J c2 (J c2 (J c2 (J c2 (J (Eq.refl false) (J c3 (J (Eq.refl (1 : Int)) (J (by decide : 1 < 4) (J c4 (J c4 (J c4 (J c4 (J c5 (J c5 (J c5 (J c5 (J c6 (J c6 (J c6 (J c6 (J (Eq.refl false) (J c4 (J c4 (J c4 (J c4 (J c4 (J (Eq.refl true) (J (by decide : (0 : Int) ≤ 4) trivial))))))))))))))))))))))))))))))))))) (by kernel_rfl)
theorem tHalf_p40 (t : Tone) (c1 : ((t.kind : Int) == 2) = false) (c2 : (decide ((t.length : Int) > 0)) = false) (c3 : (decide ((t.kind : Int) > 1)) = false) (c4 : ((t.sweep : Int) == 0) = true) (c5 : (((bAnd .u8 (t.reg 1) 128) : Int) != 0) = false) : FnSpec Tryd.prog 58 1001 [.pointer (some ⟨1000, 0, none⟩)] [(1000, Tone.blk t)] (.tuple ⟨[]⟩) [(1000, Tone.blk ({ t with sweep := (bAnd .u8 (bShr .u8 (t.reg 1) 4) 7), swept := false } : Tone))] := by
  exact fn_of_x hG hM Tryd.func58 (by kernel_rfl) (by kernel_rfl) 400 [.no, .no, .no, .no, .no, .no, .no, .no, .no, .no, .no, .no, .no, .lit 1, .yes, .yes, .yes, .yes, .no, .no, .no, .no, .no, .no, .no, .no, .no, .yes, .yes, .yes, .yes, .yes, .yes] (J (Eq.refl false) (J c1 (J c2 (J c2 (J c2 (J c2 (J c2 (J c2 (J c2 (J c2 (J c2 (J (Eq.refl false) (J c3 (J (Eq.refl (1 : Int)) (J (by decide : 1 < 4) (J c4 (J c4 (J c4 (J c4 (J c5 (J c5 (J c5 (J c5 (J (Eq.refl false) (J (Eq.refl false) (J (Eq.refl false) (J (Eq.refl false) (J (Eq.refl false) (J c4 (J c4 (J c4 (J c4 (J c4 (J (Eq.refl true) (J (by decide : (0 : Int) ≤ 4) trivial))))))))))))))))))))))))))))))))))) (by kernel_rfl)
theorem tHalf_p41 (t : Tone) (c1 : ((t.kind : Int) == 2) = false) (c2 : (decide ((t.length : Int) > 0)) = false) (c3 : (decide ((t.kind : Int) > 1)) = false) (c4 : ((t.sweep : Int) == 0) = false) (c5 : t.swept = true) : FnSpec Tryd.prog 58 1001 [.pointer (some ⟨1000, 0, none⟩)] [(1000, Tone.blk t)] (.tuple ⟨[]⟩) [(1000, Tone.blk ({ t with sweep := (bAnd .u8 (bShr .u8 (t.reg 1) 4) 7), swept := false } : Tone))] := by
  exact fn_of_x hG hM Tryd.func58 (by kernel_rfl) (by kernel_rfl) 400 [.no, .no, .no, .no, .no, .no, .no, .no, .no, .no, .no, .no, .no, .lit 1, .no, .no, .no, .no, .no, .no, .no, .no, .no, .no, .no, .no, .no, .no, .no, .no, .no, .no, .yes] (J (Eq.refl false) (J c1 (J c2 (J c2 (J c2 (J c2 (J c2 (J c2 (J c2 (J c2 (J c2 (J (Eq.refl false) (J c3 (J (Eq.refl (1 : Int)) (J (by decide : 1 < 4) (J c4 (J c4 (J c4 (J c4 (J (Eq.refl false) (J (Eq.refl false) (J (Eq.refl false) (J (Eq.refl false) (J (Eq.refl false) (J (Eq.refl false) (J (Eq.refl false) (J (Eq.refl false) (J (Eq.refl false) (J c4 (J c4 (J c4 (J c4 (J c4 (J c5 (J (by decide : (0 : Int) ≤ 4) trivial))))))))))))))))))))))))))))))))))) (by kernel_rfl)
theorem tHalf_p42 (t : Tone) (c1 : ((t.kind : Int) == 2) = false) (c2 : (decide ((t.length : Int) > 0)) = false) (c3 : (decide ((t.kind : Int) > 1)) = false) (c4 : ((t.sweep : Int) == 0) = false) (c5 : t.swept = false) : FnSpec Tryd.prog 58 1001 [.pointer (some ⟨1000, 0, none⟩)] [(1000, Tone.blk t)] (.tuple ⟨[]⟩) [(1000, Tone.blk ({ t with sweep := (IntKind.u8.wrap (t.sweep - 1)) } : Tone))] := by
  exact fn_of_x hG hM Tryd.func58 (by kernel_rfl) (by kernel_rfl) 400 [.no, .no, .no, .no, .no, .no, .no, .no, .no, .no, .no, .no, .no, .lit 1, .no, .no, .no, .no, .no, .no, .no, .no, .no, .no, .no, .no, .no, .no, .no, .no, .no, .no, .no] (J (Eq.refl false) (J c1 (J c2 (J c2 (J c2 (J c2 (J c2 (J c2 (J c2 (J c2 (J c2 (J (Eq.refl false) (J c3 (J (Eq.refl (1 : Int)) (J (by decide : 1 < 4) (J c4 (J c4 (J c4 (J c4 (J (Eq.refl false) (J (Eq.refl false) (J (Eq.refl false) (J (Eq.refl false) (J (Eq.refl false) (J (Eq.refl false) (J (Eq.refl false) (J (Eq.refl false) (J (Eq.refl false) (J c4 (J c4 (J c4 (J c4 (J c4 (J c5 trivial)))))))))))))))))))))))))))))))))) (by kernel_rfl)
theorem tHalf_ok (t : Tone) : FnSpec Tryd.prog 58 1001 [.pointer (some ⟨1000, 0, none⟩)] [(1000, Tone.blk t)] (.tuple ⟨[]⟩) [(1000, Tone.blk (tHalf t))] := by
  rcases bt ((t.kind : Int) == 2) with c1 | c1
  ·
    rcases bt (decide ((t.length : Int) > 0)) with c2 | c2
    ·
      rcases bt (((bAnd .u8 (t.reg 0) 128) : Int) == 0) with c3 | c3
      ·
        rcases bt (decide ((t.kind : Int) > 1)) with c4 | c4
        ·
          rw [tHalf, if_pos c1, if_pos c2, if_pos c3, if_pos c4]
          exact tHalf_p1 t c1 c2 c3 c4
        ·
          rcases bt ((t.sweep : Int) == 0) with c5 | c5
          ·
            rcases bt (((bAnd .u8 (t.reg 1) 128) : Int) != 0) with c6 | c6
            ·
              rcases bt (((bAnd .u8 (t.reg 1) 7) : Int) != 0) with c7 | c7
              ·
                rcases bt (!(tMute ({ t with length := (IntKind.u8.wrap (t.length - 1)) } : Tone))) with c8 | c8
                ·
                  rw [tHalf, if_pos c1, if_pos c2, if_pos c3, if_neg (nt c4), if_pos c5, if_pos c6, if_pos c7, if_pos c8]
                  exact tHalf_p2 t c1 c2 c3 c4 c5 c6 c7 c8
                ·
                  rw [tHalf, if_pos c1, if_pos c2, if_pos c3, if_neg (nt c4), if_pos c5, if_pos c6, if_pos c7, if_neg (nt c8)]
                  exact tHalf_p3 t c1 c2 c3 c4 c5 c6 c7 c8
              ·
                rw [tHalf, if_pos c1, if_pos c2, if_pos c3, if_neg (nt c4), if_pos c5, if_pos c6, if_neg (nt c7)]
                exact tHalf_p4 t c1 c2 c3 c4 c5 c6 c7
            ·
              rw [tHalf, if_pos c1, if_pos c2, if_pos c3, if_neg (nt c4), if_pos c5, if_neg (nt c6)]
              exact tHalf_p5 t c1 c2 c3 c4 c5 c6
          ·
            rcases bt t.swept with c6 | c6
            ·
              rw [tHalf, if_pos c1, if_pos c2, if_pos c3, if_neg (nt c4), if_neg (nt c5), if_pos c6]
              exact tHalf_p6 t c1 c2 c3 c4 c5 c6
            ·
              rw [tHalf, if_pos c1, if_pos c2, if_pos c3, if_neg (nt c4), if_neg (nt c5), if_neg (nt c6)]
              exact tHalf_p7 t c1 c2 c3 c4 c5 c6
      ·
        rcases bt (decide ((t.kind : Int) > 1)) with c4 | c4
        ·
          rw [tHalf, if_pos c1, if_pos c2, if_neg (nt c3), if_pos c4]
          exact tHalf_p8 t c1 c2 c3 c4
        ·
          rcases bt ((t.sweep : Int) == 0) with c5 | c5
          ·
            rcases bt (((bAnd .u8 (t.reg 1) 128) : Int) != 0) with c6 | c6
            ·
              rcases bt (((bAnd .u8 (t.reg 1) 7) : Int) != 0) with c7 | c7
              ·
                rcases bt (!(tMute t)) with c8 | c8
                ·
                  rw [tHalf, if_pos c1, if_pos c2, if_neg (nt c3), if_neg (nt c4), if_pos c5, if_pos c6, if_pos c7, if_pos c8]
                  exact tHalf_p9 t c1 c2 c3 c4 c5 c6 c7 c8
                ·
                  rw [tHalf, if_pos c1, if_pos c2, if_neg (nt c3), if_neg (nt c4), if_pos c5, if_pos c6, if_pos c7, if_neg (nt c8)]
                  exact tHalf_p10 t c1 c2 c3 c4 c5 c6 c7 c8
              ·
                rw [tHalf, if_pos c1, if_pos c2, if_neg (nt c3), if_neg (nt c4), if_pos c5, if_pos c6, if_neg (nt c7)]
                exact tHalf_p11 t c1 c2 c3 c4 c5 c6 c7
            ·
              rw [tHalf, if_pos c1, if_pos c2, if_neg (nt c3), if_neg (nt c4), if_pos c5, if_neg (nt c6)]
              exact tHalf_p12 t c1 c2 c3 c4 c5 c6
          ·
            rcases bt t.swept with c6 | c6
            ·
              rw [tHalf, if_pos c1, if_pos c2, if_neg (nt c3), if_neg (nt c4), if_neg (nt c5), if_pos c6]
              exact tHalf_p13 t c1 c2 c3 c4 c5 c6
            ·
              rw [tHalf, if_pos c1, if_pos c2, if_neg (nt c3), if_neg (nt c4), if_neg (nt c5), if_neg (nt c6)]
              exact tHalf_p14 t c1 c2 c3 c4 c5 c6
    ·
      rcases bt (decide ((t.kind : Int) > 1)) with c3 | c3
      ·
        rw [tHalf, if_pos c1, if_neg (nt c2), if_pos c3]
        exact tHalf_p15 t c1 c2 c3
      ·
        rcases bt ((t.sweep : Int) == 0) with c4 | c4
        ·
          rcases bt (((bAnd .u8 (t.reg 1) 128) : Int) != 0) with c5 | c5
          ·
            rcases bt (((bAnd .u8 (t.reg 1) 7) : Int) != 0) with c6 | c6
            ·
              rcases bt (!(tMute t)) with c7 | c7
              ·
                rw [tHalf, if_pos c1, if_neg (nt c2), if_neg (nt c3), if_pos c4, if_pos c5, if_pos c6, if_pos c7]
                exact tHalf_p16 t c1 c2 c3 c4 c5 c6 c7
              ·
                rw [tHalf, if_pos c1, if_neg (nt c2), if_neg (nt c3), if_pos c4, if_pos c5, if_pos c6, if_neg (nt c7)]
                exact tHalf_p17 t c1 c2 c3 c4 c5 c6 c7
            ·
              rw [tHalf, if_pos c1, if_neg (nt c2), if_neg (nt c3), if_pos c4, if_pos c5, if_neg (nt c6)]
              exact tHalf_p18 t c1 c2 c3 c4 c5 c6
          ·
            rw [tHalf, if_pos c1, if_neg (nt c2), if_neg (nt c3), if_pos c4, if_neg (nt c5)]
            exact tHalf_p19 t c1 c2 c3 c4 c5
        ·
          rcases bt t.swept with c5 | c5
          ·
            rw [tHalf, if_pos c1, if_neg (nt c2), if_neg (nt c3), if_neg (nt c4), if_pos c5]
            exact tHalf_p20 t c1 c2 c3 c4 c5
          ·
            rw [tHalf, if_pos c1, if_neg (nt c2), if_neg (nt c3), if_neg (nt c4), if_neg (nt c5)]
            exact tHalf_p21 t c1 c2 c3 c4 c5
  ·
    rcases bt (decide ((t.length : Int) > 0)) with c2 | c2
    ·
      rcases bt (((bAnd .u8 (t.reg 0) 32) : Int) == 0) with c3 | c3
      ·
        rcases bt (decide ((t.kind : Int) > 1)) with c4 | c4
        ·
          rw [tHalf, if_neg (nt c1), if_pos c2, if_pos c3, if_pos c4]
          exact tHalf_p22 t c1 c2 c3 c4
        ·
          rcases bt ((t.sweep : Int) == 0) with c5 | c5
          ·
            rcases bt (((bAnd .u8 (t.reg 1) 128) : Int) != 0) with c6 | c6
            ·
              rcases bt (((bAnd .u8 (t.reg 1) 7) : Int) != 0) with c7 | c7
              ·
                rcases bt (!(tMute ({ t with length := (IntKind.u8.wrap (t.length - 1)) } : Tone))) with c8 | c8
                ·
                  rw [tHalf, if_neg (nt c1), if_pos c2, if_pos c3, if_neg (nt c4), if_pos c5, if_pos c6, if_pos c7, if_pos c8]
                  exact tHalf_p23 t c1 c2 c3 c4 c5 c6 c7 c8
                ·
                  rw [tHalf, if_neg (nt c1), if_pos c2, if_pos c3, if_neg (nt c4), if_pos c5, if_pos c6, if_pos c7, if_neg (nt c8)]
                  exact tHalf_p24 t c1 c2 c3 c4 c5 c6 c7 c8
              ·
                rw [tHalf, if_neg (nt c1), if_pos c2, if_pos c3, if_neg (nt c4), if_pos c5, if_pos c6, if_neg (nt c7)]
                exact tHalf_p25 t c1 c2 c3 c4 c5 c6 c7
            ·
              rw [tHalf, if_neg (nt c1), if_pos c2, if_pos c3, if_neg (nt c4), if_pos c5, if_neg (nt c6)]
              exact tHalf_p26 t c1 c2 c3 c4 c5 c6
          ·
            rcases bt t.swept with c6 | c6
            ·
              rw [tHalf, if_neg (nt c1), if_pos c2, if_pos c3, if_neg (nt c4), if_neg (nt c5), if_pos c6]
              exact tHalf_p27 t c1 c2 c3 c4 c5 c6
            ·
              rw [tHalf, if_neg (nt c1), if_pos c2, if_pos c3, if_neg (nt c4), if_neg (nt c5), if_neg (nt c6)]
              exact tHalf_p28 t c1 c2 c3 c4 c5 c6
      ·
        rcases bt (decide ((t.kind : Int) > 1)) with c4 | c4
        ·
          rw [tHalf, if_neg (nt c1), if_pos c2, if_neg (nt c3), if_pos c4]
          exact tHalf_p29 t c1 c2 c3 c4
        ·
          rcases bt ((t.sweep : Int) == 0) with c5 | c5
          ·
            rcases bt (((bAnd .u8 (t.reg 1) 128) : Int) != 0) with c6 | c6
            ·
              rcases bt (((bAnd .u8 (t.reg 1) 7) : Int) != 0) with c7 | c7
              ·
                rcases bt (!(tMute t)) with c8 | c8
                ·
                  rw [tHalf, if_neg (nt c1), if_pos c2, if_neg (nt c3), if_neg (nt c4), if_pos c5, if_pos c6, if_pos c7, if_pos c8]
                  exact tHalf_p30 t c1 c2 c3 c4 c5 c6 c7 c8
                ·
                  rw [tHalf, if_neg (nt c1), if_pos c2, if_neg (nt c3), if_neg (nt c4), if_pos c5, if_pos c6, if_pos c7, if_neg (nt c8)]
                  exact tHalf_p31 t c1 c2 c3 c4 c5 c6 c7 c8
              ·
                rw [tHalf, if_neg (nt c1), if_pos c2, if_neg (nt c3), if_neg (nt c4), if_pos c5, if_pos c6, if_neg (nt c7)]
                exact tHalf_p32 t c1 c2 c3 c4 c5 c6 c7
            ·
              rw [tHalf, if_neg (nt c1), if_pos c2, if_neg (nt c3), if_neg (nt c4), if_pos c5, if_neg (nt c6)]
              exact tHalf_p33 t c1 c2 c3 c4 c5 c6
          ·
            rcases bt t.swept with c6 | c6
            ·
              rw [tHalf, if_neg (nt c1), if_pos c2, if_neg (nt c3), if_neg (nt c4), if_neg (nt c5), if_pos c6]
              exact tHalf_p34 t c1 c2 c3 c4 c5 c6
            ·
              rw [tHalf, if_neg (nt c1), if_pos c2, if_neg (nt c3), if_neg (nt c4), if_neg (nt c5), if_neg (nt c6)]
              exact tHalf_p35 t c1 c2 c3 c4 c5 c6
    ·
      rcases bt (decide ((t.kind : Int) > 1)) with c3 | c3
      ·
        rw [tHalf, if_neg (nt c1), if_neg (nt c2), if_pos c3]
        exact tHalf_p36 t c1 c2 c3
      ·
        rcases bt ((t.sweep : Int) == 0) with c4 | c4
        ·
          rcases bt (((bAnd .u8 (t.reg 1) 128) : Int) != 0) with c5 | c5
          ·
            rcases bt (((bAnd .u8 (t.reg 1) 7) : Int) != 0) with c6 | c6
            ·
              rcases bt (!(tMute t)) with c7 | c7
              ·
                rw [tHalf, if_neg (nt c1), if_neg (nt c2), if_neg (nt c3), if_pos c4, if_pos c5, if_pos c6, if_pos c7]
                exact tHalf_p37 t c1 c2 c3 c4 c5 c6 c7
              ·
                rw [tHalf, if_neg (nt c1), if_neg (nt c2), if_neg (nt c3), if_pos c4, if_pos c5, if_pos c6, if_neg (nt c7)]
                exact tHalf_p38 t c1 c2 c3 c4 c5 c6 c7
            ·
              rw [tHalf, if_neg (nt c1), if_neg (nt c2), if_neg (nt c3), if_pos c4, if_pos c5, if_neg (nt c6)]
              exact tHalf_p39 t c1 c2 c3 c4 c5 c6
          ·
            rw [tHalf, if_neg (nt c1), if_neg (nt c2), if_neg (nt c3), if_pos c4, if_neg (nt c5)]
            exact tHalf_p40 t c1 c2 c3 c4 c5
        ·
          rcases bt t.swept with c5 | c5
          ·
            rw [tHalf, if_neg (nt c1), if_neg (nt c2), if_neg (nt c3), if_neg (nt c4), if_pos c5]
            exact tHalf_p41 t c1 c2 c3 c4 c5
          ·
            rw [tHalf, if_neg (nt c1), if_neg (nt c2), if_neg (nt c3), if_neg (nt c4), if_neg (nt c5)]
            exact tHalf_p42 t c1 c2 c3 c4 c5

theorem tHalf_w (t : Tone) (w_t : Tone.ok t) : Tone.ok (tHalf t) := by
  rcases bt ((t.kind : Int) == 2) with c1 | c1
  ·
    rcases bt (decide ((t.length : Int) > 0)) with c2 | c2
    ·
      rcases bt (((bAnd .u8 (t.reg 0) 128) : Int) == 0) with c3 | c3
      ·
        rcases bt (decide ((t.kind : Int) > 1)) with c4 | c4
        ·
          rw [tHalf, if_pos c1, if_pos c2, if_pos c3, if_pos c4]
          exact (⟨w_t.kind, w_t.reg, (rng_wrap_u8 (t.length - 1)), w_t.period, w_t.timer, w_t.step, w_t.level, w_t.count, w_t.sweep, w_t.line, w_t.row⟩ : Tone.ok ({ t with length := (IntKind.u8.wrap (t.length - 1)) } : Tone))
        ·
          rcases bt ((t.sweep : Int) == 0) with c5 | c5
          ·
            rcases bt (((bAnd .u8 (t.reg 1) 128) : Int) != 0) with c6 | c6
            ·
              rcases bt (((bAnd .u8 (t.reg 1) 7) : Int) != 0) with c7 | c7
              ·
                rcases bt (!(tMute ({ t with length := (IntKind.u8.wrap (t.length - 1)) } : Tone))) with c8 | c8
                ·
                  rw [tHalf, if_pos c1, if_pos c2, if_pos c3, if_neg (nt c4), if_pos c5, if_pos c6, if_pos c7, if_pos c8]
                  exact (⟨w_t.kind, w_t.reg, (rng_wrap_u8 (t.length - 1)), (tTarget_w ({ t with length := (IntKind.u8.wrap (t.length - 1)) } : Tone) (⟨w_t.kind, w_t.reg, (rng_wrap_u8 (t.length - 1)), w_t.period, w_t.timer, w_t.step, w_t.level, w_t.count, w_t.sweep, w_t.line, w_t.row⟩ : Tone.ok ({ t with length := (IntKind.u8.wrap (t.length - 1)) } : Tone))), w_t.timer, w_t.step, w_t.level, w_t.count, (rng_bAnd_u8 (bShr .u8 (t.reg 1) 4) 7), w_t.line, w_t.row⟩ : Tone.ok ({ t with length := (IntKind.u8.wrap (t.length - 1)), period := (tTarget ({ t with length := (IntKind.u8.wrap (t.length - 1)) } : Tone)), sweep := (bAnd .u8 (bShr .u8 (t.reg 1) 4) 7), swept := false } : Tone))
                ·
                  rw [tHalf, if_pos c1, if_pos c2, if_pos c3, if_neg (nt c4), if_pos c5, if_pos c6, if_pos c7, if_neg (nt c8)]
                  exact (⟨w_t.kind, w_t.reg, (rng_wrap_u8 (t.length - 1)), w_t.period, w_t.timer, w_t.step, w_t.level, w_t.count, (rng_bAnd_u8 (bShr .u8 (t.reg 1) 4) 7), w_t.line, w_t.row⟩ : Tone.ok ({ t with length := (IntKind.u8.wrap (t.length - 1)), sweep := (bAnd .u8 (bShr .u8 (t.reg 1) 4) 7), swept := false } : Tone))
              ·
                rw [tHalf, if_pos c1, if_pos c2, if_pos c3, if_neg (nt c4), if_pos c5, if_pos c6, if_neg (nt c7)]
                exact (⟨w_t.kind, w_t.reg, (rng_wrap_u8 (t.length - 1)), w_t.period, w_t.timer, w_t.step, w_t.level, w_t.count, (rng_bAnd_u8 (bShr .u8 (t.reg 1) 4) 7), w_t.line, w_t.row⟩ : Tone.ok ({ t with length := (IntKind.u8.wrap (t.length - 1)), sweep := (bAnd .u8 (bShr .u8 (t.reg 1) 4) 7), swept := false } : Tone))
            ·
              rw [tHalf, if_pos c1, if_pos c2, if_pos c3, if_neg (nt c4), if_pos c5, if_neg (nt c6)]
              exact (⟨w_t.kind, w_t.reg, (rng_wrap_u8 (t.length - 1)), w_t.period, w_t.timer, w_t.step, w_t.level, w_t.count, (rng_bAnd_u8 (bShr .u8 (t.reg 1) 4) 7), w_t.line, w_t.row⟩ : Tone.ok ({ t with length := (IntKind.u8.wrap (t.length - 1)), sweep := (bAnd .u8 (bShr .u8 (t.reg 1) 4) 7), swept := false } : Tone))
          ·
            rcases bt t.swept with c6 | c6
            ·
              rw [tHalf, if_pos c1, if_pos c2, if_pos c3, if_neg (nt c4), if_neg (nt c5), if_pos c6]
              exact (⟨w_t.kind, w_t.reg, (rng_wrap_u8 (t.length - 1)), w_t.period, w_t.timer, w_t.step, w_t.level, w_t.count, (rng_bAnd_u8 (bShr .u8 (t.reg 1) 4) 7), w_t.line, w_t.row⟩ : Tone.ok ({ t with length := (IntKind.u8.wrap (t.length - 1)), sweep := (bAnd .u8 (bShr .u8 (t.reg 1) 4) 7), swept := false } : Tone))
            ·
              rw [tHalf, if_pos c1, if_pos c2, if_pos c3, if_neg (nt c4), if_neg (nt c5), if_neg (nt c6)]
              exact (⟨w_t.kind, w_t.reg, (rng_wrap_u8 (t.length - 1)), w_t.period, w_t.timer, w_t.step, w_t.level, w_t.count, (rng_wrap_u8 (t.sweep - 1)), w_t.line, w_t.row⟩ : Tone.ok ({ t with length := (IntKind.u8.wrap (t.length - 1)), sweep := (IntKind.u8.wrap (t.sweep - 1)) } : Tone))
      ·
        rcases bt (decide ((t.kind : Int) > 1)) with c4 | c4
        ·
          rw [tHalf, if_pos c1, if_pos c2, if_neg (nt c3), if_pos c4]
          exact w_t
        ·
          rcases bt ((t.sweep : Int) == 0) with c5 | c5
          ·
            rcases bt (((bAnd .u8 (t.reg 1) 128) : Int) != 0) with c6 | c6
            ·
              rcases bt (((bAnd .u8 (t.reg 1) 7) : Int) != 0) with c7 | c7
              ·
                rcases bt (!(tMute t)) with c8 | c8
                ·
                  rw [tHalf, if_pos c1, if_pos c2, if_neg (nt c3), if_neg (nt c4), if_pos c5, if_pos c6, if_pos c7, if_pos c8]
                  exact (⟨w_t.kind, w_t.reg, w_t.length, (tTarget_w t w_t), w_t.timer, w_t.step, w_t.level, w_t.count, (rng_bAnd_u8 (bShr .u8 (t.reg 1) 4) 7), w_t.line, w_t.row⟩ : Tone.ok ({ t with period := (tTarget t), sweep := (bAnd .u8 (bShr .u8 (t.reg 1) 4) 7), swept := false } : Tone))
                ·
                  rw [tHalf, if_pos c1, if_pos c2, if_neg (nt c3), if_neg (nt c4), if_pos c5, if_pos c6, if_pos c7, if_neg (nt c8)]
                  exact (⟨w_t.kind, w_t.reg, w_t.length, w_t.period, w_t.timer, w_t.step, w_t.level, w_t.count, (rng_bAnd_u8 (bShr .u8 (t.reg 1) 4) 7), w_t.line, w_t.row⟩ : Tone.ok ({ t with sweep := (bAnd .u8 (bShr .u8 (t.reg 1) 4) 7), swept := false } : Tone))
              ·
                rw [tHalf, if_pos c1, if_pos c2, if_neg (nt c3), if_neg (nt c4), if_pos c5, if_pos c6, if_neg (nt c7)]
                exact (⟨w_t.kind, w_t.reg, w_t.length, w_t.period, w_t.timer, w_t.step, w_t.level, w_t.count, (rng_bAnd_u8 (bShr .u8 (t.reg 1) 4) 7), w_t.line, w_t.row⟩ : Tone.ok ({ t with sweep := (bAnd .u8 (bShr .u8 (t.reg 1) 4) 7), swept := false } : Tone))
            ·
              rw [tHalf, if_pos c1, if_pos c2, if_neg (nt c3), if_neg (nt c4), if_pos c5, if_neg (nt c6)]
              exact (⟨w_t.kind, w_t.reg, w_t.length, w_t.period, w_t.timer, w_t.step, w_t.level, w_t.count, (rng_bAnd_u8 (bShr .u8 (t.reg 1) 4) 7), w_t.line, w_t.row⟩ : Tone.ok ({ t with sweep := (bAnd .u8 (bShr .u8 (t.reg 1) 4) 7), swept := false } : Tone))
          ·
            rcases bt t.swept with c6 | c6
            ·
              rw [tHalf, if_pos c1, if_pos c2, if_neg (nt c3), if_neg (nt c4), if_neg (nt c5), if_pos c6]
              exact (⟨w_t.kind, w_t.reg, w_t.length, w_t.period, w_t.timer, w_t.step, w_t.level, w_t.count, (rng_bAnd_u8 (bShr .u8 (t.reg 1) 4) 7), w_t.line, w_t.row⟩ : Tone.ok ({ t with sweep := (bAnd .u8 (bShr .u8 (t.reg 1) 4) 7), swept := false } : Tone))
            ·
              rw [tHalf, if_pos c1, if_pos c2, if_neg (nt c3), if_neg (nt c4), if_neg (nt c5), if_neg (nt c6)]
              exact (⟨w_t.kind, w_t.reg, w_t.length, w_t.period, w_t.timer, w_t.step, w_t.level, w_t.count, (rng_wrap_u8 (t.sweep - 1)), w_t.line, w_t.row⟩ : Tone.ok ({ t with sweep := (IntKind.u8.wrap (t.sweep - 1)) } : Tone))
    ·
      rcases bt (decide ((t.kind : Int) > 1)) with c3 | c3
      ·
        rw [tHalf, if_pos c1, if_neg (nt c2), if_pos c3]
        exact w_t
      ·
        rcases bt ((t.sweep : Int) == 0) with c4 | c4
        ·
          rcases bt (((bAnd .u8 (t.reg 1) 128) : Int) != 0) with c5 | c5
          ·
            rcases bt (((bAnd .u8 (t.reg 1) 7) : Int) != 0) with c6 | c6
            ·
              rcases bt (!(tMute t)) with c7 | c7
              ·
                rw [tHalf, if_pos c1, if_neg (nt c2), if_neg (nt c3), if_pos c4, if_pos c5, if_pos c6, if_pos c7]
                exact (⟨w_t.kind, w_t.reg, w_t.length, (tTarget_w t w_t), w_t.timer, w_t.step, w_t.level, w_t.count, (rng_bAnd_u8 (bShr .u8 (t.reg 1) 4) 7), w_t.line, w_t.row⟩ : Tone.ok ({ t with period := (tTarget t), sweep := (bAnd .u8 (bShr .u8 (t.reg 1) 4) 7), swept := false } : Tone))
              ·
                rw [tHalf, if_pos c1, if_neg (nt c2), if_neg (nt c3), if_pos c4, if_pos c5, if_pos c6, if_neg (nt c7)]
                exact (⟨w_t.kind, w_t.reg, w_t.length, w_t.period, w_t.timer, w_t.step, w_t.level, w_t.count, (rng_bAnd_u8 (bShr .u8 (t.reg 1) 4) 7), w_t.line, w_t.row⟩ : Tone.ok ({ t with sweep := (bAnd .u8 (bShr .u8 (t.reg 1) 4) 7), swept := false } : Tone))
            ·
              rw [tHalf, if_pos c1, if_neg (nt c2), if_neg (nt c3), if_pos c4, if_pos c5, if_neg (nt c6)]
              exact (⟨w_t.kind, w_t.reg, w_t.length, w_t.period, w_t.timer, w_t.step, w_t.level, w_t.count, (rng_bAnd_u8 (bShr .u8 (t.reg 1) 4) 7), w_t.line, w_t.row⟩ : Tone.ok ({ t with sweep := (bAnd .u8 (bShr .u8 (t.reg 1) 4) 7), swept := false } : Tone))
          ·
            rw [tHalf, if_pos c1, if_neg (nt c2), if_neg (nt c3), if_pos c4, if_neg (nt c5)]
            exact (⟨w_t.kind, w_t.reg, w_t.length, w_t.period, w_t.timer, w_t.step, w_t.level, w_t.count, (rng_bAnd_u8 (bShr .u8 (t.reg 1) 4) 7), w_t.line, w_t.row⟩ : Tone.ok ({ t with sweep := (bAnd .u8 (bShr .u8 (t.reg 1) 4) 7), swept := false } : Tone))
        ·
          rcases bt t.swept with c5 | c5
          ·
            rw [tHalf, if_pos c1, if_neg (nt c2), if_neg (nt c3), if_neg (nt c4), if_pos c5]
            exact (⟨w_t.kind, w_t.reg, w_t.length, w_t.period, w_t.timer, w_t.step, w_t.level, w_t.count, (rng_bAnd_u8 (bShr .u8 (t.reg 1) 4) 7), w_t.line, w_t.row⟩ : Tone.ok ({ t with sweep := (bAnd .u8 (bShr .u8 (t.reg 1) 4) 7), swept := false } : Tone))
          ·
            rw [tHalf, if_pos c1, if_neg (nt c2), if_neg (nt c3), if_neg (nt c4), if_neg (nt c5)]
            exact (⟨w_t.kind, w_t.reg, w_t.length, w_t.period, w_t.timer, w_t.step, w_t.level, w_t.count, (rng_wrap_u8 (t.sweep - 1)), w_t.line, w_t.row⟩ : Tone.ok ({ t with sweep := (IntKind.u8.wrap (t.sweep - 1)) } : Tone))
  ·
    rcases bt (decide ((t.length : Int) > 0)) with c2 | c2
    ·
      rcases bt (((bAnd .u8 (t.reg 0) 32) : Int) == 0) with c3 | c3
      ·
        rcases bt (decide ((t.kind : Int) > 1)) with c4 | c4
        ·
          rw [tHalf, if_neg (nt c1), if_pos c2, if_pos c3, if_pos c4]
          exact (⟨w_t.kind, w_t.reg, (rng_wrap_u8 (t.length - 1)), w_t.period, w_t.timer, w_t.step, w_t.level, w_t.count, w_t.sweep, w_t.line, w_t.row⟩ : Tone.ok ({ t with length := (IntKind.u8.wrap (t.length - 1)) } : Tone))
        ·
          rcases bt ((t.sweep : Int) == 0) with c5 | c5
          ·
            rcases bt (((bAnd .u8 (t.reg 1) 128) : Int) != 0) with c6 | c6
            ·
              rcases bt (((bAnd .u8 (t.reg 1) 7) : Int) != 0) with c7 | c7
              ·
                rcases bt (!(tMute ({ t with length := (IntKind.u8.wrap (t.length - 1)) } : Tone))) with c8 | c8
                ·
                  rw [tHalf, if_neg (nt c1), if_pos c2, if_pos c3, if_neg (nt c4), if_pos c5, if_pos c6, if_pos c7, if_pos c8]
                  exact (⟨w_t.kind, w_t.reg, (rng_wrap_u8 (t.length - 1)), (tTarget_w ({ t with length := (IntKind.u8.wrap (t.length - 1)) } : Tone) (⟨w_t.kind, w_t.reg, (rng_wrap_u8 (t.length - 1)), w_t.period, w_t.timer, w_t.step, w_t.level, w_t.count, w_t.sweep, w_t.line, w_t.row⟩ : Tone.ok ({ t with length := (IntKind.u8.wrap (t.length - 1)) } : Tone))), w_t.timer, w_t.step, w_t.level, w_t.count, (rng_bAnd_u8 (bShr .u8 (t.reg 1) 4) 7), w_t.line, w_t.row⟩ : Tone.ok ({ t with length := (IntKind.u8.wrap (t.length - 1)), period := (tTarget ({ t with length := (IntKind.u8.wrap (t.length - 1)) } : Tone)), sweep := (bAnd .u8 (bShr .u8 (t.reg 1) 4) 7), swept := false } : Tone))
                ·
                  rw [tHalf, if_neg (nt c1), if_pos c2, if_pos c3, if_neg (nt c4), if_pos c5, if_pos c6, if_pos c7, if_neg (nt c8)]
                  exact (⟨w_t.kind, w_t.reg, (rng_wrap_u8 (t.length - 1)), w_t.period, w_t.timer, w_t.step, w_t.level, w_t.count, (rng_bAnd_u8 (bShr .u8 (t.reg 1) 4) 7), w_t.line, w_t.row⟩ : Tone.ok ({ t with length := (IntKind.u8.wrap (t.length - 1)), sweep := (bAnd .u8 (bShr .u8 (t.reg 1) 4) 7), swept := false } : Tone))
              ·
                rw [tHalf, if_neg (nt c1), if_pos c2, if_pos c3, if_neg (nt c4), if_pos c5, if_pos c6, if_neg (nt c7)]
                exact (⟨w_t.kind, w_t.reg, (rng_wrap_u8 (t.length - 1)), w_t.period, w_t.timer, w_t.step, w_t.level, w_t.count, (rng_bAnd_u8 (bShr .u8 (t.reg 1) 4) 7), w_t.line, w_t.row⟩ : Tone.ok ({ t with length := (IntKind.u8.wrap (t.length - 1)), sweep := (bAnd .u8 (bShr .u8 (t.reg 1) 4) 7), swept := false } : Tone))
            ·
              rw [tHalf, if_neg (nt c1), if_pos c2, if_pos c3, if_neg (nt c4), if_pos c5, if_neg (nt c6)]
              exact (⟨w_t.kind, w_t.reg, (rng_wrap_u8 (t.length - 1)), w_t.period, w_t.timer, w_t.step, w_t.level, w_t.count, (rng_bAnd_u8 (bShr .u8 (t.reg 1) 4) 7), w_t.line, w_t.row⟩ : Tone.ok ({ t with length := (IntKind.u8.wrap (t.length - 1)), sweep := (bAnd .u8 (bShr .u8 (t.reg 1) 4) 7), swept := false } : Tone))
          ·
            rcases bt t.swept with c6 | c6
            ·
              rw [tHalf, if_neg (nt c1), if_pos c2, if_pos c3, if_neg (nt c4), if_neg (nt c5), if_pos c6]
              exact (⟨w_t.kind, w_t.reg, (rng_wrap_u8 (t.length - 1)), w_t.period, w_t.timer, w_t.step, w_t.level, w_t.count, (rng_bAnd_u8 (bShr .u8 (t.reg 1) 4) 7), w_t.line, w_t.row⟩ : Tone.ok ({ t with length := (IntKind.u8.wrap (t.length - 1)), sweep := (bAnd .u8 (bShr .u8 (t.reg 1) 4) 7), swept := false } : Tone))
            ·
              rw [tHalf, if_neg (nt c1), if_pos c2, if_pos c3, if_neg (nt c4), if_neg (nt c5), if_neg (nt c6)]
              exact (⟨w_t.kind, w_t.reg, (rng_wrap_u8 (t.length - 1)), w_t.period, w_t.timer, w_t.step, w_t.level, w_t.count, (rng_wrap_u8 (t.sweep - 1)), w_t.line, w_t.row⟩ : Tone.ok ({ t with length := (IntKind.u8.wrap (t.length - 1)), sweep := (IntKind.u8.wrap (t.sweep - 1)) } : Tone))
      ·
        rcases bt (decide ((t.kind : Int) > 1)) with c4 | c4
        ·
          rw [tHalf, if_neg (nt c1), if_pos c2, if_neg (nt c3), if_pos c4]
          exact w_t
        ·
          rcases bt ((t.sweep : Int) == 0) with c5 | c5
          ·
            rcases bt (((bAnd .u8 (t.reg 1) 128) : Int) != 0) with c6 | c6
            ·
              rcases bt (((bAnd .u8 (t.reg 1) 7) : Int) != 0) with c7 | c7
              ·
                rcases bt (!(tMute t)) with c8 | c8
                ·
                  rw [tHalf, if_neg (nt c1), if_pos c2, if_neg (nt c3), if_neg (nt c4), if_pos c5, if_pos c6, if_pos c7, if_pos c8]
                  exact (⟨w_t.kind, w_t.reg, w_t.length, (tTarget_w t w_t), w_t.timer, w_t.step, w_t.level, w_t.count, (rng_bAnd_u8 (bShr .u8 (t.reg 1) 4) 7), w_t.line, w_t.row⟩ : Tone.ok ({ t with period := (tTarget t), sweep := (bAnd .u8 (bShr .u8 (t.reg 1) 4) 7), swept := false } : Tone))
                ·
                  rw [tHalf, if_neg (nt c1), if_pos c2, if_neg (nt c3), if_neg (nt c4), if_pos c5, if_pos c6, if_pos c7, if_neg (nt c8)]
                  exact (⟨w_t.kind, w_t.reg, w_t.length, w_t.period, w_t.timer, w_t.step, w_t.level, w_t.count, (rng_bAnd_u8 (bShr .u8 (t.reg 1) 4) 7), w_t.line, w_t.row⟩ : Tone.ok ({ t with sweep := (bAnd .u8 (bShr .u8 (t.reg 1) 4) 7), swept := false } : Tone))
              ·
                rw [tHalf, if_neg (nt c1), if_pos c2, if_neg (nt c3), if_neg (nt c4), if_pos c5, if_pos c6, if_neg (nt c7)]
                exact (⟨w_t.kind, w_t.reg, w_t.length, w_t.period, w_t.timer, w_t.step, w_t.level, w_t.count, (rng_bAnd_u8 (bShr .u8 (t.reg 1) 4) 7), w_t.line, w_t.row⟩ : Tone.ok ({ t with sweep := (bAnd .u8 (bShr .u8 (t.reg 1) 4) 7), swept := false } : Tone))
            ·
              rw [tHalf, if_neg (nt c1), if_pos c2, if_neg (nt c3), if_neg (nt c4), if_pos c5, if_neg (nt c6)]
              exact (⟨w_t.kind, w_t.reg, w_t.length, w_t.period, w_t.timer, w_t.step, w_t.level, w_t.count, (rng_bAnd_u8 (bShr .u8 (t.reg 1) 4) 7), w_t.line, w_t.row⟩ : Tone.ok ({ t with sweep := (bAnd .u8 (bShr .u8 (t.reg 1) 4) 7), swept := false } : Tone))
          ·
            rcases bt t.swept with c6 | c6
            ·
              rw [tHalf, if_neg (nt c1), if_pos c2, if_neg (nt c3), if_neg (nt c4), if_neg (nt c5), if_pos c6]
              exact (⟨w_t.kind, w_t.reg, w_t.length, w_t.period, w_t.timer, w_t.step, w_t.level, w_t.count, (rng_bAnd_u8 (bShr .u8 (t.reg 1) 4) 7), w_t.line, w_t.row⟩ : Tone.ok ({ t with sweep := (bAnd .u8 (bShr .u8 (t.reg 1) 4) 7), swept := false } : Tone))
            ·
              rw [tHalf, if_neg (nt c1), if_pos c2, if_neg (nt c3), if_neg (nt c4), if_neg (nt c5), if_neg (nt c6)]
              exact (⟨w_t.kind, w_t.reg, w_t.length, w_t.period, w_t.timer, w_t.step, w_t.level, w_t.count, (rng_wrap_u8 (t.sweep - 1)), w_t.line, w_t.row⟩ : Tone.ok ({ t with sweep := (IntKind.u8.wrap (t.sweep - 1)) } : Tone))
    ·
      rcases bt (decide ((t.kind : Int) > 1)) with c3 | c3
      ·
        rw [tHalf, if_neg (nt c1), if_neg (nt c2), if_pos c3]
        exact w_t
      ·
        rcases bt ((t.sweep : Int) == 0) with c4 | c4
        ·
          rcases bt (((bAnd .u8 (t.reg 1) 128) : Int) != 0) with c5 | c5
          ·
            rcases bt (((bAnd .u8 (t.reg 1) 7) : Int) != 0) with c6 | c6
            ·
              rcases bt (!(tMute t)) with c7 | c7
              ·
                rw [tHalf, if_neg (nt c1), if_neg (nt c2), if_neg (nt c3), if_pos c4, if_pos c5, if_pos c6, if_pos c7]
                exact (⟨w_t.kind, w_t.reg, w_t.length, (tTarget_w t w_t), w_t.timer, w_t.step, w_t.level, w_t.count, (rng_bAnd_u8 (bShr .u8 (t.reg 1) 4) 7), w_t.line, w_t.row⟩ : Tone.ok ({ t with period := (tTarget t), sweep := (bAnd .u8 (bShr .u8 (t.reg 1) 4) 7), swept := false } : Tone))
              ·
                rw [tHalf, if_neg (nt c1), if_neg (nt c2), if_neg (nt c3), if_pos c4, if_pos c5, if_pos c6, if_neg (nt c7)]
                exact (⟨w_t.kind, w_t.reg, w_t.length, w_t.period, w_t.timer, w_t.step, w_t.level, w_t.count, (rng_bAnd_u8 (bShr .u8 (t.reg 1) 4) 7), w_t.line, w_t.row⟩ : Tone.ok ({ t with sweep := (bAnd .u8 (bShr .u8 (t.reg 1) 4) 7), swept := false } : Tone))
            ·
              rw [tHalf, if_neg (nt c1), if_neg (nt c2), if_neg (nt c3), if_pos c4, if_pos c5, if_neg (nt c6)]
              exact (⟨w_t.kind, w_t.reg, w_t.length, w_t.period, w_t.timer, w_t.step, w_t.level, w_t.count, (rng_bAnd_u8 (bShr .u8 (t.reg 1) 4) 7), w_t.line, w_t.row⟩ : Tone.ok ({ t with sweep := (bAnd .u8 (bShr .u8 (t.reg 1) 4) 7), swept := false } : Tone))
          ·
            rw [tHalf, if_neg (nt c1), if_neg (nt c2), if_neg (nt c3), if_pos c4, if_neg (nt c5)]
            exact (⟨w_t.kind, w_t.reg, w_t.length, w_t.period, w_t.timer, w_t.step, w_t.level, w_t.count, (rng_bAnd_u8 (bShr .u8 (t.reg 1) 4) 7), w_t.line, w_t.row⟩ : Tone.ok ({ t with sweep := (bAnd .u8 (bShr .u8 (t.reg 1) 4) 7), swept := false } : Tone))
        ·
          rcases bt t.swept with c5 | c5
          ·
            rw [tHalf, if_neg (nt c1), if_neg (nt c2), if_neg (nt c3), if_neg (nt c4), if_pos c5]
            exact (⟨w_t.kind, w_t.reg, w_t.length, w_t.period, w_t.timer, w_t.step, w_t.level, w_t.count, (rng_bAnd_u8 (bShr .u8 (t.reg 1) 4) 7), w_t.line, w_t.row⟩ : Tone.ok ({ t with sweep := (bAnd .u8 (bShr .u8 (t.reg 1) 4) 7), swept := false } : Tone))
          ·
            rw [tHalf, if_neg (nt c1), if_neg (nt c2), if_neg (nt c3), if_neg (nt c4), if_neg (nt c5)]
            exact (⟨w_t.kind, w_t.reg, w_t.length, w_t.period, w_t.timer, w_t.step, w_t.level, w_t.count, (rng_wrap_u8 (t.sweep - 1)), w_t.line, w_t.row⟩ : Tone.ok ({ t with sweep := (IntKind.u8.wrap (t.sweep - 1)) } : Tone))

/-- (*kotatsu/tone.Tone).volume -/
def tVolume (t : Tone) : Int :=
  if (((bAnd .u8 (t.reg 0) 16) : Int) != 0) = true then
    (bAnd .u8 (t.reg 0) 15)
  else
    t.level
theorem tVolume_p1 (t : Tone) (c1 : (((bAnd .u8 (t.reg 0) 16) : Int) != 0) = true) : FnSpec Tryd.prog 61 1001 [.pointer (some ⟨1000, 0, none⟩)] [(1000, (Tone.blk t).lend)] (.int .u8 (bAnd .u8 (t.reg 0) 15)) [] := by
  exact fn_of_x hG hM Tryd.func61 (by kernel_rfl) (by kernel_rfl) 400 [.lit 0, .yes, .lit 0] (J (Eq.refl (0 : Int)) (J (by decide : 0 < 4) (J c1 (J (Eq.refl (0 : Int)) (J (by decide : 0 < 4) trivial))))) (by kernel_rfl)
theorem tVolume_p2 (t : Tone) (c1 : (((bAnd .u8 (t.reg 0) 16) : Int) != 0) = false) : FnSpec Tryd.prog 61 1001 [.pointer (some ⟨1000, 0, none⟩)] [(1000, (Tone.blk t).lend)] (.int .u8 t.level) [] := by
  exact fn_of_x hG hM Tryd.func61 (by kernel_rfl) (by kernel_rfl) 400 [.lit 0, .no] (J (Eq.refl (0 : Int)) (J (by decide : 0 < 4) (J c1 trivial))) (by kernel_rfl)
theorem tVolume_ok (t : Tone) : FnSpec Tryd.prog 61 1001 [.pointer (some ⟨1000, 0, none⟩)] [(1000, (Tone.blk t).lend)] (.int .u8 (tVolume t)) [] := by
  rcases bt (((bAnd .u8 (t.reg 0) 16) : Int) != 0) with c1 | c1
  ·
    rw [tVolume, if_pos c1]
    exact tVolume_p1 t c1
  ·
    rw [tVolume, if_neg (nt c1)]
    exact tVolume_p2 t c1

theorem tVolume_w (t : Tone) (w_t : Tone.ok t) : rng 256 (tVolume t) := by
  rcases bt (((bAnd .u8 (t.reg 0) 16) : Int) != 0) with c1 | c1
  ·
    rw [tVolume, if_pos c1]
    exact (rng_bAnd_u8 (t.reg 0) 15)
  ·
    rw [tVolume, if_neg (nt c1)]
    exact w_t.level

/-- (*kotatsu/tone.Tone).Out -/
def tOut (t : Tone) : Int :=
  if ((t.kind : Int) == 2) = true then
    if (decide ((t.step : Int) < 16)) = true then
      (IntKind.u8.wrap (15 - t.step))
    else
      (IntKind.u8.wrap (t.step - 16))
  else
    if ((t.length : Int) == 0) = true then
      0
    else
      if ((t.kind : Int) == 3) = true then
        if (((bAnd .u16 t.row 1) : Int) != 0) = true then
          0
        else
          if ((t.kind : Int) != 3) = true then
            if (tMute t) = true then
              0
            else
              if (((bAnd .u8 (bShl .u8 (dutiesT (Int.toNat (bShr .u8 (t.reg 0) 6))) t.step) 128) : Int) == 0) = true then
                0
              else
                (tVolume t)
          else
            (tVolume t)
      else
        if ((t.kind : Int) != 3) = true then
          if (tMute t) = true then
            0
          else
            if (((bAnd .u8 (bShl .u8 (dutiesT (Int.toNat (bShr .u8 (t.reg 0) 6))) t.step) 128) : Int) == 0) = true then
              0
            else
              (tVolume t)
        else
          (tVolume t)
theorem tOut_p1 (t : Tone) (w_t : Tone.ok t) (c1 : ((t.kind : Int) == 2) = true) (c2 : (decide ((t.step : Int) < 16)) = true) : FnSpec Tryd.prog 40 1001 [.pointer (some ⟨1000, 0, none⟩)] [tb3, (1000, (Tone.blk t).lend)] (.int .u8 (IntKind.u8.wrap (15 - t.step))) [] := by
  exact fn_of_x hG hM Tryd.func40 (by kernel_rfl) (by kernel_rfl) 400 [.no, .yes, .yes, .yes, .yes, .yes, .yes, .yes] (J (Eq.refl false) (J c1 (J c1 (J c1 (J c1 (J c1 (J c1 (J c2 trivial)))))))) (by kernel_rfl)
theorem tOut_p2 (t : Tone) (w_t : Tone.ok t) (c1 : ((t.kind : Int) == 2) = true) (c2 : (decide ((t.step : Int) < 16)) = false) : FnSpec Tryd.prog 40 1001 [.pointer (some ⟨1000, 0, none⟩)] [tb3, (1000, (Tone.blk t).lend)] (.int .u8 (IntKind.u8.wrap (t.step - 16))) [] := by
  exact fn_of_x hG hM Tryd.func40 (by kernel_rfl) (by kernel_rfl) 400 [.no, .yes, .yes, .yes, .yes, .yes, .yes, .no, .yes] (J (Eq.refl false) (J c1 (J c1 (J c1 (J c1 (J c1 (J c1 (J c2 (J c1 trivial))))))))) (by kernel_rfl)
theorem tOut_p3 (t : Tone) (w_t : Tone.ok t) (c1 : ((t.kind : Int) == 2) = false) (c2 : ((t.length : Int) == 0) = true) : FnSpec Tryd.prog 40 1001 [.pointer (some ⟨1000, 0, none⟩)] [tb3, (1000, (Tone.blk t).lend)] (.int .u8 0) [] := by
  exact fn_of_x hG hM Tryd.func40 (by kernel_rfl) (by kernel_rfl) 400 [.no, .no, .no, .no, .no, .no, .no, .no, .no, .yes] (J (Eq.refl false) (J c1 (J c1 (J c1 (J c1 (J c1 (J c1 (J (Eq.refl false) (J c1 (J c2 trivial)))))))))) (by kernel_rfl)
theorem tOut_p4 (t : Tone) (w_t : Tone.ok t) (c1 : ((t.kind : Int) == 2) = false) (c2 : ((t.length : Int) == 0) = false) (c3 : ((t.kind : Int) == 3) = true) (c4 : (((bAnd .u16 t.row 1) : Int) != 0) = true) : FnSpec Tryd.prog 40 1001 [.pointer (some ⟨1000, 0, none⟩)] [tb3, (1000, (Tone.blk t).lend)] (.int .u8 0) [] := by
  exact fn_of_x hG hM Tryd.func40 (by kernel_rfl) (by kernel_rfl) 400 [.no, .no, .no, .no, .no, .no, .no, .no, .no, .no, .yes, .yes, .yes, .yes, .yes, .yes, .yes, .yes] (J (Eq.refl false) (J c1 (J c1 (J c1 (J c1 (J c1 (J c1 (J (Eq.refl false) (J c1 (J c2 (J c3 (J c3 (J c3 (J c3 (J c3 (J c3 (J c3 (J c4 trivial)))))))))))))))))) (by kernel_rfl)
theorem tOut_p5 (t : Tone) (w_t : Tone.ok t) (c1 : ((t.kind : Int) == 2) = false) (c2 : ((t.length : Int) == 0) = false) (c3 : ((t.kind : Int) == 3) = true) (c4 : (((bAnd .u16 t.row 1) : Int) != 0) = false) (c5 : ((t.kind : Int) != 3) = true) (c6 : (tMute t) = true) : FnSpec Tryd.prog 40 1001 [.pointer (some ⟨1000, 0, none⟩)] [tb3, (1000, (Tone.blk t).lend)] (.int .u8 0) [] := by
  exact fn_of_x hG hM Tryd.func40 (by kernel_rfl) (by kernel_rfl) 400 [.no, .no, .no, .no, .no, .no, .no, .no, .no, .no, .yes, .yes, .yes, .yes, .yes, .yes, .yes, .no, .yes, .yes, .call [(1000, 1000)] [] 1001 (.bool (tMute t)) [], .yes, .yes, .yes, .yes, .yes, .yes, .yes, .yes, .yes, .yes, .yes, .yes, .yes, .yes, .yes, .yes, .yes, .yes, .yes, .yes] (J (Eq.refl false) (J c1 (J c1 (J c1 (J c1 (J c1 (J c1 (J (Eq.refl false) (J c1 (J c2 (J c3 (J c3 (J c3 (J c3 (J c3 (J c3 (J c3 (J c4 (J c5 (J c5 (J (tMute_ok t) (J c5 (J c6 (J c6 (J c6 (J c6 (J c6 (J c6 (J c6 (J c6 (J c6 (J c6 (J c6 (J c6 (J c6 (J c6 (J c6 (J c5 (J c6 (J c5 (J (Eq.refl true) trivial))))))))))))))))))))))))))))))))))))))))) (by kernel_rfl)
theorem tOut_p6 (t : Tone) (w_t : Tone.ok t) (c1 : ((t.kind : Int) == 2) = false) (c2 : ((t.length : Int) == 0) = false) (c3 : ((t.kind : Int) == 3) = true) (c4 : (((bAnd .u16 t.row 1) : Int) != 0) = false) (c5 : ((t.kind : Int) != 3) = true) (c6 : (tMute t) = false) (c7 : (((bAnd .u8 (bShl .u8 (dutiesT (Int.toNat (bShr .u8 (t.reg 0) 6))) t.step) 128) : Int) == 0) = true) : FnSpec Tryd.prog 40 1001 [.pointer (some ⟨1000, 0, none⟩)] [tb3, (1000, (Tone.blk t).lend)] (.int .u8 0) [] := by
  exact fn_of_x hG hM Tryd.func40 (by kernel_rfl) (by kernel_rfl) 400 [.no, .no, .no, .no, .no, .no, .no, .no, .no, .no, .yes, .yes, .yes, .yes, .yes, .yes, .yes, .no, .yes, .yes, .call [(1000, 1000)] [] 1001 (.bool (tMute t)) [], .yes, .no, .no, .no, .no, .lit 0, .no, .no, .no, .sym, .no, .no, .no, .no, .no, .no, .no, .no, .yes, .no, .yes, .yes] (J (Eq.refl false) (J c1 (J c1 (J c1 (J c1 (J c1 (J c1 (J (Eq.refl false) (J c1 (J c2 (J c3 (J c3 (J c3 (J c3 (J c3 (J c3 (J c3 (J c4 (J c5 (J c5 (J (tMute_ok t) (J c5 (J c6 (J c6 (J c6 (J c6 (J (Eq.refl (0 : Int)) (J (by decide : 0 < 4) (J c6 (J c6 (J (by decide : (0 : Int) ≤ 6) (J c6 (J (rng_shr_lit (m := 256) (n := 4) (a := (t.reg 0)) (k := .u8) (b := 6) (w_t.reg 0) (by decide)) (J c6 (J (toNat_lt (rng_shr_lit (m := 256) (n := 4) (a := (t.reg 0)) (k := .u8) (b := 6) (w_t.reg 0) (by decide))) (J c6 (J c6 (J c6 (J c6 (J c6 (J w_t.step.1 (J c6 (J c6 (J c5 (J c6 (J c5 (J c7 trivial))))))))))))))))))))))))))))))))))))))))))))))) (by kernel_rfl)
theorem tOut_p7 (t : Tone) (w_t : Tone.ok t) (c1 : ((t.kind : Int) == 2) = false) (c2 : ((t.length : Int) == 0) = false) (c3 : ((t.kind : Int) == 3) = true) (c4 : (((bAnd .u16 t.row 1) : Int) != 0) = false) (c5 : ((t.kind : Int) != 3) = true) (c6 : (tMute t) = false) (c7 : (((bAnd .u8 (bShl .u8 (dutiesT (Int.toNat (bShr .u8 (t.reg 0) 6))) t.step) 128) : Int) == 0) = false) : FnSpec Tryd.prog 40 1001 [.pointer (some ⟨1000, 0, none⟩)] [tb3, (1000, (Tone.blk t).lend)] (.int .u8 (tVolume t)) [] := by
  exact fn_of_x hG hM Tryd.func40 (by kernel_rfl) (by kernel_rfl) 400 [.no, .no, .no, .no, .no, .no, .no, .no, .no, .no, .yes, .yes, .yes, .yes, .yes, .yes, .yes, .no, .yes, .yes, .call [(1000, 1000)] [] 1001 (.bool (tMute t)) [], .yes, .no, .no, .no, .no, .lit 0, .no, .no, .no, .sym, .no, .no, .no, .no, .no, .no, .no, .no, .yes, .no, .yes, .no, .call [(1000, 1000)] [] 1001 (.int .u8 (tVolume t)) []] (J (Eq.refl false) (J c1 (J c1 (J c1 (J c1 (J c1 (J c1 (J (Eq.refl false) (J c1 (J c2 (J c3 (J c3 (J c3 (J c3 (J c3 (J c3 (J c3 (J c4 (J c5 (J c5 (J (tMute_ok t) (J c5 (J c6 (J c6 (J c6 (J c6 (J (Eq.refl (0 : Int)) (J (by decide : 0 < 4) (J c6 (J c6 (J (by decide : (0 : Int) ≤ 6) (J c6 (J (rng_shr_lit (m := 256) (n := 4) (a := (t.reg 0)) (k := .u8) (b := 6) (w_t.reg 0) (by decide)) (J c6 (J (toNat_lt (rng_shr_lit (m := 256) (n := 4) (a := (t.reg 0)) (k := .u8) (b := 6) (w_t.reg 0) (by decide))) (J c6 (J c6 (J c6 (J c6 (J c6 (J w_t.step.1 (J c6 (J c6 (J c5 (J c6 (J c5 (J c7 (J (tVolume_ok t) trivial)))))))))))))))))))))))))))))))))))))))))))))))) (by kernel_rfl)
theorem tOut_p8 (t : Tone) (w_t : Tone.ok t) (c1 : ((t.kind : Int) == 2) = false) (c2 : ((t.length : Int) == 0) = false) (c3 : ((t.kind : Int) == 3) = true) (c4 : (((bAnd .u16 t.row 1) : Int) != 0) = false) (c5 : ((t.kind : Int) != 3) = false) : FnSpec Tryd.prog 40 1001 [.pointer (some ⟨1000, 0, none⟩)] [tb3, (1000, (Tone.blk t).lend)] (.int .u8 (tVolume t)) [] := by
  exact fn_of_x hG hM Tryd.func40 (by kernel_rfl) (by kernel_rfl) 400 [.no, .no, .no, .no, .no, .no, .no, .no, .no, .no, .yes, .yes, .yes, .yes, .yes, .yes, .yes, .no, .no, .no, .no, .no, .no, .no, .call [(1000, 1000)] [] 1001 (.int .u8 (tVolume t)) []] (J (Eq.refl false) (J c1 (J c1 (J c1 (J c1 (J c1 (J c1 (J (Eq.refl false) (J c1 (J c2 (J c3 (J c3 (J c3 (J c3 (J c3 (J c3 (J c3 (J c4 (J c5 (J c5 (J c5 (J c5 (J c5 (J (Eq.refl false) (J (tVolume_ok t) trivial))))))))))))))))))))))))) (by kernel_rfl)
theorem tOut_p9 (t : Tone) (w_t : Tone.ok t) (c1 : ((t.kind : Int) == 2) = false) (c2 : ((t.length : Int) == 0) = false) (c3 : ((t.kind : Int) == 3) = false) (c4 : ((t.kind : Int) != 3) = true) (c5 : (tMute t) = true) : FnSpec Tryd.prog 40 1001 [.pointer (some ⟨1000, 0, none⟩)] [tb3, (1000, (Tone.blk t).lend)] (.int .u8 0) [] := by
  exact fn_of_x hG hM Tryd.func40 (by kernel_rfl) (by kernel_rfl) 400 [.no, .no, .no, .no, .no, .no, .no, .no, .no, .no, .no, .no, .no, .no, .no, .no, .no, .no, .yes, .yes, .call [(1000, 1000)] [] 1001 (.bool (tMute t)) [], .yes, .yes, .yes, .yes, .yes, .yes, .yes, .yes, .yes, .yes, .yes, .yes, .yes, .yes, .yes, .yes, .yes, .yes, .yes, .yes] (J (Eq.refl false) (J c1 (J c1 (J c1 (J c1 (J c1 (J c1 (J (Eq.refl false) (J c1 (J c2 (J c3 (J c3 (J c3 (J c3 (J c3 (J c3 (J c3 (J (Eq.refl false) (J c4 (J c4 (J (tMute_ok t) (J c4 (J c5 (J c5 (J c5 (J c5 (J c5 (J c5 (J c5 (J c5 (J c5 (J c5 (J c5 (J c5 (J c5 (J c5 (J c5 (J c4 (J c5 (J c4 (J (Eq.refl true) trivial))))))))))))))))))))))))))))))))))))))))) (by kernel_rfl)
theorem tOut_p10 (t : Tone) (w_t : Tone.ok t) (c1 : ((t.kind : Int) == 2) = false) (c2 : ((t.length : Int) == 0) = false) (c3 : ((t.kind : Int) == 3) = false) (c4 : ((t.kind : Int) != 3) = true) (c5 : (tMute t) = false) (c6 : (((bAnd .u8 (bShl .u8 (dutiesT (Int.toNat (bShr .u8 (t.reg 0) 6))) t.step) 128) : Int) == 0) = true) : FnSpec Tryd.prog 40 1001 [.pointer (some ⟨1000, 0, none⟩)] [tb3, (1000, (Tone.blk t).lend)] (.int .u8 0) [] := by
  exact fn_of_x hG hM Tryd.func40 (by kernel_rfl) (by kernel_rfl) 400 [.no, .no, .no, .no, .no, .no, .no, .no, .no, .no, .no, .no, .no, .no, .no, .no, .no, .no, .yes, .yes, .call [(1000, 1000)] [] 1001 (.bool (tMute t)) [], .yes, .no, .no, .no, .no, .lit 0, .no, .no, .no, .sym, .no, .no, .no, .no, .no, .no, .no, .no, .yes, .no, .yes, .yes] (J (Eq.refl false) (J c1 (J c1 (J c1 (J c1 (J c1 (J c1 (J (Eq.refl false) (J c1 (J c2 (J c3 (J c3 (J c3 (J c3 (J c3 (J c3 (J c3 (J (Eq.refl false) (J c4 (J c4 (J (tMute_ok t) (J c4 (J c5 (J c5 (J c5 (J c5 (J (Eq.refl (0 : Int)) (J (by decide : 0 < 4) (J c5 (J c5 (J (by decide : (0 : Int) ≤ 6) (J c5 (J (rng_shr_lit (m := 256) (n := 4) (a := (t.reg 0)) (k := .u8) (b := 6) (w_t.reg 0) (by decide)) (J c5 (J (toNat_lt (rng_shr_lit (m := 256) (n := 4) (a := (t.reg 0)) (k := .u8) (b := 6) (w_t.reg 0) (by decide))) (J c5 (J c5 (J c5 (J c5 (J c5 (J w_t.step.1 (J c5 (J c5 (J c4 (J c5 (J c4 (J c6 trivial))))))))))))))))))))))))))))))))))))))))))))))) (by kernel_rfl)
theorem tOut_p11 (t : Tone) (w_t : Tone.ok t) (c1 : ((t.kind : Int) == 2) = false) (c2 : ((t.length : Int) == 0) = false) (c3 : ((t.kind : Int) == 3) = false) (c4 : ((t.kind : Int) != 3) = true) (c5 : (tMute t) = false) (c6 : (((bAnd .u8 (bShl .u8 (dutiesT (Int.toNat (bShr .u8 (t.reg 0) 6))) t.step) 128) : Int) == 0) = false) : FnSpec Tryd.prog 40 1001 [.pointer (some ⟨1000, 0, none⟩)] [tb3, (1000, (Tone.blk t).lend)] (.int .u8 (tVolume t)) [] := by
  exact fn_of_x hG hM Tryd.func40 (by kernel_rfl) (by kernel_rfl) 400 [.no, .no, .no, .no, .no, .no, .no, .no, .no, .no, .no, .no, .no, .no, .no, .no, .no, .no, .yes, .yes, .call [(1000, 1000)] [] 1001 (.bool (tMute t)) [], .yes, .no, .no, .no, .no, .lit 0, .no, .no, .no, .sym, .no, .no, .no, .no, .no, .no, .no, .no, .yes, .no, .yes, .no, .call [(1000, 1000)] [] 1001 (.int .u8 (tVolume t)) []] (J (Eq.refl false) (J c1 (J c1 (J c1 (J c1 (J c1 (J c1 (J (Eq.refl false) (J c1 (J c2 (J c3 (J c3 (J c3 (J c3 (J c3 (J c3 (J c3 (J (Eq.refl false) (J c4 (J c4 (J (tMute_ok t) (J c4 (J c5 (J c5 (J c5 (J c5 (J (Eq.refl (0 : Int)) (J (by decide : 0 < 4) (J c5 (J c5 (J (by decide : (0 : Int) ≤ 6) (J c5 (J (rng_shr_lit (m := 256) (n := 4) (a := (t.reg 0)) (k := .u8) (b := 6) (w_t.reg 0) (by decide)) (J c5 (J (toNat_lt (rng_shr_lit (m := 256) (n := 4) (a := (t.reg 0)) (k := .u8) (b := 6) (w_t.reg 0) (by decide))) (J c5 (J c5 (J c5 (J c5 (J c5 (J w_t.step.1 (J c5 (J c5 (J c4 (J c5 (J c4 (J c6 (J (tVolume_ok t) trivial)))))))))))))))))))))))))))))))))))))))))))))))) (by kernel_rfl)
theorem tOut_p12 (t : Tone) (w_t : Tone.ok t) (c1 : ((t.kind : Int) == 2) = false) (c2 : ((t.length : Int) == 0) = false) (c3 : ((t.kind : Int) == 3) = false) (c4 : ((t.kind : Int) != 3) = false) : FnSpec Tryd.prog 40 1001 [.pointer (some ⟨1000, 0, none⟩)] [tb3, (1000, (Tone.blk t).lend)] (.int .u8 (tVolume t)) [] := by
  exact fn_of_x hG hM Tryd.func40 (by kernel_rfl) (by kernel_rfl) 400 [.no, .no, .no, .no, .no, .no, .no, .no, .no, .no, .no, .no, .no, .no, .no, .no, .no, .no, .no, .no, .no, .no, .no, .no, .call [(1000, 1000)] [] 1001 (.int .u8 (tVolume t)) []] (J (Eq.refl false) (J c1 (J c1 (J c1 (J c1 (J c1 (J c1 (J (Eq.refl false) (J c1 (J c2 (J c3 (J c3 (J c3 (J c3 (J c3 (J c3 (J c3 (J (Eq.refl false) (J c4 (J c4 (J c4 (J c4 (J c4 (J (Eq.refl false) (J (tVolume_ok t) trivial))))))))))))))))))))))))) (by kernel_rfl)
theorem tOut_ok (t : Tone) (w_t : Tone.ok t) : FnSpec Tryd.prog 40 1001 [.pointer (some ⟨1000, 0, none⟩)] [tb3, (1000, (Tone.blk t).lend)] (.int .u8 (tOut t)) [] := by
  rcases bt ((t.kind : Int) == 2) with c1 | c1
  ·
    rcases bt (decide ((t.step : Int) < 16)) with c2 | c2
    ·
      rw [tOut, if_pos c1, if_pos c2]
      exact tOut_p1 t w_t c1 c2
    ·
      rw [tOut, if_pos c1, if_neg (nt c2)]
      exact tOut_p2 t w_t c1 c2
  ·
    rcases bt ((t.length : Int) == 0) with c2 | c2
    ·
      rw [tOut, if_neg (nt c1), if_pos c2]
      exact tOut_p3 t w_t c1 c2
    ·
      rcases bt ((t.kind : Int) == 3) with c3 | c3
      ·
        rcases bt (((bAnd .u16 t.row 1) : Int) != 0) with c4 | c4
        ·
          rw [tOut, if_neg (nt c1), if_neg (nt c2), if_pos c3, if_pos c4]
          exact tOut_p4 t w_t c1 c2 c3 c4
        ·
          rcases bt ((t.kind : Int) != 3) with c5 | c5
          ·
            rcases bt (tMute t) with c6 | c6
            ·
              rw [tOut, if_neg (nt c1), if_neg (nt c2), if_pos c3, if_neg (nt c4), if_pos c5, if_pos c6]
              exact tOut_p5 t w_t c1 c2 c3 c4 c5 c6
            ·
              rcases bt (((bAnd .u8 (bShl .u8 (dutiesT (Int.toNat (bShr .u8 (t.reg 0) 6))) t.step) 128) : Int) == 0) with c7 | c7
              ·
                rw [tOut, if_neg (nt c1), if_neg (nt c2), if_pos c3, if_neg (nt c4), if_pos c5, if_neg (nt c6), if_pos c7]
                exact tOut_p6 t w_t c1 c2 c3 c4 c5 c6 c7
              ·
                rw [tOut, if_neg (nt c1), if_neg (nt c2), if_pos c3, if_neg (nt c4), if_pos c5, if_neg (nt c6), if_neg (nt c7)]
                exact tOut_p7 t w_t c1 c2 c3 c4 c5 c6 c7
          ·
            rw [tOut, if_neg (nt c1), if_neg (nt c2), if_pos c3, if_neg (nt c4), if_neg (nt c5)]
            exact tOut_p8 t w_t c1 c2 c3 c4 c5
      ·
        rcases bt ((t.kind : Int) != 3) with c4 | c4
        ·
          rcases bt (tMute t) with c5 | c5
          ·
            rw [tOut, if_neg (nt c1), if_neg (nt c2), if_neg (nt c3), if_pos c4, if_pos c5]
            exact tOut_p9 t w_t c1 c2 c3 c4 c5
          ·
            rcases bt (((bAnd .u8 (bShl .u8 (dutiesT (Int.toNat (bShr .u8 (t.reg 0) 6))) t.step) 128) : Int) == 0) with c6 | c6
            ·
              rw [tOut, if_neg (nt c1), if_neg (nt c2), if_neg (nt c3), if_pos c4, if_neg (nt c5), if_pos c6]
              exact tOut_p10 t w_t c1 c2 c3 c4 c5 c6
            ·
              rw [tOut, if_neg (nt c1), if_neg (nt c2), if_neg (nt c3), if_pos c4, if_neg (nt c5), if_neg (nt c6)]
              exact tOut_p11 t w_t c1 c2 c3 c4 c5 c6
        ·
          rw [tOut, if_neg (nt c1), if_neg (nt c2), if_neg (nt c3), if_neg (nt c4)]
          exact tOut_p12 t w_t c1 c2 c3 c4

theorem tOut_w (t : Tone) (w_t : Tone.ok t) : rng 256 (tOut t) := by
  rcases bt ((t.kind : Int) == 2) with c1 | c1
  ·
    rcases bt (decide ((t.step : Int) < 16)) with c2 | c2
    ·
      rw [tOut, if_pos c1, if_pos c2]
      exact (rng_wrap_u8 (15 - t.step))
    ·
      rw [tOut, if_pos c1, if_neg (nt c2)]
      exact (rng_wrap_u8 (t.step - 16))
  ·
    rcases bt ((t.length : Int) == 0) with c2 | c2
    ·
      rw [tOut, if_neg (nt c1), if_pos c2]
      exact (by decide : rng 256 0)
    ·
      rcases bt ((t.kind : Int) == 3) with c3 | c3
      ·
        rcases bt (((bAnd .u16 t.row 1) : Int) != 0) with c4 | c4
        ·
          rw [tOut, if_neg (nt c1), if_neg (nt c2), if_pos c3, if_pos c4]
          exact (by decide : rng 256 0)
        ·
          rcases bt ((t.kind : Int) != 3) with c5 | c5
          ·
            rcases bt (tMute t) with c6 | c6
            ·
              rw [tOut, if_neg (nt c1), if_neg (nt c2), if_pos c3, if_neg (nt c4), if_pos c5, if_pos c6]
              exact (by decide : rng 256 0)
            ·
              rcases bt (((bAnd .u8 (bShl .u8 (dutiesT (Int.toNat (bShr .u8 (t.reg 0) 6))) t.step) 128) : Int) == 0) with c7 | c7
              ·
                rw [tOut, if_neg (nt c1), if_neg (nt c2), if_pos c3, if_neg (nt c4), if_pos c5, if_neg (nt c6), if_pos c7]
                exact (by decide : rng 256 0)
              ·
                rw [tOut, if_neg (nt c1), if_neg (nt c2), if_pos c3, if_neg (nt c4), if_pos c5, if_neg (nt c6), if_neg (nt c7)]
                exact (tVolume_w t w_t)
          ·
            rw [tOut, if_neg (nt c1), if_neg (nt c2), if_pos c3, if_neg (nt c4), if_neg (nt c5)]
            exact (tVolume_w t w_t)
      ·
        rcases bt ((t.kind : Int) != 3) with c4 | c4
        ·
          rcases bt (tMute t) with c5 | c5
          ·
            rw [tOut, if_neg (nt c1), if_neg (nt c2), if_neg (nt c3), if_pos c4, if_pos c5]
            exact (by decide : rng 256 0)
          ·
            rcases bt (((bAnd .u8 (bShl .u8 (dutiesT (Int.toNat (bShr .u8 (t.reg 0) 6))) t.step) 128) : Int) == 0) with c6 | c6
            ·
              rw [tOut, if_neg (nt c1), if_neg (nt c2), if_neg (nt c3), if_pos c4, if_neg (nt c5), if_pos c6]
              exact (by decide : rng 256 0)
            ·
              rw [tOut, if_neg (nt c1), if_neg (nt c2), if_neg (nt c3), if_pos c4, if_neg (nt c5), if_neg (nt c6)]
              exact (tVolume_w t w_t)
        ·
          rw [tOut, if_neg (nt c1), if_neg (nt c2), if_neg (nt c3), if_neg (nt c4)]
          exact (tVolume_w t w_t)

/-- (*kotatsu/tone.Tone).Clock -/
def tClock (t : Tone) : Tone :=
  if (decide ((t.timer : Int) > 0)) = true then
    ({ t with timer := (IntKind.u16.wrap (t.timer - 1)) } : Tone)
  else
    if ((t.kind : Int) == 2) = true then
      if (decide ((t.length : Int) > 0)) = true then
        if (decide ((t.line : Int) > 0)) = true then
          ({ t with timer := t.period, step := (Int.tmod (IntKind.u8.wrap (t.step + 1)) 32) } : Tone)
        else
          ({ t with timer := t.period } : Tone)
      else
        ({ t with timer := t.period } : Tone)
    else
      if ((t.kind : Int) == 3) = true then
        if (((bAnd .u8 (t.reg 2) 128) : Int) != 0) = true then
          ({ t with timer := t.period, row := (bOr .u16 (bShr .u16 t.row 1) (bShl .u16 (bAnd .u16 (bXor .u16 t.row (bShr .u16 t.row 6)) 1) 14)) } : Tone)
        else
          ({ t with timer := t.period, row := (bOr .u16 (bShr .u16 t.row 1) (bShl .u16 (bAnd .u16 (bXor .u16 t.row (bShr .u16 t.row 1)) 1) 14)) } : Tone)
      else
        ({ t with timer := t.period, step := (Int.tmod (IntKind.u8.wrap (t.step + 1)) 8) } : Tone)
theorem tClock_p1 (t : Tone) (c1 : (decide ((t.timer : Int) > 0)) = true) : FnSpec Tryd.prog 36 1001 [.pointer (some ⟨1000, 0, none⟩)] [(1000, Tone.blk t)] (.tuple ⟨[]⟩) [(1000, Tone.blk ({ t with timer := (IntKind.u16.wrap (t.timer - 1)) } : Tone))] := by
  exact fn_of_x hG hM Tryd.func36 (by kernel_rfl) (by kernel_rfl) 400 [.no, .yes] (J (Eq.refl false) (J c1 trivial)) (by kernel_rfl)
theorem tClock_p2 (t : Tone) (c1 : (decide ((t.timer : Int) > 0)) = false) (c2 : ((t.kind : Int) == 2) = true) (c3 : (decide ((t.length : Int) > 0)) = true) (c4 : (decide ((t.line : Int) > 0)) = true) : FnSpec Tryd.prog 36 1001 [.pointer (some ⟨1000, 0, none⟩)] [(1000, Tone.blk t)] (.tuple ⟨[]⟩) [(1000, Tone.blk ({ t with timer := t.period, step := (Int.tmod (IntKind.u8.wrap (t.step + 1)) 32) } : Tone))] := by
  exact fn_of_x hG hM Tryd.func36 (by kernel_rfl) (by kernel_rfl) 400 [.no, .no, .yes, .yes, .yes, .yes, .yes, .yes, .yes, .yes] (J (Eq.refl false) (J c1 (J c2 (J c3 (J c3 (J c3 (J c3 (J c3 (J c3 (J c4 (J (by decide : ((32 : Int) ≠ 0)) trivial))))))))))) (by kernel_rfl)
theorem tClock_p3 (t : Tone) (c1 : (decide ((t.timer : Int) > 0)) = false) (c2 : ((t.kind : Int) == 2) = true) (c3 : (decide ((t.length : Int) > 0)) = true) (c4 : (decide ((t.line : Int) > 0)) = false) : FnSpec Tryd.prog 36 1001 [.pointer (some ⟨1000, 0, none⟩)] [(1000, Tone.blk t)] (.tuple ⟨[]⟩) [(1000, Tone.blk ({ t with timer := t.period } : Tone))] := by
  exact fn_of_x hG hM Tryd.func36 (by kernel_rfl) (by kernel_rfl) 400 [.no, .no, .yes, .yes, .yes, .yes, .yes, .yes, .yes, .no] (J (Eq.refl false) (J c1 (J c2 (J c3 (J c3 (J c3 (J c3 (J c3 (J c3 (J c4 trivial)))))))))) (by kernel_rfl)
theorem tClock_p4 (t : Tone) (c1 : (decide ((t.timer : Int) > 0)) = false) (c2 : ((t.kind : Int) == 2) = true) (c3 : (decide ((t.length : Int) > 0)) = false) : FnSpec Tryd.prog 36 1001 [.pointer (some ⟨1000, 0, none⟩)] [(1000, Tone.blk t)] (.tuple ⟨[]⟩) [(1000, Tone.blk ({ t with timer := t.period } : Tone))] := by
  exact fn_of_x hG hM Tryd.func36 (by kernel_rfl) (by kernel_rfl) 400 [.no, .no, .yes, .no, .no, .no, .no, .no, .no, .no] (J (Eq.refl false) (J c1 (J c2 (J c3 (J c3 (J c3 (J c3 (J c3 (J c3 (J (Eq.refl false) trivial)))))))))) (by kernel_rfl)
theorem tClock_p5 (t : Tone) (c1 : (decide ((t.timer : Int) > 0)) = false) (c2 : ((t.kind : Int) == 2) = false) (c3 : ((t.kind : Int) == 3) = true) (c4 : (((bAnd .u8 (t.reg 2) 128) : Int) != 0) = true) : FnSpec Tryd.prog 36 1001 [.pointer (some ⟨1000, 0, none⟩)] [(1000, Tone.blk t)] (.tuple ⟨[]⟩) [(1000, Tone.blk ({ t with timer := t.period, row := (bOr .u16 (bShr .u16 t.row 1) (bShl .u16 (bAnd .u16 (bXor .u16 t.row (bShr .u16 t.row 6)) 1) 14)) } : Tone))] := by
  exact fn_of_x hG hM Tryd.func36 (by kernel_rfl) (by kernel_rfl) 400 [.no, .no, .no, .yes, .lit 2, .yes] (J (Eq.refl false) (J c1 (J c2 (J c3 (J (by decide : (0 : Int) ≤ 1) (J (Eq.refl (2 : Int)) (J (by decide : 2 < 4) (J c4 (J (by decide : (0 : Int) ≤ 6) (J (by decide : (0 : Int) ≤ 1) (J (by decide : (0 : Int) ≤ 14) trivial))))))))))) (by kernel_rfl)
theorem tClock_p6 (t : Tone) (c1 : (decide ((t.timer : Int) > 0)) = false) (c2 : ((t.kind : Int) == 2) = false) (c3 : ((t.kind : Int) == 3) = true) (c4 : (((bAnd .u8 (t.reg 2) 128) : Int) != 0) = false) : FnSpec Tryd.prog 36 1001 [.pointer (some ⟨1000, 0, none⟩)] [(1000, Tone.blk t)] (.tuple ⟨[]⟩) [(1000, Tone.blk ({ t with timer := t.period, row := (bOr .u16 (bShr .u16 t.row 1) (bShl .u16 (bAnd .u16 (bXor .u16 t.row (bShr .u16 t.row 1)) 1) 14)) } : Tone))] := by
  exact fn_of_x hG hM Tryd.func36 (by kernel_rfl) (by kernel_rfl) 400 [.no, .no, .no, .yes, .lit 2, .no] (J (Eq.refl false) (J c1 (J c2 (J c3 (J (by decide : (0 : Int) ≤ 1) (J (Eq.refl (2 : Int)) (J (by decide : 2 < 4) (J c4 (J (by decide : (0 : Int) ≤ 1) (J (by decide : (0 : Int) ≤ 14) trivial)))))))))) (by kernel_rfl)
theorem tClock_p7 (t : Tone) (c1 : (decide ((t.timer : Int) > 0)) = false) (c2 : ((t.kind : Int) == 2) = false) (c3 : ((t.kind : Int) == 3) = false) : FnSpec Tryd.prog 36 1001 [.pointer (some ⟨1000, 0, none⟩)] [(1000, Tone.blk t)] (.tuple ⟨[]⟩) [(1000, Tone.blk ({ t with timer := t.period, step := (Int.tmod (IntKind.u8.wrap (t.step + 1)) 8) } : Tone))] := by
  exact fn_of_x hG hM Tryd.func36 (by kernel_rfl) (by kernel_rfl) 400 [.no, .no, .no, .no] (J (Eq.refl false) (J c1 (J c2 (J c3 (J (by decide : ((8 : Int) ≠ 0)) trivial))))) (by kernel_rfl)
theorem tClock_ok (t : Tone) : FnSpec Tryd.prog 36 1001 [.pointer (some ⟨1000, 0, none⟩)] [(1000, Tone.blk t)] (.tuple ⟨[]⟩) [(1000, Tone.blk (tClock t))] := by
  rcases bt (decide ((t.timer : Int) > 0)) with c1 | c1
  ·
    rw [tClock, if_pos c1]
    exact tClock_p1 t c1
  ·
    rcases bt ((t.kind : Int) == 2) with c2 | c2
    ·
      rcases bt (decide ((t.length : Int) > 0)) with c3 | c3
      ·
        rcases bt (decide ((t.line : Int) > 0)) with c4 | c4
        ·
          rw [tClock, if_neg (nt c1), if_pos c2, if_pos c3, if_pos c4]
          exact tClock_p2 t c1 c2 c3 c4
        ·
          rw [tClock, if_neg (nt c1), if_pos c2, if_pos c3, if_neg (nt c4)]
          exact tClock_p3 t c1 c2 c3 c4
      ·
        rw [tClock, if_neg (nt c1), if_pos c2, if_neg (nt c3)]
        exact tClock_p4 t c1 c2 c3
    ·
      rcases bt ((t.kind : Int) == 3) with c3 | c3
      ·
        rcases bt (((bAnd .u8 (t.reg 2) 128) : Int) != 0) with c4 | c4
        ·
          rw [tClock, if_neg (nt c1), if_neg (nt c2), if_pos c3, if_pos c4]
          exact tClock_p5 t c1 c2 c3 c4
        ·
          rw [tClock, if_neg (nt c1), if_neg (nt c2), if_pos c3, if_neg (nt c4)]
          exact tClock_p6 t c1 c2 c3 c4
      ·
        rw [tClock, if_neg (nt c1), if_neg (nt c2), if_neg (nt c3)]
        exact tClock_p7 t c1 c2 c3

theorem tClock_w (t : Tone) (w_t : Tone.ok t) : Tone.ok (tClock t) := by
  rcases bt (decide ((t.timer : Int) > 0)) with c1 | c1
  ·
    rw [tClock, if_pos c1]
    exact (⟨w_t.kind, w_t.reg, w_t.length, w_t.period, (rng_wrap_u16 (t.timer - 1)), w_t.step, w_t.level, w_t.count, w_t.sweep, w_t.line, w_t.row⟩ : Tone.ok ({ t with timer := (IntKind.u16.wrap (t.timer - 1)) } : Tone))
  ·
    rcases bt ((t.kind : Int) == 2) with c2 | c2
    ·
      rcases bt (decide ((t.length : Int) > 0)) with c3 | c3
      ·
        rcases bt (decide ((t.line : Int) > 0)) with c4 | c4
        ·
          rw [tClock, if_neg (nt c1), if_pos c2, if_pos c3, if_pos c4]
          exact (⟨w_t.kind, w_t.reg, w_t.length, w_t.period, w_t.period, (rng_tmod_lit (m := 256) (n := 256) (b := 32) (rng_wrap_u8 (t.step + 1)) (by decide)), w_t.level, w_t.count, w_t.sweep, w_t.line, w_t.row⟩ : Tone.ok ({ t with timer := t.period, step := (Int.tmod (IntKind.u8.wrap (t.step + 1)) 32) } : Tone))
        ·
          rw [tClock, if_neg (nt c1), if_pos c2, if_pos c3, if_neg (nt c4)]
          exact (⟨w_t.kind, w_t.reg, w_t.length, w_t.period, w_t.period, w_t.step, w_t.level, w_t.count, w_t.sweep, w_t.line, w_t.row⟩ : Tone.ok ({ t with timer := t.period } : Tone))
      ·
        rw [tClock, if_neg (nt c1), if_pos c2, if_neg (nt c3)]
        exact (⟨w_t.kind, w_t.reg, w_t.length, w_t.period, w_t.period, w_t.step, w_t.level, w_t.count, w_t.sweep, w_t.line, w_t.row⟩ : Tone.ok ({ t with timer := t.period } : Tone))
    ·
      rcases bt ((t.kind : Int) == 3) with c3 | c3
      ·
        rcases bt (((bAnd .u8 (t.reg 2) 128) : Int) != 0) with c4 | c4
        ·
          rw [tClock, if_neg (nt c1), if_neg (nt c2), if_pos c3, if_pos c4]
          exact (⟨w_t.kind, w_t.reg, w_t.length, w_t.period, w_t.period, w_t.step, w_t.level, w_t.count, w_t.sweep, w_t.line, (rng_bOr_u16 (bShr .u16 t.row 1) (bShl .u16 (bAnd .u16 (bXor .u16 t.row (bShr .u16 t.row 6)) 1) 14))⟩ : Tone.ok ({ t with timer := t.period, row := (bOr .u16 (bShr .u16 t.row 1) (bShl .u16 (bAnd .u16 (bXor .u16 t.row (bShr .u16 t.row 6)) 1) 14)) } : Tone))
        ·
          rw [tClock, if_neg (nt c1), if_neg (nt c2), if_pos c3, if_neg (nt c4)]
          exact (⟨w_t.kind, w_t.reg, w_t.length, w_t.period, w_t.period, w_t.step, w_t.level, w_t.count, w_t.sweep, w_t.line, (rng_bOr_u16 (bShr .u16 t.row 1) (bShl .u16 (bAnd .u16 (bXor .u16 t.row (bShr .u16 t.row 1)) 1) 14))⟩ : Tone.ok ({ t with timer := t.period, row := (bOr .u16 (bShr .u16 t.row 1) (bShl .u16 (bAnd .u16 (bXor .u16 t.row (bShr .u16 t.row 1)) 1) 14)) } : Tone))
      ·
        rw [tClock, if_neg (nt c1), if_neg (nt c2), if_neg (nt c3)]
        exact (⟨w_t.kind, w_t.reg, w_t.length, w_t.period, w_t.period, (rng_tmod_lit (m := 256) (n := 256) (b := 8) (rng_wrap_u8 (t.step + 1)) (by decide)), w_t.level, w_t.count, w_t.sweep, w_t.line, w_t.row⟩ : Tone.ok ({ t with timer := t.period, step := (Int.tmod (IntKind.u8.wrap (t.step + 1)) 8) } : Tone))

/-- (*kotatsu/tone.Tone).high -/
def tHigh (t : Tone) (b : Int) : Tone :=
  if t.on = true then
    if ((t.kind : Int) != 3) = true then
      if (decide ((t.kind : Int) ≤ 1)) = true then
        ({ t with length := (lengthsT (Int.toNat (bShr .u8 b 3))), period := (bOr .u16 (bAnd .u16 t.period 255) (bShl .u16 (IntKind.u16.wrap (bAnd .u8 b 7)) 8)), step := 0, begins := true } : Tone)
      else
        ({ t with length := (lengthsT (Int.toNat (bShr .u8 b 3))), period := (bOr .u16 (bAnd .u16 t.period 255) (bShl .u16 (IntKind.u16.wrap (bAnd .u8 b 7)) 8)), begins := true } : Tone)
    else
      if (decide ((t.kind : Int) ≤ 1)) = true then
        ({ t with length := (lengthsT (Int.toNat (bShr .u8 b 3))), step := 0, begins := true } : Tone)
      else
        ({ t with length := (lengthsT (Int.toNat (bShr .u8 b 3))), begins := true } : Tone)
  else
    if ((t.kind : Int) != 3) = true then
      if (decide ((t.kind : Int) ≤ 1)) = true then
        ({ t with period := (bOr .u16 (bAnd .u16 t.period 255) (bShl .u16 (IntKind.u16.wrap (bAnd .u8 b 7)) 8)), step := 0, begins := true } : Tone)
      else
        ({ t with period := (bOr .u16 (bAnd .u16 t.period 255) (bShl .u16 (IntKind.u16.wrap (bAnd .u8 b 7)) 8)), begins := true } : Tone)
    else
      if (decide ((t.kind : Int) ≤ 1)) = true then
        ({ t with step := 0, begins := true } : Tone)
      else
        ({ t with begins := true } : Tone)
theorem tHigh_p1 (t : Tone) (b : Int) (w_b : rng 256 b) (c1 : t.on = true) (c2 : ((t.kind : Int) != 3) = true) (c3 : (decide ((t.kind : Int) ≤ 1)) = true) : FnSpec Tryd.prog 54 1001 [.pointer (some ⟨1000, 0, none⟩), .int .u8 b] [tb4, (1000, Tone.blk t)] (.tuple ⟨[]⟩) [(1000, Tone.blk ({ t with length := (lengthsT (Int.toNat (bShr .u8 b 3))), period := (bOr .u16 (bAnd .u16 t.period 255) (bShl .u16 (IntKind.u16.wrap (bAnd .u8 b 7)) 8)), step := 0, begins := true } : Tone))] := by
  exact fn_of_x hG hM Tryd.func54 (by kernel_rfl) (by kernel_rfl) 400 [.yes, .sym, .yes, .yes] (J c1 (J (by decide : (0 : Int) ≤ 3) (J (rng_shr_lit (m := 256) (n := 32) (a := b) (k := .u8) (b := 3) w_b (by decide)) (J (toNat_lt (rng_shr_lit (m := 256) (n := 32) (a := b) (k := .u8) (b := 3) w_b (by decide))) (J c2 (J (by decide : (0 : Int) ≤ 8) (J c3 trivial))))))) (by kernel_rfl)
theorem tHigh_p2 (t : Tone) (b : Int) (w_b : rng 256 b) (c1 : t.on = true) (c2 : ((t.kind : Int) != 3) = true) (c3 : (decide ((t.kind : Int) ≤ 1)) = false) : FnSpec Tryd.prog 54 1001 [.pointer (some ⟨1000, 0, none⟩), .int .u8 b] [tb4, (1000, Tone.blk t)] (.tuple ⟨[]⟩) [(1000, Tone.blk ({ t with length := (lengthsT (Int.toNat (bShr .u8 b 3))), period := (bOr .u16 (bAnd .u16 t.period 255) (bShl .u16 (IntKind.u16.wrap (bAnd .u8 b 7)) 8)), begins := true } : Tone))] := by
  exact fn_of_x hG hM Tryd.func54 (by kernel_rfl) (by kernel_rfl) 400 [.yes, .sym, .yes, .no] (J c1 (J (by decide : (0 : Int) ≤ 3) (J (rng_shr_lit (m := 256) (n := 32) (a := b) (k := .u8) (b := 3) w_b (by decide)) (J (toNat_lt (rng_shr_lit (m := 256) (n := 32) (a := b) (k := .u8) (b := 3) w_b (by decide))) (J c2 (J (by decide : (0 : Int) ≤ 8) (J c3 trivial))))))) (by kernel_rfl)
theorem tHigh_p3 (t : Tone) (b : Int) (w_b : rng 256 b) (c1 : t.on = true) (c2 : ((t.kind : Int) != 3) = false) (c3 : (decide ((t.kind : Int) ≤ 1)) = true) : FnSpec Tryd.prog 54 1001 [.pointer (some ⟨1000, 0, none⟩), .int .u8 b] [tb4, (1000, Tone.blk t)] (.tuple ⟨[]⟩) [(1000, Tone.blk ({ t with length := (lengthsT (Int.toNat (bShr .u8 b 3))), step := 0, begins := true } : Tone))] := by
  exact fn_of_x hG hM Tryd.func54 (by kernel_rfl) (by kernel_rfl) 400 [.yes, .sym, .no, .yes] (J c1 (J (by decide : (0 : Int) ≤ 3) (J (rng_shr_lit (m := 256) (n := 32) (a := b) (k := .u8) (b := 3) w_b (by decide)) (J (toNat_lt (rng_shr_lit (m := 256) (n := 32) (a := b) (k := .u8) (b := 3) w_b (by decide))) (J c2 (J c3 trivial)))))) (by kernel_rfl)
theorem tHigh_p4 (t : Tone) (b : Int) (w_b : rng 256 b) (c1 : t.on = true) (c2 : ((t.kind : Int) != 3) = false) (c3 : (decide ((t.kind : Int) ≤ 1)) = false) : FnSpec Tryd.prog 54 1001 [.pointer (some ⟨1000, 0, none⟩), .int .u8 b] [tb4, (1000, Tone.blk t)] (.tuple ⟨[]⟩) [(1000, Tone.blk ({ t with length := (lengthsT (Int.toNat (bShr .u8 b 3))), begins := true } : Tone))] := by
  exact fn_of_x hG hM Tryd.func54 (by kernel_rfl) (by kernel_rfl) 400 [.yes, .sym, .no, .no] (J c1 (J (by decide : (0 : Int) ≤ 3) (J (rng_shr_lit (m := 256) (n := 32) (a := b) (k := .u8) (b := 3) w_b (by decide)) (J (toNat_lt (rng_shr_lit (m := 256) (n := 32) (a := b) (k := .u8) (b := 3) w_b (by decide))) (J c2 (J c3 trivial)))))) (by kernel_rfl)
theorem tHigh_p5 (t : Tone) (b : Int) (w_b : rng 256 b) (c1 : t.on = false) (c2 : ((t.kind : Int) != 3) = true) (c3 : (decide ((t.kind : Int) ≤ 1)) = true) : FnSpec Tryd.prog 54 1001 [.pointer (some ⟨1000, 0, none⟩), .int .u8 b] [tb4, (1000, Tone.blk t)] (.tuple ⟨[]⟩) [(1000, Tone.blk ({ t with period := (bOr .u16 (bAnd .u16 t.period 255) (bShl .u16 (IntKind.u16.wrap (bAnd .u8 b 7)) 8)), step := 0, begins := true } : Tone))] := by
  exact fn_of_x hG hM Tryd.func54 (by kernel_rfl) (by kernel_rfl) 400 [.no, .yes, .yes] (J c1 (J c2 (J (by decide : (0 : Int) ≤ 8) (J c3 trivial)))) (by kernel_rfl)
theorem tHigh_p6 (t : Tone) (b : Int) (w_b : rng 256 b) (c1 : t.on = false) (c2 : ((t.kind : Int) != 3) = true) (c3 : (decide ((t.kind : Int) ≤ 1)) = false) : FnSpec Tryd.prog 54 1001 [.pointer (some ⟨1000, 0, none⟩), .int .u8 b] [tb4, (1000, Tone.blk t)] (.tuple ⟨[]⟩) [(1000, Tone.blk ({ t with period := (bOr .u16 (bAnd .u16 t.period 255) (bShl .u16 (IntKind.u16.wrap (bAnd .u8 b 7)) 8)), begins := true } : Tone))] := by
  exact fn_of_x hG hM Tryd.func54 (by kernel_rfl) (by kernel_rfl) 400 [.no, .yes, .no] (J c1 (J c2 (J (by decide : (0 : Int) ≤ 8) (J c3 trivial)))) (by kernel_rfl)
theorem tHigh_p7 (t : Tone) (b : Int) (w_b : rng 256 b) (c1 : t.on = false) (c2 : ((t.kind : Int) != 3) = false) (c3 : (decide ((t.kind : Int) ≤ 1)) = true) : FnSpec Tryd.prog 54 1001 [.pointer (some ⟨1000, 0, none⟩), .int .u8 b] [tb4, (1000, Tone.blk t)] (.tuple ⟨[]⟩) [(1000, Tone.blk ({ t with step := 0, begins := true } : Tone))] := by
  exact fn_of_x hG hM Tryd.func54 (by kernel_rfl) (by kernel_rfl) 400 [.no, .no, .yes] (J c1 (J c2 (J c3 trivial))) (by kernel_rfl)
theorem tHigh_p8 (t : Tone) (b : Int) (w_b : rng 256 b) (c1 : t.on = false) (c2 : ((t.kind : Int) != 3) = false) (c3 : (decide ((t.kind : Int) ≤ 1)) = false) : FnSpec Tryd.prog 54 1001 [.pointer (some ⟨1000, 0, none⟩), .int .u8 b] [tb4, (1000, Tone.blk t)] (.tuple ⟨[]⟩) [(1000, Tone.blk ({ t with begins := true } : Tone))] := by
  exact fn_of_x hG hM Tryd.func54 (by kernel_rfl) (by kernel_rfl) 400 [.no, .no, .no] (J c1 (J c2 (J c3 trivial))) (by kernel_rfl)
theorem tHigh_ok (t : Tone) (b : Int) (w_b : rng 256 b) : FnSpec Tryd.prog 54 1001 [.pointer (some ⟨1000, 0, none⟩), .int .u8 b] [tb4, (1000, Tone.blk t)] (.tuple ⟨[]⟩) [(1000, Tone.blk (tHigh t b))] := by
  rcases bt t.on with c1 | c1
  ·
    rcases bt ((t.kind : Int) != 3) with c2 | c2
    ·
      rcases bt (decide ((t.kind : Int) ≤ 1)) with c3 | c3
      ·
        rw [tHigh, if_pos c1, if_pos c2, if_pos c3]
        exact tHigh_p1 t b w_b c1 c2 c3
      ·
        rw [tHigh, if_pos c1, if_pos c2, if_neg (nt c3)]
        exact tHigh_p2 t b w_b c1 c2 c3
    ·
      rcases bt (decide ((t.kind : Int) ≤ 1)) with c3 | c3
      ·
        rw [tHigh, if_pos c1, if_neg (nt c2), if_pos c3]
        exact tHigh_p3 t b w_b c1 c2 c3
      ·
        rw [tHigh, if_pos c1, if_neg (nt c2), if_neg (nt c3)]
        exact tHigh_p4 t b w_b c1 c2 c3
  ·
    rcases bt ((t.kind : Int) != 3) with c2 | c2
    ·
      rcases bt (decide ((t.kind : Int) ≤ 1)) with c3 | c3
      ·
        rw [tHigh, if_neg (nt c1), if_pos c2, if_pos c3]
        exact tHigh_p5 t b w_b c1 c2 c3
      ·
        rw [tHigh, if_neg (nt c1), if_pos c2, if_neg (nt c3)]
        exact tHigh_p6 t b w_b c1 c2 c3
    ·
      rcases bt (decide ((t.kind : Int) ≤ 1)) with c3 | c3
      ·
        rw [tHigh, if_neg (nt c1), if_neg (nt c2), if_pos c3]
        exact tHigh_p7 t b w_b c1 c2 c3
      ·
        rw [tHigh, if_neg (nt c1), if_neg (nt c2), if_neg (nt c3)]
        exact tHigh_p8 t b w_b c1 c2 c3

theorem tHigh_w (t : Tone) (b : Int) (w_t : Tone.ok t) (w_b : rng 256 b) : Tone.ok (tHigh t b) := by
  rcases bt t.on with c1 | c1
  ·
    rcases bt ((t.kind : Int) != 3) with c2 | c2
    ·
      rcases bt (decide ((t.kind : Int) ≤ 1)) with c3 | c3
      ·
        rw [tHigh, if_pos c1, if_pos c2, if_pos c3]
        exact (⟨w_t.kind, w_t.reg, (lengthsT_w (Int.toNat (bShr .u8 b 3))), (rng_bOr_u16 (bAnd .u16 t.period 255) (bShl .u16 (IntKind.u16.wrap (bAnd .u8 b 7)) 8)), w_t.timer, (by decide : rng 256 0), w_t.level, w_t.count, w_t.sweep, w_t.line, w_t.row⟩ : Tone.ok ({ t with length := (lengthsT (Int.toNat (bShr .u8 b 3))), period := (bOr .u16 (bAnd .u16 t.period 255) (bShl .u16 (IntKind.u16.wrap (bAnd .u8 b 7)) 8)), step := 0, begins := true } : Tone))
      ·
        rw [tHigh, if_pos c1, if_pos c2, if_neg (nt c3)]
        exact (⟨w_t.kind, w_t.reg, (lengthsT_w (Int.toNat (bShr .u8 b 3))), (rng_bOr_u16 (bAnd .u16 t.period 255) (bShl .u16 (IntKind.u16.wrap (bAnd .u8 b 7)) 8)), w_t.timer, w_t.step, w_t.level, w_t.count, w_t.sweep, w_t.line, w_t.row⟩ : Tone.ok ({ t with length := (lengthsT (Int.toNat (bShr .u8 b 3))), period := (bOr .u16 (bAnd .u16 t.period 255) (bShl .u16 (IntKind.u16.wrap (bAnd .u8 b 7)) 8)), begins := true } : Tone))
    ·
      rcases bt (decide ((t.kind : Int) ≤ 1)) with c3 | c3
      ·
        rw [tHigh, if_pos c1, if_neg (nt c2), if_pos c3]
        exact (⟨w_t.kind, w_t.reg, (lengthsT_w (Int.toNat (bShr .u8 b 3))), w_t.period, w_t.timer, (by decide : rng 256 0), w_t.level, w_t.count, w_t.sweep, w_t.line, w_t.row⟩ : Tone.ok ({ t with length := (lengthsT (Int.toNat (bShr .u8 b 3))), step := 0, begins := true } : Tone))
      ·
        rw [tHigh, if_pos c1, if_neg (nt c2), if_neg (nt c3)]
        exact (⟨w_t.kind, w_t.reg, (lengthsT_w (Int.toNat (bShr .u8 b 3))), w_t.period, w_t.timer, w_t.step, w_t.level, w_t.count, w_t.sweep, w_t.line, w_t.row⟩ : Tone.ok ({ t with length := (lengthsT (Int.toNat (bShr .u8 b 3))), begins := true } : Tone))
  ·
    rcases bt ((t.kind : Int) != 3) with c2 | c2
    ·
      rcases bt (decide ((t.kind : Int) ≤ 1)) with c3 | c3
      ·
        rw [tHigh, if_neg (nt c1), if_pos c2, if_pos c3]
        exact (⟨w_t.kind, w_t.reg, w_t.length, (rng_bOr_u16 (bAnd .u16 t.period 255) (bShl .u16 (IntKind.u16.wrap (bAnd .u8 b 7)) 8)), w_t.timer, (by decide : rng 256 0), w_t.level, w_t.count, w_t.sweep, w_t.line, w_t.row⟩ : Tone.ok ({ t with period := (bOr .u16 (bAnd .u16 t.period 255) (bShl .u16 (IntKind.u16.wrap (bAnd .u8 b 7)) 8)), step := 0, begins := true } : Tone))
      ·
        rw [tHigh, if_neg (nt c1), if_pos c2, if_neg (nt c3)]
        exact (⟨w_t.kind, w_t.reg, w_t.length, (rng_bOr_u16 (bAnd .u16 t.period 255) (bShl .u16 (IntKind.u16.wrap (bAnd .u8 b 7)) 8)), w_t.timer, w_t.step, w_t.level, w_t.count, w_t.sweep, w_t.line, w_t.row⟩ : Tone.ok ({ t with period := (bOr .u16 (bAnd .u16 t.period 255) (bShl .u16 (IntKind.u16.wrap (bAnd .u8 b 7)) 8)), begins := true } : Tone))
    ·
      rcases bt (decide ((t.kind : Int) ≤ 1)) with c3 | c3
      ·
        rw [tHigh, if_neg (nt c1), if_neg (nt c2), if_pos c3]
        exact (⟨w_t.kind, w_t.reg, w_t.length, w_t.period, w_t.timer, (by decide : rng 256 0), w_t.level, w_t.count, w_t.sweep, w_t.line, w_t.row⟩ : Tone.ok ({ t with step := 0, begins := true } : Tone))
      ·
        rw [tHigh, if_neg (nt c1), if_neg (nt c2), if_neg (nt c3)]
        exact (⟨w_t.kind, w_t.reg, w_t.length, w_t.period, w_t.timer, w_t.step, w_t.level, w_t.count, w_t.sweep, w_t.line, w_t.row⟩ : Tone.ok ({ t with begins := true } : Tone))

/-- (*kotatsu/tone.Tone).Copy -/
def tCopy (t : Tone) : Tone :=
  ({ t with reg := (upd (upd (upd (upd (fun _ => 0) 0 (t.reg 0)) 1 (t.reg 1)) 2 (t.reg 2)) 3 (t.reg 3)) } : Tone)
theorem tCopy_p1 (t : Tone) : FnSpec Tryd.prog 53 1001 [.pointer (some ⟨1000, 0, none⟩)] [(1000, Tone.blk t)] (.pointer (some ⟨1001, 0, none⟩)) [(1000, Tone.blk t), (1001, Tone.blk ({ t with reg := (upd (upd (upd (upd (fun _ => 0) 0 (t.reg 0)) 1 (t.reg 1)) 2 (t.reg 2)) 3 (t.reg 3)) } : Tone))] := by
  exact fn_of_x hG hM Tryd.func53 (by kernel_rfl) (by kernel_rfl) 400 [.no, .segs [.one (.int .u8 0), .one (.bool false), .ints .u8 4 (fun _ => 0), .one (.int .u8 0), .one (.int .u16 0), .one (.int .u16 0), .one (.int .u8 0), .one (.bool false), .one (.int .u8 0), .one (.int .u8 0), .one (.int .u8 0), .one (.bool false), .one (.int .u8 0), .one (.int .u16 0)]] (J (Eq.refl false) trivial) (by kernel_rfl)
theorem tCopy_ok (t : Tone) : FnSpec Tryd.prog 53 1001 [.pointer (some ⟨1000, 0, none⟩)] [(1000, Tone.blk t)] (.pointer (some ⟨1001, 0, none⟩)) [(1000, Tone.blk t), (1001, Tone.blk (tCopy t))] := by
  exact tCopy_p1 t

theorem tCopy_w (t : Tone) (w_t : Tone.ok t) : Tone.ok (tCopy t) := by
  rw [tCopy]
  exact (⟨w_t.kind, (rng_upd (rng_upd (rng_upd (rng_upd (fun _ => (by decide : rng 256 0)) 0 (w_t.reg 0)) 1 (w_t.reg 1)) 2 (w_t.reg 2)) 3 (w_t.reg 3)), w_t.length, w_t.period, w_t.timer, w_t.step, w_t.level, w_t.count, w_t.sweep, w_t.line, w_t.row⟩ : Tone.ok ({ t with reg := (upd (upd (upd (upd (fun _ => 0) 0 (t.reg 0)) 1 (t.reg 1)) 2 (t.reg 2)) 3 (t.reg 3)) } : Tone))

/-- (*kotatsu/tone.Tone).Put -/
def tPut_0 (t : Tone) (b : Int) : Tone :=
  ({ t with reg := (upd t.reg 0 b) } : Tone)
theorem tPut_0_p1 (t : Tone) (b : Int) : FnSpec Tryd.prog 29 1001 [.pointer (some ⟨1000, 0, none⟩), .int .u8 0, .int .u8 b] [(1000, Tone.blk t)] (.tuple ⟨[]⟩) [(1000, Tone.blk ({ t with reg := (upd t.reg 0 b) } : Tone))] := by
  exact fn_of_x hG hM Tryd.func29 (by kernel_rfl) (by kernel_rfl) 400 [.no, .no, .no, .no, .no, .lit 0, .no, .no, .no, .no, .no, .no, .no, .no, .no, .no] (J (Eq.refl false) (J (Eq.refl false) (J (Eq.refl false) (J (Eq.refl false) (J (Eq.refl false) (J (Eq.refl (0 : Int)) (J (by decide : 0 < 4) (J (Eq.refl false) (J (Eq.refl false) (J (Eq.refl false) (J (Eq.refl false) (J (Eq.refl false) (J (Eq.refl false) (J (Eq.refl false) (J (Eq.refl false) (J (Eq.refl false) (J (Eq.refl false) trivial))))))))))))))))) (by kernel_rfl)
theorem tPut_0_ok (t : Tone) (b : Int) : FnSpec Tryd.prog 29 1001 [.pointer (some ⟨1000, 0, none⟩), .int .u8 0, .int .u8 b] [(1000, Tone.blk t)] (.tuple ⟨[]⟩) [(1000, Tone.blk (tPut_0 t b))] := by
  exact tPut_0_p1 t b

theorem tPut_0_w (t : Tone) (b : Int) (w_t : Tone.ok t) (w_b : rng 256 b) : Tone.ok (tPut_0 t b) := by
  rw [tPut_0]
  exact (⟨w_t.kind, (rng_upd w_t.reg 0 w_b), w_t.length, w_t.period, w_t.timer, w_t.step, w_t.level, w_t.count, w_t.sweep, w_t.line, w_t.row⟩ : Tone.ok ({ t with reg := (upd t.reg 0 b) } : Tone))

/-- (*kotatsu/tone.Tone).Put -/
def tPut_1 (t : Tone) (b : Int) : Tone :=
  ({ t with reg := (upd t.reg 1 b), swept := true } : Tone)
theorem tPut_1_p1 (t : Tone) (b : Int) : FnSpec Tryd.prog 29 1001 [.pointer (some ⟨1000, 0, none⟩), .int .u8 1, .int .u8 b] [(1000, Tone.blk t)] (.tuple ⟨[]⟩) [(1000, Tone.blk ({ t with reg := (upd t.reg 1 b), swept := true } : Tone))] := by
  exact fn_of_x hG hM Tryd.func29 (by kernel_rfl) (by kernel_rfl) 400 [.no, .no, .no, .no, .no, .lit 1, .yes] (J (Eq.refl false) (J (Eq.refl false) (J (Eq.refl false) (J (Eq.refl false) (J (Eq.refl false) (J (Eq.refl (1 : Int)) (J (by decide : 1 < 4) (J (Eq.refl true) trivial)))))))) (by kernel_rfl)
theorem tPut_1_ok (t : Tone) (b : Int) : FnSpec Tryd.prog 29 1001 [.pointer (some ⟨1000, 0, none⟩), .int .u8 1, .int .u8 b] [(1000, Tone.blk t)] (.tuple ⟨[]⟩) [(1000, Tone.blk (tPut_1 t b))] := by
  exact tPut_1_p1 t b

theorem tPut_1_w (t : Tone) (b : Int) (w_t : Tone.ok t) (w_b : rng 256 b) : Tone.ok (tPut_1 t b) := by
  rw [tPut_1]
  exact (⟨w_t.kind, (rng_upd w_t.reg 1 w_b), w_t.length, w_t.period, w_t.timer, w_t.step, w_t.level, w_t.count, w_t.sweep, w_t.line, w_t.row⟩ : Tone.ok ({ t with reg := (upd t.reg 1 b), swept := true } : Tone))

/-- (*kotatsu/tone.Tone).Put -/
def tPut_2 (t : Tone) (b : Int) : Tone :=
  if ((t.kind : Int) == 3) = true then
    ({ t with reg := (upd t.reg 2 b), period := (IntKind.u16.wrap ((noisesT (Int.toNat (bAnd .u8 b 15))) - 1)) } : Tone)
  else
    ({ t with reg := (upd t.reg 2 b), period := (bOr .u16 (bAndNot .u16 t.period 255) (IntKind.u16.wrap b)) } : Tone)
theorem tPut_2_p1 (t : Tone) (b : Int) (c1 : ((t.kind : Int) == 3) = true) : FnSpec Tryd.prog 29 1001 [.pointer (some ⟨1000, 0, none⟩), .int .u8 2, .int .u8 b] [tb0, (1000, Tone.blk t)] (.tuple ⟨[]⟩) [(1000, Tone.blk ({ t with reg := (upd t.reg 2 b), period := (IntKind.u16.wrap ((noisesT (Int.toNat (bAnd .u8 b 15))) - 1)) } : Tone))] := by
  exact fn_of_x hG hM Tryd.func29 (by kernel_rfl) (by kernel_rfl) 400 [.no, .no, .no, .no, .no, .lit 2, .no, .yes, .yes, .yes, .yes, .yes, .yes, .yes, .sym] (J (Eq.refl false) (J (Eq.refl false) (J (Eq.refl false) (J (Eq.refl false) (J (Eq.refl false) (J (Eq.refl (2 : Int)) (J (by decide : 2 < 4) (J (Eq.refl false) (J (Eq.refl true) (J (Eq.refl true) (J (Eq.refl true) (J (Eq.refl true) (J (Eq.refl true) (J (Eq.refl true) (J c1 (J (rng_and_lit_u8 (n := 16) (m := 15) b (by decide)) (J (toNat_lt (rng_and_lit_u8 (n := 16) (m := 15) b (by decide))) trivial))))))))))))))))) (by kernel_rfl)
theorem tPut_2_p2 (t : Tone) (b : Int) (c1 : ((t.kind : Int) == 3) = false) : FnSpec Tryd.prog 29 1001 [.pointer (some ⟨1000, 0, none⟩), .int .u8 2, .int .u8 b] [tb0, (1000, Tone.blk t)] (.tuple ⟨[]⟩) [(1000, Tone.blk ({ t with reg := (upd t.reg 2 b), period := (bOr .u16 (bAndNot .u16 t.period 255) (IntKind.u16.wrap b)) } : Tone))] := by
  exact fn_of_x hG hM Tryd.func29 (by kernel_rfl) (by kernel_rfl) 400 [.no, .no, .no, .no, .no, .lit 2, .no, .yes, .yes, .yes, .yes, .yes, .yes, .no, .yes] (J (Eq.refl false) (J (Eq.refl false) (J (Eq.refl false) (J (Eq.refl false) (J (Eq.refl false) (J (Eq.refl (2 : Int)) (J (by decide : 2 < 4) (J (Eq.refl false) (J (Eq.refl true) (J (Eq.refl true) (J (Eq.refl true) (J (Eq.refl true) (J (Eq.refl true) (J (Eq.refl true) (J c1 (J (Eq.refl true) trivial)))))))))))))))) (by kernel_rfl)
theorem tPut_2_ok (t : Tone) (b : Int) : FnSpec Tryd.prog 29 1001 [.pointer (some ⟨1000, 0, none⟩), .int .u8 2, .int .u8 b] [tb0, (1000, Tone.blk t)] (.tuple ⟨[]⟩) [(1000, Tone.blk (tPut_2 t b))] := by
  rcases bt ((t.kind : Int) == 3) with c1 | c1
  ·
    rw [tPut_2, if_pos c1]
    exact tPut_2_p1 t b c1
  ·
    rw [tPut_2, if_neg (nt c1)]
    exact tPut_2_p2 t b c1

theorem tPut_2_w (t : Tone) (b : Int) (w_t : Tone.ok t) (w_b : rng 256 b) : Tone.ok (tPut_2 t b) := by
  rcases bt ((t.kind : Int) == 3) with c1 | c1
  ·
    rw [tPut_2, if_pos c1]
    exact (⟨w_t.kind, (rng_upd w_t.reg 2 w_b), w_t.length, (rng_wrap_u16 ((noisesT (Int.toNat (bAnd .u8 b 15))) - 1)), w_t.timer, w_t.step, w_t.level, w_t.count, w_t.sweep, w_t.line, w_t.row⟩ : Tone.ok ({ t with reg := (upd t.reg 2 b), period := (IntKind.u16.wrap ((noisesT (Int.toNat (bAnd .u8 b 15))) - 1)) } : Tone))
  ·
    rw [tPut_2, if_neg (nt c1)]
    exact (⟨w_t.kind, (rng_upd w_t.reg 2 w_b), w_t.length, (rng_bOr_u16 (bAndNot .u16 t.period 255) (IntKind.u16.wrap b)), w_t.timer, w_t.step, w_t.level, w_t.count, w_t.sweep, w_t.line, w_t.row⟩ : Tone.ok ({ t with reg := (upd t.reg 2 b), period := (bOr .u16 (bAndNot .u16 t.period 255) (IntKind.u16.wrap b)) } : Tone))

/-- (*kotatsu/tone.Tone).Put -/
def tPut_3 (t : Tone) (b : Int) : Tone :=
  (tHigh ({ t with reg := (upd t.reg 3 b) } : Tone) b)
theorem tPut_3_p1 (t : Tone) (b : Int) (w_b : rng 256 b) : FnSpec Tryd.prog 29 1001 [.pointer (some ⟨1000, 0, none⟩), .int .u8 3, .int .u8 b] [tb4, (1000, Tone.blk t)] (.tuple ⟨[]⟩) [(1000, Tone.blk (tHigh ({ t with reg := (upd t.reg 3 b) } : Tone) b))] := by
  exact fn_of_x hG hM Tryd.func29 (by kernel_rfl) (by kernel_rfl) 400 [.no, .no, .no, .no, .no, .lit 3, .no, .no, .no, .no, .no, .no, .no, .no, .no, .yes, .call [(4, 4), (1000, 1000)] [] 1001 (.tuple ⟨[]⟩) [(1000, Tone.blk (tHigh ({ t with reg := (upd t.reg 3 b) } : Tone) b))]] (J (Eq.refl false) (J (Eq.refl false) (J (Eq.refl false) (J (Eq.refl false) (J (Eq.refl false) (J (Eq.refl (3 : Int)) (J (by decide : 3 < 4) (J (Eq.refl false) (J (Eq.refl false) (J (Eq.refl false) (J (Eq.refl false) (J (Eq.refl false) (J (Eq.refl false) (J (Eq.refl false) (J (Eq.refl false) (J (Eq.refl false) (J (Eq.refl true) (J (tHigh_ok ({ t with reg := (upd t.reg 3 b) } : Tone) b w_b) trivial)))))))))))))))))) (by kernel_rfl)
theorem tPut_3_ok (t : Tone) (b : Int) (w_b : rng 256 b) : FnSpec Tryd.prog 29 1001 [.pointer (some ⟨1000, 0, none⟩), .int .u8 3, .int .u8 b] [tb4, (1000, Tone.blk t)] (.tuple ⟨[]⟩) [(1000, Tone.blk (tPut_3 t b))] := by
  exact tPut_3_p1 t b w_b

theorem tPut_3_w (t : Tone) (b : Int) (w_t : Tone.ok t) (w_b : rng 256 b) : Tone.ok (tPut_3 t b) := by
  rw [tPut_3]
  exact (tHigh_w ({ t with reg := (upd t.reg 3 b) } : Tone) b (⟨w_t.kind, (rng_upd w_t.reg 3 w_b), w_t.length, w_t.period, w_t.timer, w_t.step, w_t.level, w_t.count, w_t.sweep, w_t.line, w_t.row⟩ : Tone.ok ({ t with reg := (upd t.reg 3 b) } : Tone)) w_b)

/-- (*kotatsu/tone.Tone).Put -/
def tPut (t : Tone) (reg : Int) (b : Int) : Tone :=
  if (decide (((IntKind.i64.wrap reg) : Int) ≥ 4)) = true then
    t
  else
    if ((reg : Int) == 1) = true then
      ({ t with reg := (upd t.reg (Int.toNat reg) b), swept := true } : Tone)
    else
      if ((reg : Int) == 2) = true then
        if ((t.kind : Int) == 3) = true then
          ({ t with reg := (upd t.reg (Int.toNat reg) b), period := (IntKind.u16.wrap ((noisesT (Int.toNat (bAnd .u8 b 15))) - 1)) } : Tone)
        else
          ({ t with reg := (upd t.reg (Int.toNat reg) b), period := (bOr .u16 (bAndNot .u16 t.period 255) (IntKind.u16.wrap b)) } : Tone)
      else
        if ((reg : Int) == 3) = true then
          (tHigh ({ t with reg := (upd t.reg (Int.toNat reg) b) } : Tone) b)
        else
          ({ t with reg := (upd t.reg (Int.toNat reg) b) } : Tone)
theorem tPut_p1 (t : Tone) (reg : Int) (b : Int) (w_t : Tone.ok t) (w_reg : rng 256 reg) (w_b : rng 256 b) (c1 : (decide (((IntKind.i64.wrap reg) : Int) ≥ 4)) = true) : FnSpec Tryd.prog 29 1001 [.pointer (some ⟨1000, 0, none⟩), .int .u8 reg, .int .u8 b] [tb0, tb4, (1000, Tone.blk t)] (.tuple ⟨[]⟩) [(1000, Tone.blk t)] := by
  exact fn_of_x hG hM Tryd.func29 (by kernel_rfl) (by kernel_rfl) 400 [.no, .no, .no, .no, .yes] (J (Eq.refl false) (J (Eq.refl false) (J (Eq.refl false) (J (Eq.refl false) (J c1 trivial))))) (by kernel_rfl)
theorem tPut_p2 (t : Tone) (reg : Int) (b : Int) (w_t : Tone.ok t) (w_reg : rng 256 reg) (w_b : rng 256 b) (c1 : (decide (((IntKind.i64.wrap reg) : Int) ≥ 4)) = false) (c2 : ((reg : Int) == 1) = true) : FnSpec Tryd.prog 29 1001 [.pointer (some ⟨1000, 0, none⟩), .int .u8 reg, .int .u8 b] [tb0, tb4, (1000, Tone.blk t)] (.tuple ⟨[]⟩) [(1000, Tone.blk ({ t with reg := (upd t.reg (Int.toNat reg) b), swept := true } : Tone))] := by
  have o1 : 0 ≤ reg ∧ reg < ((4 : Nat) : Int) := by first | decide | omega | (simp only [decide_eq_true_eq, decide_eq_false_iff_not, rng, IntKind.wrap_i64, IntKind.wrap_u8, IntKind.wrap_u16] at *; omega)
  have o2 : (Int.toNat reg) < 4 := by first | decide | omega | (simp only [decide_eq_true_eq, decide_eq_false_iff_not, rng, IntKind.wrap_i64, IntKind.wrap_u8, IntKind.wrap_u16] at *; omega)
  exact fn_of_x hG hM Tryd.func29 (by kernel_rfl) (by kernel_rfl) 400 [.no, .no, .no, .no, .no, .sym, .yes] (J (Eq.refl false) (J (Eq.refl false) (J (Eq.refl false) (J (Eq.refl false) (J c1 (J o1 (J o2 (J c2 trivial)))))))) (by kernel_rfl)
theorem tPut_p3 (t : Tone) (reg : Int) (b : Int) (w_t : Tone.ok t) (w_reg : rng 256 reg) (w_b : rng 256 b) (c1 : (decide (((IntKind.i64.wrap reg) : Int) ≥ 4)) = false) (c2 : ((reg : Int) == 1) = false) (c3 : ((reg : Int) == 2) = true) (c4 : ((t.kind : Int) == 3) = true) : FnSpec Tryd.prog 29 1001 [.pointer (some ⟨1000, 0, none⟩), .int .u8 reg, .int .u8 b] [tb0, tb4, (1000, Tone.blk t)] (.tuple ⟨[]⟩) [(1000, Tone.blk ({ t with reg := (upd t.reg (Int.toNat reg) b), period := (IntKind.u16.wrap ((noisesT (Int.toNat (bAnd .u8 b 15))) - 1)) } : Tone))] := by
  have o1 : 0 ≤ reg ∧ reg < ((4 : Nat) : Int) := by first | decide | omega | (simp only [decide_eq_true_eq, decide_eq_false_iff_not, rng, IntKind.wrap_i64, IntKind.wrap_u8, IntKind.wrap_u16] at *; omega)
  have o2 : (Int.toNat reg) < 4 := by first | decide | omega | (simp only [decide_eq_true_eq, decide_eq_false_iff_not, rng, IntKind.wrap_i64, IntKind.wrap_u8, IntKind.wrap_u16] at *; omega)
  exact fn_of_x hG hM Tryd.func29 (by kernel_rfl) (by kernel_rfl) 400 [.no, .no, .no, .no, .no, .sym, .no, .yes, .yes, .yes, .yes, .yes, .yes, .yes, .sym] (J (Eq.refl false) (J (Eq.refl false) (J (Eq.refl false) (J (Eq.refl false) (J c1 (J o1 (J o2 (J c2 (J c3 (J c3 (J c3 (J c3 (J c3 (J c3 (J c4 (J (rng_and_lit_u8 (n := 16) (m := 15) b (by decide)) (J (toNat_lt (rng_and_lit_u8 (n := 16) (m := 15) b (by decide))) trivial))))))))))))))))) (by kernel_rfl)
theorem tPut_p4 (t : Tone) (reg : Int) (b : Int) (w_t : Tone.ok t) (w_reg : rng 256 reg) (w_b : rng 256 b) (c1 : (decide (((IntKind.i64.wrap reg) : Int) ≥ 4)) = false) (c2 : ((reg : Int) == 1) = false) (c3 : ((reg : Int) == 2) = true) (c4 : ((t.kind : Int) == 3) = false) : FnSpec Tryd.prog 29 1001 [.pointer (some ⟨1000, 0, none⟩), .int .u8 reg, .int .u8 b] [tb0, tb4, (1000, Tone.blk t)] (.tuple ⟨[]⟩) [(1000, Tone.blk ({ t with reg := (upd t.reg (Int.toNat reg) b), period := (bOr .u16 (bAndNot .u16 t.period 255) (IntKind.u16.wrap b)) } : Tone))] := by
  have o1 : 0 ≤ reg ∧ reg < ((4 : Nat) : Int) := by first | decide | omega | (simp only [decide_eq_true_eq, decide_eq_false_iff_not, rng, IntKind.wrap_i64, IntKind.wrap_u8, IntKind.wrap_u16] at *; omega)
  have o2 : (Int.toNat reg) < 4 := by first | decide | omega | (simp only [decide_eq_true_eq, decide_eq_false_iff_not, rng, IntKind.wrap_i64, IntKind.wrap_u8, IntKind.wrap_u16] at *; omega)
  exact fn_of_x hG hM Tryd.func29 (by kernel_rfl) (by kernel_rfl) 400 [.no, .no, .no, .no, .no, .sym, .no, .yes, .yes, .yes, .yes, .yes, .yes, .no, .yes] (J (Eq.refl false) (J (Eq.refl false) (J (Eq.refl false) (J (Eq.refl false) (J c1 (J o1 (J o2 (J c2 (J c3 (J c3 (J c3 (J c3 (J c3 (J c3 (J c4 (J c3 trivial)))))))))))))))) (by kernel_rfl)
theorem tPut_p5 (t : Tone) (reg : Int) (b : Int) (w_t : Tone.ok t) (w_reg : rng 256 reg) (w_b : rng 256 b) (c1 : (decide (((IntKind.i64.wrap reg) : Int) ≥ 4)) = false) (c2 : ((reg : Int) == 1) = false) (c3 : ((reg : Int) == 2) = false) (c4 : ((reg : Int) == 3) = true) : FnSpec Tryd.prog 29 1001 [.pointer (some ⟨1000, 0, none⟩), .int .u8 reg, .int .u8 b] [tb0, tb4, (1000, Tone.blk t)] (.tuple ⟨[]⟩) [(1000, Tone.blk (tHigh ({ t with reg := (upd t.reg (Int.toNat reg) b) } : Tone) b))] := by
  have o1 : 0 ≤ reg ∧ reg < ((4 : Nat) : Int) := by first | decide | omega | (simp only [decide_eq_true_eq, decide_eq_false_iff_not, rng, IntKind.wrap_i64, IntKind.wrap_u8, IntKind.wrap_u16] at *; omega)
  have o2 : (Int.toNat reg) < 4 := by first | decide | omega | (simp only [decide_eq_true_eq, decide_eq_false_iff_not, rng, IntKind.wrap_i64, IntKind.wrap_u8, IntKind.wrap_u16] at *; omega)
  exact fn_of_x hG hM Tryd.func29 (by kernel_rfl) (by kernel_rfl) 400 [.no, .no, .no, .no, .no, .sym, .no, .no, .no, .no, .no, .no, .no, .no, .no, .yes, .call [(4, 4), (1000, 1000)] [] 1001 (.tuple ⟨[]⟩) [(1000, Tone.blk (tHigh ({ t with reg := (upd t.reg (Int.toNat reg) b) } : Tone) b))]] (J (Eq.refl false) (J (Eq.refl false) (J (Eq.refl false) (J (Eq.refl false) (J c1 (J o1 (J o2 (J c2 (J c3 (J c3 (J c3 (J c3 (J c3 (J c3 (J (Eq.refl false) (J c3 (J c4 (J (tHigh_ok ({ t with reg := (upd t.reg (Int.toNat reg) b) } : Tone) b w_b) trivial)))))))))))))))))) (by kernel_rfl)
theorem tPut_p6 (t : Tone) (reg : Int) (b : Int) (w_t : Tone.ok t) (w_reg : rng 256 reg) (w_b : rng 256 b) (c1 : (decide (((IntKind.i64.wrap reg) : Int) ≥ 4)) = false) (c2 : ((reg : Int) == 1) = false) (c3 : ((reg : Int) == 2) = false) (c4 : ((reg : Int) == 3) = false) : FnSpec Tryd.prog 29 1001 [.pointer (some ⟨1000, 0, none⟩), .int .u8 reg, .int .u8 b] [tb0, tb4, (1000, Tone.blk t)] (.tuple ⟨[]⟩) [(1000, Tone.blk ({ t with reg := (upd t.reg (Int.toNat reg) b) } : Tone))] := by
  have o1 : 0 ≤ reg ∧ reg < ((4 : Nat) : Int) := by first | decide | omega | (simp only [decide_eq_true_eq, decide_eq_false_iff_not, rng, IntKind.wrap_i64, IntKind.wrap_u8, IntKind.wrap_u16] at *; omega)
  have o2 : (Int.toNat reg) < 4 := by first | decide | omega | (simp only [decide_eq_true_eq, decide_eq_false_iff_not, rng, IntKind.wrap_i64, IntKind.wrap_u8, IntKind.wrap_u16] at *; omega)
  exact fn_of_x hG hM Tryd.func29 (by kernel_rfl) (by kernel_rfl) 400 [.no, .no, .no, .no, .no, .sym, .no, .no, .no, .no, .no, .no, .no, .no, .no, .no] (J (Eq.refl false) (J (Eq.refl false) (J (Eq.refl false) (J (Eq.refl false) (J c1 (J o1 (J o2 (J c2 (J c3 (J c3 (J c3 (J c3 (J c3 (J c3 (J (Eq.refl false) (J c3 (J c4 trivial))))))))))))))))) (by kernel_rfl)
theorem tPut_ok (t : Tone) (reg : Int) (b : Int) (w_t : Tone.ok t) (w_reg : rng 256 reg) (w_b : rng 256 b) : FnSpec Tryd.prog 29 1001 [.pointer (some ⟨1000, 0, none⟩), .int .u8 reg, .int .u8 b] [tb0, tb4, (1000, Tone.blk t)] (.tuple ⟨[]⟩) [(1000, Tone.blk (tPut t reg b))] := by
  rcases bt (decide (((IntKind.i64.wrap reg) : Int) ≥ 4)) with c1 | c1
  ·
    rw [tPut, if_pos c1]
    exact tPut_p1 t reg b w_t w_reg w_b c1
  ·
    rcases bt ((reg : Int) == 1) with c2 | c2
    ·
      rw [tPut, if_neg (nt c1), if_pos c2]
      exact tPut_p2 t reg b w_t w_reg w_b c1 c2
    ·
      rcases bt ((reg : Int) == 2) with c3 | c3
      ·
        rcases bt ((t.kind : Int) == 3) with c4 | c4
        ·
          rw [tPut, if_neg (nt c1), if_neg (nt c2), if_pos c3, if_pos c4]
          exact tPut_p3 t reg b w_t w_reg w_b c1 c2 c3 c4
        ·
          rw [tPut, if_neg (nt c1), if_neg (nt c2), if_pos c3, if_neg (nt c4)]
          exact tPut_p4 t reg b w_t w_reg w_b c1 c2 c3 c4
      ·
        rcases bt ((reg : Int) == 3) with c4 | c4
        ·
          rw [tPut, if_neg (nt c1), if_neg (nt c2), if_neg (nt c3), if_pos c4]
          exact tPut_p5 t reg b w_t w_reg w_b c1 c2 c3 c4
        ·
          rw [tPut, if_neg (nt c1), if_neg (nt c2), if_neg (nt c3), if_neg (nt c4)]
          exact tPut_p6 t reg b w_t w_reg w_b c1 c2 c3 c4

theorem tPut_w (t : Tone) (reg : Int) (b : Int) (w_t : Tone.ok t) (w_reg : rng 256 reg) (w_b : rng 256 b) : Tone.ok (tPut t reg b) := by
  rcases bt (decide (((IntKind.i64.wrap reg) : Int) ≥ 4)) with c1 | c1
  ·
    rw [tPut, if_pos c1]
    exact w_t
  ·
    rcases bt ((reg : Int) == 1) with c2 | c2
    ·
      rw [tPut, if_neg (nt c1), if_pos c2]
      exact (⟨w_t.kind, (rng_upd w_t.reg (Int.toNat reg) w_b), w_t.length, w_t.period, w_t.timer, w_t.step, w_t.level, w_t.count, w_t.sweep, w_t.line, w_t.row⟩ : Tone.ok ({ t with reg := (upd t.reg (Int.toNat reg) b), swept := true } : Tone))
    ·
      rcases bt ((reg : Int) == 2) with c3 | c3
      ·
        rcases bt ((t.kind : Int) == 3) with c4 | c4
        ·
          rw [tPut, if_neg (nt c1), if_neg (nt c2), if_pos c3, if_pos c4]
          exact (⟨w_t.kind, (rng_upd w_t.reg (Int.toNat reg) w_b), w_t.length, (rng_wrap_u16 ((noisesT (Int.toNat (bAnd .u8 b 15))) - 1)), w_t.timer, w_t.step, w_t.level, w_t.count, w_t.sweep, w_t.line, w_t.row⟩ : Tone.ok ({ t with reg := (upd t.reg (Int.toNat reg) b), period := (IntKind.u16.wrap ((noisesT (Int.toNat (bAnd .u8 b 15))) - 1)) } : Tone))
        ·
          rw [tPut, if_neg (nt c1), if_neg (nt c2), if_pos c3, if_neg (nt c4)]
          exact (⟨w_t.kind, (rng_upd w_t.reg (Int.toNat reg) w_b), w_t.length, (rng_bOr_u16 (bAndNot .u16 t.period 255) (IntKind.u16.wrap b)), w_t.timer, w_t.step, w_t.level, w_t.count, w_t.sweep, w_t.line, w_t.row⟩ : Tone.ok ({ t with reg := (upd t.reg (Int.toNat reg) b), period := (bOr .u16 (bAndNot .u16 t.period 255) (IntKind.u16.wrap b)) } : Tone))
      ·
        rcases bt ((reg : Int) == 3) with c4 | c4
        ·
          rw [tPut, if_neg (nt c1), if_neg (nt c2), if_neg (nt c3), if_pos c4]
          exact (tHigh_w ({ t with reg := (upd t.reg (Int.toNat reg) b) } : Tone) b (⟨w_t.kind, (rng_upd w_t.reg (Int.toNat reg) w_b), w_t.length, w_t.period, w_t.timer, w_t.step, w_t.level, w_t.count, w_t.sweep, w_t.line, w_t.row⟩ : Tone.ok ({ t with reg := (upd t.reg (Int.toNat reg) b) } : Tone)) w_b)
        ·
          rw [tPut, if_neg (nt c1), if_neg (nt c2), if_neg (nt c3), if_neg (nt c4)]
          exact (⟨w_t.kind, (rng_upd w_t.reg (Int.toNat reg) w_b), w_t.length, w_t.period, w_t.timer, w_t.step, w_t.level, w_t.count, w_t.sweep, w_t.line, w_t.row⟩ : Tone.ok ({ t with reg := (upd t.reg (Int.toNat reg) b) } : Tone))

end Go.Proofs.YtgpcfjokmonlgaaDoor
