/-
  Texts laid together: SA, SB, SC, SO. No condition.
-/
import Derived.Test.YtgpcfjokmonlgaaDoorRows
import Derived.Test.YtgpcfjokmonlgaaDoorMPb
namespace Go.Proofs.YtgpcfjokmonlgaaDoor
open Go VX
open Go.IntKind (i64 u8 u16)
set_option linter.unusedVariables false
set_option linter.unusedSimpArgs false
set_option maxRecDepth 100000
theorem hG : Tryd.prog.globals.size ≤ 1000 := of_decide_eq_true (by kernel_rfl)
theorem hM : Tryd.prog.follows .mixedOrders = true := by kernel_rfl
theorem bt (b : Bool) : b = true ∨ b = false := by cases b <;> simp
theorem nt {b : Bool} (h : b = false) : ¬ b = true := by rw [h]; decide
theorem nf {b : Bool} (h : b = false) : (!b) = true := by rw [h]; rfl
def noisesL : List Int := [4, 8, 16, 32, 64, 96, 128, 160, 202, 254, 380, 508, 762, 1016, 2034, 4068]
def ratesL : List Int := [428, 380, 340, 320, 286, 254, 226, 214, 190, 160, 142, 128, 106, 84, 72, 54]
def dutiesL : List Int := [64, 96, 120, 159]
def lengthsL : List Int := [10, 254, 20, 2, 40, 4, 80, 6, 160, 8, 60, 10, 14, 12, 26, 14, 12, 16, 24, 18, 48, 20, 96, 22, 192, 24, 72, 26, 16, 28, 32, 30]
def noisesT : Nat → Int := fun r => noisesL.getD r 0
def ratesT : Nat → Int := fun r => ratesL.getD r 0
def dutiesT : Nat → Int := fun r => dutiesL.getD r 0
def lengthsT : Nat → Int := fun r => lengthsL.getD r 0
theorem noisesT_w (r : Nat) : rng 65536 (noisesT r) := rng_list (by decide) noisesL (by unfold noisesL; simp only [allR]; decide) r
theorem ratesT_w (r : Nat) : rng 65536 (ratesT r) := rng_list (by decide) ratesL (by unfold ratesL; simp only [allR]; decide) r
theorem dutiesT_w (r : Nat) : rng 256 (dutiesT r) := rng_list (by decide) dutiesL (by unfold dutiesL; simp only [allR]; decide) r
theorem lengthsT_w (r : Nat) : rng 256 (lengthsT r) := rng_list (by decide) lengthsL (by unfold lengthsL; simp only [allR]; decide) r
def tb0 : Nat × Blk := (0, ⟨[.ints .u16 16 noisesT], 84, true⟩)
def tb1 : Nat × Blk := (1, ⟨[.one (.int .i64 7457), .one (.int .i64 14913), .one (.int .i64 22371), .one (.int .i64 29829), .one (.int .i64 7457), .one (.int .i64 14913), .one (.int .i64 22371), .one (.int .i64 37281)], 88, true⟩)
def tb2 : Nat × Blk := (2, ⟨[.ints .u16 16 ratesT], 84, true⟩)
def tb3 : Nat × Blk := (3, ⟨[.ints .u8 4 dutiesT], 60, true⟩)
def tb4 : Nat × Blk := (4, ⟨[.ints .u8 32 lengthsT], 92, true⟩)
structure Tone where
  kind : Int
  on : Bool
  reg : Nat → Int
  length : Int
  period : Int
  timer : Int
  step : Int
  begins : Bool
  level : Int
  count : Int
  sweep : Int
  swept : Bool
  line : Int
  row : Int
def Tone.enc (s : Tone) : Value := .agg ⟨[.int .u8 s.kind, .bool s.on, .int .u8 (s.reg 0), .int .u8 (s.reg 1), .int .u8 (s.reg 2), .int .u8 (s.reg 3), .int .u8 s.length, .int .u16 s.period, .int .u16 s.timer, .int .u8 s.step, .bool s.begins, .int .u8 s.level, .int .u8 s.count, .int .u8 s.sweep, .bool s.swept, .int .u8 s.line, .int .u16 s.row]⟩
def Tone.blk (s : Tone) : Blk := ⟨[.one (.int .u8 s.kind), .one (.bool s.on), .ints .u8 4 s.reg, .one (.int .u8 s.length), .one (.int .u16 s.period), .one (.int .u16 s.timer), .one (.int .u8 s.step), .one (.bool s.begins), .one (.int .u8 s.level), .one (.int .u8 s.count), .one (.int .u8 s.sweep), .one (.bool s.swept), .one (.int .u8 s.line), .one (.int .u16 s.row)], 83, false⟩
def Tone.cells (s : Tone) : List Value := [.int .u8 s.kind, .bool s.on, .int .u8 (s.reg 0), .int .u8 (s.reg 1), .int .u8 (s.reg 2), .int .u8 (s.reg 3), .int .u8 s.length, .int .u16 s.period, .int .u16 s.timer, .int .u8 s.step, .bool s.begins, .int .u8 s.level, .int .u8 s.count, .int .u8 s.sweep, .bool s.swept, .int .u8 s.line, .int .u16 s.row]
structure Tone.ok (s : Tone) : Prop where
  kind : rng 256 s.kind
  reg : ∀ j, rng 256 (s.reg j)
  length : rng 256 s.length
  period : rng 65536 s.period
  timer : rng 65536 s.timer
  step : rng 256 s.step
  level : rng 256 s.level
  count : rng 256 s.count
  sweep : rng 256 s.sweep
  line : rng 256 s.line
  row : rng 65536 s.row
def tNew_0  : Tone :=
  ({ kind := 0, on := false, reg := (fun j => List.getD [0, 0, 0, 0] j 0), length := 0, period := 0, timer := 0, step := 0, begins := false, level := 0, count := 0, sweep := 0, swept := false, line := 0, row := 1 } : Tone)
theorem tNew_0_ok  : FnSpec Tryd.prog 28 1000 [.int .u8 0] [] (.pointer (some ⟨1000, 0, none⟩)) [(1000, Tone.blk tNew_0)] := by
  unfold tNew_0
  exact fn_of_x hG hM Tryd.func28 (by kernel_rfl) (by kernel_rfl) 400 [.no, .group [1, 1, 4, 1, 1, 1, 1, 1, 1, 1, 1, 1, 1, 1], .no] (J T0 (J T0 trivial)) (by kernel_rfl)
theorem tNew_0_w  : Tone.ok tNew_0 := by
  unfold tNew_0
  exact (⟨(by decide : rng 256 0), (rng_list (n := 256) (by decide) [0, 0, 0, 0] ⟨(by decide : rng 256 0), ⟨(by decide : rng 256 0), ⟨(by decide : rng 256 0), ⟨(by decide : rng 256 0), trivial⟩⟩⟩⟩), (by decide : rng 256 0), (by decide : rng 65536 0), (by decide : rng 65536 0), (by decide : rng 256 0), (by decide : rng 256 0), (by decide : rng 256 0), (by decide : rng 256 0), (by decide : rng 256 0), (by decide : rng 65536 1)⟩ : Tone.ok ({ kind := 0, on := false, reg := (fun j => List.getD [0, 0, 0, 0] j 0), length := 0, period := 0, timer := 0, step := 0, begins := false, level := 0, count := 0, sweep := 0, swept := false, line := 0, row := 1 } : Tone))
def tNew_1  : Tone :=
  ({ kind := 1, on := false, reg := (fun j => List.getD [0, 0, 0, 0] j 0), length := 0, period := 0, timer := 0, step := 0, begins := false, level := 0, count := 0, sweep := 0, swept := false, line := 0, row := 1 } : Tone)
theorem tNew_1_ok  : FnSpec Tryd.prog 28 1000 [.int .u8 1] [] (.pointer (some ⟨1000, 0, none⟩)) [(1000, Tone.blk tNew_1)] := by
  unfold tNew_1
  exact fn_of_x hG hM Tryd.func28 (by kernel_rfl) (by kernel_rfl) 400 [.no, .group [1, 1, 4, 1, 1, 1, 1, 1, 1, 1, 1, 1, 1, 1], .no] (J T0 (J T0 trivial)) (by kernel_rfl)
theorem tNew_1_w  : Tone.ok tNew_1 := by
  unfold tNew_1
  exact (⟨(by decide : rng 256 1), (rng_list (n := 256) (by decide) [0, 0, 0, 0] ⟨(by decide : rng 256 0), ⟨(by decide : rng 256 0), ⟨(by decide : rng 256 0), ⟨(by decide : rng 256 0), trivial⟩⟩⟩⟩), (by decide : rng 256 0), (by decide : rng 65536 0), (by decide : rng 65536 0), (by decide : rng 256 0), (by decide : rng 256 0), (by decide : rng 256 0), (by decide : rng 256 0), (by decide : rng 256 0), (by decide : rng 65536 1)⟩ : Tone.ok ({ kind := 1, on := false, reg := (fun j => List.getD [0, 0, 0, 0] j 0), length := 0, period := 0, timer := 0, step := 0, begins := false, level := 0, count := 0, sweep := 0, swept := false, line := 0, row := 1 } : Tone))
def tNew_2  : Tone :=
  ({ kind := 2, on := false, reg := (fun j => List.getD [0, 0, 0, 0] j 0), length := 0, period := 0, timer := 0, step := 0, begins := false, level := 0, count := 0, sweep := 0, swept := false, line := 0, row := 1 } : Tone)
theorem tNew_2_ok  : FnSpec Tryd.prog 28 1000 [.int .u8 2] [] (.pointer (some ⟨1000, 0, none⟩)) [(1000, Tone.blk tNew_2)] := by
  unfold tNew_2
  exact fn_of_x hG hM Tryd.func28 (by kernel_rfl) (by kernel_rfl) 400 [.no, .group [1, 1, 4, 1, 1, 1, 1, 1, 1, 1, 1, 1, 1, 1], .no] (J T0 (J T0 trivial)) (by kernel_rfl)
theorem tNew_2_w  : Tone.ok tNew_2 := by
  unfold tNew_2
  exact (⟨(by decide : rng 256 2), (rng_list (n := 256) (by decide) [0, 0, 0, 0] ⟨(by decide : rng 256 0), ⟨(by decide : rng 256 0), ⟨(by decide : rng 256 0), ⟨(by decide : rng 256 0), trivial⟩⟩⟩⟩), (by decide : rng 256 0), (by decide : rng 65536 0), (by decide : rng 65536 0), (by decide : rng 256 0), (by decide : rng 256 0), (by decide : rng 256 0), (by decide : rng 256 0), (by decide : rng 256 0), (by decide : rng 65536 1)⟩ : Tone.ok ({ kind := 2, on := false, reg := (fun j => List.getD [0, 0, 0, 0] j 0), length := 0, period := 0, timer := 0, step := 0, begins := false, level := 0, count := 0, sweep := 0, swept := false, line := 0, row := 1 } : Tone))
def tNew_3  : Tone :=
  ({ kind := 3, on := false, reg := (fun j => List.getD [0, 0, 0, 0] j 0), length := 0, period := (u16.wrap ((noisesT 0) - 1)), timer := 0, step := 0, begins := false, level := 0, count := 0, sweep := 0, swept := false, line := 0, row := 1 } : Tone)
theorem tNew_3_ok  : FnSpec Tryd.prog 28 1000 [.int .u8 3] [tb0] (.pointer (some ⟨1000, 0, none⟩)) [(1000, Tone.blk tNew_3)] := by
  unfold tNew_3
  exact fn_of_x hG hM Tryd.func28 (by kernel_rfl) (by kernel_rfl) 400 [.no, .group [1, 1, 4, 1, 1, 1, 1, 1, 1, 1, 1, 1, 1, 1], .yes, .lit 0] (J T0 (J T1 (J (Eq.refl (0 : Int)) (J (by decide : 0 < 16) trivial)))) (by kernel_rfl)
theorem tNew_3_w  : Tone.ok tNew_3 := by
  unfold tNew_3
  exact (⟨(by decide : rng 256 3), (rng_list (n := 256) (by decide) [0, 0, 0, 0] ⟨(by decide : rng 256 0), ⟨(by decide : rng 256 0), ⟨(by decide : rng 256 0), ⟨(by decide : rng 256 0), trivial⟩⟩⟩⟩), (by decide : rng 256 0), (rng_wrap_u16 ((noisesT 0) - 1)), (by decide : rng 65536 0), (by decide : rng 256 0), (by decide : rng 256 0), (by decide : rng 256 0), (by decide : rng 256 0), (by decide : rng 256 0), (by decide : rng 65536 1)⟩ : Tone.ok ({ kind := 3, on := false, reg := (fun j => List.getD [0, 0, 0, 0] j 0), length := 0, period := (u16.wrap ((noisesT 0) - 1)), timer := 0, step := 0, begins := false, level := 0, count := 0, sweep := 0, swept := false, line := 0, row := 1 } : Tone))
def tEnable (t : Tone) (on : Bool) : Tone :=
  if (!on) = true then
    ({ t with on := on, length := 0 } : Tone)
  else
    ({ t with on := on } : Tone)
theorem tEnable_ok (t : Tone) (on : Bool) : FnSpec Tryd.prog 31 1001 [.pointer (some ⟨1000, 0, none⟩), .bool on] [(1000, Tone.blk t)] (.tuple ⟨[]⟩) [(1000, Tone.blk (tEnable t on))] := by
  unfold tEnable
  rcases bt (!on) with c1 | c1
  · rw [if_pos c1]
    exact fn_of_x hG hM Tryd.func31 (by kernel_rfl) (by kernel_rfl) 400 [.no, .yes] (J T0 (J c1 trivial)) (by kernel_rfl)
  · rw [if_neg (nt c1)]
    exact fn_of_x hG hM Tryd.func31 (by kernel_rfl) (by kernel_rfl) 400 [.no, .no] (J T0 (J c1 trivial)) (by kernel_rfl)
theorem tEnable_w (t : Tone) (on : Bool) (w_t : Tone.ok t) : Tone.ok (tEnable t on) := by
  unfold tEnable
  rcases bt (!on) with c1 | c1
  · rw [if_pos c1]
    exact (⟨w_t.kind, w_t.reg, (by decide : rng 256 0), w_t.period, w_t.timer, w_t.step, w_t.level, w_t.count, w_t.sweep, w_t.line, w_t.row⟩ : Tone.ok ({ t with on := on, length := 0 } : Tone))
  · rw [if_neg (nt c1)]
    exact (⟨w_t.kind, w_t.reg, w_t.length, w_t.period, w_t.timer, w_t.step, w_t.level, w_t.count, w_t.sweep, w_t.line, w_t.row⟩ : Tone.ok ({ t with on := on } : Tone))
def tLive (t : Tone) : Bool :=
  (decide (t.length > 0))
theorem tLive_ok (t : Tone) : FnSpec Tryd.prog 34 1001 [.pointer (some ⟨1000, 0, none⟩)] [(1000, (Tone.blk t).lend)] (.bool (tLive t)) [] := by
  unfold tLive
  exact fn_of_x hG hM Tryd.func34 (by kernel_rfl) (by kernel_rfl) 400 [.yes, .yes, .yes, .yes, .yes, .yes] (J T1 (J T1 (J T1 (J T1 (J T1 (J T1 trivial)))))) (by kernel_rfl)
def tTarget (t : Tone) : Int :=
  if ((bAnd .u8 (t.reg 1) 8) == 0) = true then
    (u16.wrap (t.period + (bShr .u16 t.period (bAnd .u8 (t.reg 1) 7))))
  else
    if (t.kind == 0) = true then
      (u16.wrap (t.period - (if t.period < (u16.wrap ((bShr .u16 t.period (bAnd .u8 (t.reg 1) 7)) + 1)) then t.period else (u16.wrap ((bShr .u16 t.period (bAnd .u8 (t.reg 1) 7)) + 1)))))
    else
      (u16.wrap (t.period - (if t.period < (bShr .u16 t.period (bAnd .u8 (t.reg 1) 7)) then t.period else (bShr .u16 t.period (bAnd .u8 (t.reg 1) 7)))))
theorem tTarget_ok (t : Tone) : FnSpec Tryd.prog 67 1001 [.pointer (some ⟨1000, 0, none⟩)] [(1000, (Tone.blk t).lend)] (.int .u16 (tTarget t)) [] := by
  unfold tTarget
  rcases bt ((bAnd .u8 (t.reg 1) 8) == 0) with c1 | c1
  · rw [if_pos c1]
    exact fn_of_x hG hM Tryd.func67 (by kernel_rfl) (by kernel_rfl) 400 [.lit 1, .lit 1, .yes] (J (Eq.refl (1 : Int)) (J (by decide : 1 < 4) (J (rng_bAnd_u8 (t.reg 1) 7).1 (J (Eq.refl (1 : Int)) (J (by decide : 1 < 4) (J c1 trivial)))))) (by kernel_rfl)
  · rw [if_neg (nt c1)]
    rcases bt (t.kind == 0) with c2 | c2
    · rw [if_pos c2]
      exact fn_of_x hG hM Tryd.func67 (by kernel_rfl) (by kernel_rfl) 400 [.lit 1, .lit 1, .no, .yes] (J (Eq.refl (1 : Int)) (J (by decide : 1 < 4) (J (rng_bAnd_u8 (t.reg 1) 7).1 (J (Eq.refl (1 : Int)) (J (by decide : 1 < 4) (J c1 (J c2 trivial))))))) (by kernel_rfl)
    · rw [if_neg (nt c2)]
      exact fn_of_x hG hM Tryd.func67 (by kernel_rfl) (by kernel_rfl) 400 [.lit 1, .lit 1, .no, .no] (J (Eq.refl (1 : Int)) (J (by decide : 1 < 4) (J (rng_bAnd_u8 (t.reg 1) 7).1 (J (Eq.refl (1 : Int)) (J (by decide : 1 < 4) (J c1 (J c2 trivial))))))) (by kernel_rfl)
theorem tTarget_w (t : Tone) (w_t : Tone.ok t) : rng 65536 (tTarget t) := by
  unfold tTarget
  rcases bt ((bAnd .u8 (t.reg 1) 8) == 0) with c1 | c1
  · rw [if_pos c1]
    exact (rng_wrap_u16 (t.period + (bShr .u16 t.period (bAnd .u8 (t.reg 1) 7))))
  · rw [if_neg (nt c1)]
    rcases bt (t.kind == 0) with c2 | c2
    · rw [if_pos c2]
      exact (rng_wrap_u16 (t.period - (if t.period < (u16.wrap ((bShr .u16 t.period (bAnd .u8 (t.reg 1) 7)) + 1)) then t.period else (u16.wrap ((bShr .u16 t.period (bAnd .u8 (t.reg 1) 7)) + 1)))))
    · rw [if_neg (nt c2)]
      exact (rng_wrap_u16 (t.period - (if t.period < (bShr .u16 t.period (bAnd .u8 (t.reg 1) 7)) then t.period else (bShr .u16 t.period (bAnd .u8 (t.reg 1) 7)))))
def tMute (t : Tone) : Bool :=
  if (decide (t.period < 8)) = true then
    true
  else
    (decide ((tTarget t) > 2047))
theorem tMute_ok (t : Tone) : FnSpec Tryd.prog 60 1001 [.pointer (some ⟨1000, 0, none⟩)] [(1000, (Tone.blk t).lend)] (.bool (tMute t)) [] := by
  unfold tMute
  rcases bt (decide (t.period < 8)) with c1 | c1
  · rw [if_pos c1]
    exact fn_of_x hG hM Tryd.func60 (by kernel_rfl) (by kernel_rfl) 400 [.yes, .yes, .yes, .yes] (J c1 (J c1 (J c1 (J c1 trivial)))) (by kernel_rfl)
  · rw [if_neg (nt c1)]
    exact fn_of_x hG hM Tryd.func60 (by kernel_rfl) (by kernel_rfl) 400 [.no, .no, .call [(1000, 1000)] [] 1001 (.int .u16 (tTarget t)) [], .no, .no] (J c1 (J c1 (J (tTarget_ok t) (J c1 (J c1 trivial))))) (by kernel_rfl)
def tQuarter (t : Tone) : Tone :=
  if (t.kind == 2) = true then
    if t.begins = true then
      ({ t with begins := ((bAnd .u8 (t.reg 0) 128) != 0), line := (bAndNot .u8 (t.reg 0) 128) } : Tone)
    else
      if (decide (t.line > 0)) = true then
        ({ t with begins := false, line := (u8.wrap (t.line - 1)) } : Tone)
      else
        ({ t with begins := false } : Tone)
  else
    if t.begins = true then
      ({ t with begins := false, level := 15, count := (bAnd .u8 (t.reg 0) 15) } : Tone)
    else
      if (decide (t.count > 0)) = true then
        ({ t with count := (u8.wrap (t.count - 1)) } : Tone)
      else
        if (decide (t.level > 0)) = true then
          ({ t with level := (u8.wrap (t.level - 1)), count := (bAnd .u8 (t.reg 0) 15) } : Tone)
        else
          if ((bAnd .u8 (t.reg 0) 32) != 0) = true then
            ({ t with level := 15, count := (bAnd .u8 (t.reg 0) 15) } : Tone)
          else
            ({ t with count := (bAnd .u8 (t.reg 0) 15) } : Tone)
theorem tQuarter_ok (t : Tone) : FnSpec Tryd.prog 57 1001 [.pointer (some ⟨1000, 0, none⟩)] [(1000, Tone.blk t)] (.tuple ⟨[]⟩) [(1000, Tone.blk (tQuarter t))] := by
  unfold tQuarter
  rcases bt (t.kind == 2) with c1 | c1
  · rw [if_pos c1]
    rcases bt t.begins with c2 | c2
    · rw [if_pos c2]
      exact fn_of_x hG hM Tryd.func57 (by kernel_rfl) (by kernel_rfl) 400 [.no, .yes, .yes, .lit 0, .yes, .yes, .yes, .yes, .lit 0, .yes, .yes, .yes, .yes] (J T0 (J c1 (J c2 (J (Eq.refl (0 : Int)) (J (by decide : 0 < 4) (J c2 (J c2 (J c2 (J c2 (J (Eq.refl (0 : Int)) (J (by decide : 0 < 4) (J c2 (J c2 (J c2 (J c2 trivial))))))))))))))) (by kernel_rfl)
    · rw [if_neg (nt c2)]
      rcases bt (decide (t.line > 0)) with c3 | c3
      · rw [if_pos c3]
        exact fn_of_x hG hM Tryd.func57 (by kernel_rfl) (by kernel_rfl) 400 [.no, .yes, .no, .yes, .no, .no, .no, .no, .no, .no, .no, .no] (J T0 (J c1 (J c2 (J c3 (J c2 (J c2 (J c2 (J c2 (J c2 (J c2 (J c2 (J c2 trivial)))))))))))) (by kernel_rfl)
      · rw [if_neg (nt c3)]
        exact fn_of_x hG hM Tryd.func57 (by kernel_rfl) (by kernel_rfl) 400 [.no, .yes, .no, .no, .no, .no, .no, .no, .no, .no, .no, .no] (J T0 (J c1 (J c2 (J c3 (J c2 (J c2 (J c2 (J c2 (J c2 (J c2 (J c2 (J c2 trivial)))))))))))) (by kernel_rfl)
  · rw [if_neg (nt c1)]
    rcases bt t.begins with c2 | c2
    · rw [if_pos c2]
      exact fn_of_x hG hM Tryd.func57 (by kernel_rfl) (by kernel_rfl) 400 [.no, .no, .lit 0, .yes] (J T0 (J c1 (J (Eq.refl (0 : Int)) (J (by decide : 0 < 4) (J c2 trivial))))) (by kernel_rfl)
    · rw [if_neg (nt c2)]
      rcases bt (decide (t.count > 0)) with c3 | c3
      · rw [if_pos c3]
        exact fn_of_x hG hM Tryd.func57 (by kernel_rfl) (by kernel_rfl) 400 [.no, .no, .lit 0, .no, .yes] (J T0 (J c1 (J (Eq.refl (0 : Int)) (J (by decide : 0 < 4) (J c2 (J c3 trivial)))))) (by kernel_rfl)
      · rw [if_neg (nt c3)]
        rcases bt (decide (t.level > 0)) with c4 | c4
        · rw [if_pos c4]
          exact fn_of_x hG hM Tryd.func57 (by kernel_rfl) (by kernel_rfl) 400 [.no, .no, .lit 0, .no, .no, .yes] (J T0 (J c1 (J (Eq.refl (0 : Int)) (J (by decide : 0 < 4) (J c2 (J c3 (J c4 trivial))))))) (by kernel_rfl)
        · rw [if_neg (nt c4)]
          rcases bt ((bAnd .u8 (t.reg 0) 32) != 0) with c5 | c5
          · rw [if_pos c5]
            exact fn_of_x hG hM Tryd.func57 (by kernel_rfl) (by kernel_rfl) 400 [.no, .no, .lit 0, .no, .no, .no, .lit 0, .yes] (J T0 (J c1 (J (Eq.refl (0 : Int)) (J (by decide : 0 < 4) (J c2 (J c3 (J c4 (J (Eq.refl (0 : Int)) (J (by decide : 0 < 4) (J c5 trivial)))))))))) (by kernel_rfl)
          · rw [if_neg (nt c5)]
            exact fn_of_x hG hM Tryd.func57 (by kernel_rfl) (by kernel_rfl) 400 [.no, .no, .lit 0, .no, .no, .no, .lit 0, .no] (J T0 (J c1 (J (Eq.refl (0 : Int)) (J (by decide : 0 < 4) (J c2 (J c3 (J c4 (J (Eq.refl (0 : Int)) (J (by decide : 0 < 4) (J c5 trivial)))))))))) (by kernel_rfl)
theorem tQuarter_w (t : Tone) (w_t : Tone.ok t) : Tone.ok (tQuarter t) := by
  unfold tQuarter
  rcases bt (t.kind == 2) with c1 | c1
  · rw [if_pos c1]
    rcases bt t.begins with c2 | c2
    · rw [if_pos c2]
      exact (⟨w_t.kind, w_t.reg, w_t.length, w_t.period, w_t.timer, w_t.step, w_t.level, w_t.count, w_t.sweep, (rng_bAndNot_u8 (t.reg 0) 128), w_t.row⟩ : Tone.ok ({ t with begins := ((bAnd .u8 (t.reg 0) 128) != 0), line := (bAndNot .u8 (t.reg 0) 128) } : Tone))
    · rw [if_neg (nt c2)]
      rcases bt (decide (t.line > 0)) with c3 | c3
      · rw [if_pos c3]
        exact (⟨w_t.kind, w_t.reg, w_t.length, w_t.period, w_t.timer, w_t.step, w_t.level, w_t.count, w_t.sweep, (rng_wrap_u8 (t.line - 1)), w_t.row⟩ : Tone.ok ({ t with begins := false, line := (u8.wrap (t.line - 1)) } : Tone))
      · rw [if_neg (nt c3)]
        exact (⟨w_t.kind, w_t.reg, w_t.length, w_t.period, w_t.timer, w_t.step, w_t.level, w_t.count, w_t.sweep, w_t.line, w_t.row⟩ : Tone.ok ({ t with begins := false } : Tone))
  · rw [if_neg (nt c1)]
    rcases bt t.begins with c2 | c2
    · rw [if_pos c2]
      exact (⟨w_t.kind, w_t.reg, w_t.length, w_t.period, w_t.timer, w_t.step, (by decide : rng 256 15), (rng_bAnd_u8 (t.reg 0) 15), w_t.sweep, w_t.line, w_t.row⟩ : Tone.ok ({ t with begins := false, level := 15, count := (bAnd .u8 (t.reg 0) 15) } : Tone))
    · rw [if_neg (nt c2)]
      rcases bt (decide (t.count > 0)) with c3 | c3
      · rw [if_pos c3]
        exact (⟨w_t.kind, w_t.reg, w_t.length, w_t.period, w_t.timer, w_t.step, w_t.level, (rng_wrap_u8 (t.count - 1)), w_t.sweep, w_t.line, w_t.row⟩ : Tone.ok ({ t with count := (u8.wrap (t.count - 1)) } : Tone))
      · rw [if_neg (nt c3)]
        rcases bt (decide (t.level > 0)) with c4 | c4
        · rw [if_pos c4]
          exact (⟨w_t.kind, w_t.reg, w_t.length, w_t.period, w_t.timer, w_t.step, (rng_wrap_u8 (t.level - 1)), (rng_bAnd_u8 (t.reg 0) 15), w_t.sweep, w_t.line, w_t.row⟩ : Tone.ok ({ t with level := (u8.wrap (t.level - 1)), count := (bAnd .u8 (t.reg 0) 15) } : Tone))
        · rw [if_neg (nt c4)]
          rcases bt ((bAnd .u8 (t.reg 0) 32) != 0) with c5 | c5
          · rw [if_pos c5]
            exact (⟨w_t.kind, w_t.reg, w_t.length, w_t.period, w_t.timer, w_t.step, (by decide : rng 256 15), (rng_bAnd_u8 (t.reg 0) 15), w_t.sweep, w_t.line, w_t.row⟩ : Tone.ok ({ t with level := 15, count := (bAnd .u8 (t.reg 0) 15) } : Tone))
          · rw [if_neg (nt c5)]
            exact (⟨w_t.kind, w_t.reg, w_t.length, w_t.period, w_t.timer, w_t.step, w_t.level, (rng_bAnd_u8 (t.reg 0) 15), w_t.sweep, w_t.line, w_t.row⟩ : Tone.ok ({ t with count := (bAnd .u8 (t.reg 0) 15) } : Tone))
def tHalf (t : Tone) : Tone :=
  if (t.kind == 2) = true then
    if (decide (t.length > 0)) = true then
      if ((bAnd .u8 (t.reg 0) 128) == 0) = true then
        if (decide (t.kind > 1)) = true then
          ({ t with length := (u8.wrap (t.length - 1)) } : Tone)
        else
          if (t.sweep == 0) = true then
            if ((bAnd .u8 (t.reg 1) 128) != 0) = true then
              if ((bAnd .u8 (t.reg 1) 7) != 0) = true then
                if (!(tMute ({ t with length := (u8.wrap (t.length - 1)) } : Tone))) = true then
                  ({ t with length := (u8.wrap (t.length - 1)), period := (tTarget ({ t with length := (u8.wrap (t.length - 1)) } : Tone)), sweep := (bAnd .u8 (bShr .u8 (t.reg 1) 4) 7), swept := false } : Tone)
                else
                  ({ t with length := (u8.wrap (t.length - 1)), sweep := (bAnd .u8 (bShr .u8 (t.reg 1) 4) 7), swept := false } : Tone)
              else
                ({ t with length := (u8.wrap (t.length - 1)), sweep := (bAnd .u8 (bShr .u8 (t.reg 1) 4) 7), swept := false } : Tone)
            else
              ({ t with length := (u8.wrap (t.length - 1)), sweep := (bAnd .u8 (bShr .u8 (t.reg 1) 4) 7), swept := false } : Tone)
          else
            if t.swept = true then
              ({ t with length := (u8.wrap (t.length - 1)), sweep := (bAnd .u8 (bShr .u8 (t.reg 1) 4) 7), swept := false } : Tone)
            else
              ({ t with length := (u8.wrap (t.length - 1)), sweep := (u8.wrap (t.sweep - 1)) } : Tone)
      else
        if (decide (t.kind > 1)) = true then
          t
        else
          if (t.sweep == 0) = true then
            if ((bAnd .u8 (t.reg 1) 128) != 0) = true then
              if ((bAnd .u8 (t.reg 1) 7) != 0) = true then
                if (!(tMute t)) = true then
                  ({ t with period := (tTarget t), sweep := (bAnd .u8 (bShr .u8 (t.reg 1) 4) 7), swept := false } : Tone)
                else
                  ({ t with sweep := (bAnd .u8 (bShr .u8 (t.reg 1) 4) 7), swept := false } : Tone)
              else
                ({ t with sweep := (bAnd .u8 (bShr .u8 (t.reg 1) 4) 7), swept := false } : Tone)
            else
              ({ t with sweep := (bAnd .u8 (bShr .u8 (t.reg 1) 4) 7), swept := false } : Tone)
          else
            if t.swept = true then
              ({ t with sweep := (bAnd .u8 (bShr .u8 (t.reg 1) 4) 7), swept := false } : Tone)
            else
              ({ t with sweep := (u8.wrap (t.sweep - 1)) } : Tone)
    else
      if (decide (t.kind > 1)) = true then
        t
      else
        if (t.sweep == 0) = true then
          if ((bAnd .u8 (t.reg 1) 128) != 0) = true then
            if ((bAnd .u8 (t.reg 1) 7) != 0) = true then
              if (!(tMute t)) = true then
                ({ t with period := (tTarget t), sweep := (bAnd .u8 (bShr .u8 (t.reg 1) 4) 7), swept := false } : Tone)
              else
                ({ t with sweep := (bAnd .u8 (bShr .u8 (t.reg 1) 4) 7), swept := false } : Tone)
            else
              ({ t with sweep := (bAnd .u8 (bShr .u8 (t.reg 1) 4) 7), swept := false } : Tone)
          else
            ({ t with sweep := (bAnd .u8 (bShr .u8 (t.reg 1) 4) 7), swept := false } : Tone)
        else
          if t.swept = true then
            ({ t with sweep := (bAnd .u8 (bShr .u8 (t.reg 1) 4) 7), swept := false } : Tone)
          else
            ({ t with sweep := (u8.wrap (t.sweep - 1)) } : Tone)
  else
    if (decide (t.length > 0)) = true then
      if ((bAnd .u8 (t.reg 0) 32) == 0) = true then
        if (decide (t.kind > 1)) = true then
          ({ t with length := (u8.wrap (t.length - 1)) } : Tone)
        else
          if (t.sweep == 0) = true then
            if ((bAnd .u8 (t.reg 1) 128) != 0) = true then
              if ((bAnd .u8 (t.reg 1) 7) != 0) = true then
                if (!(tMute ({ t with length := (u8.wrap (t.length - 1)) } : Tone))) = true then
                  ({ t with length := (u8.wrap (t.length - 1)), period := (tTarget ({ t with length := (u8.wrap (t.length - 1)) } : Tone)), sweep := (bAnd .u8 (bShr .u8 (t.reg 1) 4) 7), swept := false } : Tone)
                else
                  ({ t with length := (u8.wrap (t.length - 1)), sweep := (bAnd .u8 (bShr .u8 (t.reg 1) 4) 7), swept := false } : Tone)
              else
                ({ t with length := (u8.wrap (t.length - 1)), sweep := (bAnd .u8 (bShr .u8 (t.reg 1) 4) 7), swept := false } : Tone)
            else
              ({ t with length := (u8.wrap (t.length - 1)), sweep := (bAnd .u8 (bShr .u8 (t.reg 1) 4) 7), swept := false } : Tone)
          else
            if t.swept = true then
              ({ t with length := (u8.wrap (t.length - 1)), sweep := (bAnd .u8 (bShr .u8 (t.reg 1) 4) 7), swept := false } : Tone)
            else
              ({ t with length := (u8.wrap (t.length - 1)), sweep := (u8.wrap (t.sweep - 1)) } : Tone)
      else
        if (decide (t.kind > 1)) = true then
          t
        else
          if (t.sweep == 0) = true then
            if ((bAnd .u8 (t.reg 1) 128) != 0) = true then
              if ((bAnd .u8 (t.reg 1) 7) != 0) = true then
                if (!(tMute t)) = true then
                  ({ t with period := (tTarget t), sweep := (bAnd .u8 (bShr .u8 (t.reg 1) 4) 7), swept := false } : Tone)
                else
                  ({ t with sweep := (bAnd .u8 (bShr .u8 (t.reg 1) 4) 7), swept := false } : Tone)
              else
                ({ t with sweep := (bAnd .u8 (bShr .u8 (t.reg 1) 4) 7), swept := false } : Tone)
            else
              ({ t with sweep := (bAnd .u8 (bShr .u8 (t.reg 1) 4) 7), swept := false } : Tone)
          else
            if t.swept = true then
              ({ t with sweep := (bAnd .u8 (bShr .u8 (t.reg 1) 4) 7), swept := false } : Tone)
            else
              ({ t with sweep := (u8.wrap (t.sweep - 1)) } : Tone)
    else
      if (decide (t.kind > 1)) = true then
        t
      else
        if (t.sweep == 0) = true then
          if ((bAnd .u8 (t.reg 1) 128) != 0) = true then
            if ((bAnd .u8 (t.reg 1) 7) != 0) = true then
              if (!(tMute t)) = true then
                ({ t with period := (tTarget t), sweep := (bAnd .u8 (bShr .u8 (t.reg 1) 4) 7), swept := false } : Tone)
              else
                ({ t with sweep := (bAnd .u8 (bShr .u8 (t.reg 1) 4) 7), swept := false } : Tone)
            else
              ({ t with sweep := (bAnd .u8 (bShr .u8 (t.reg 1) 4) 7), swept := false } : Tone)
          else
            ({ t with sweep := (bAnd .u8 (bShr .u8 (t.reg 1) 4) 7), swept := false } : Tone)
        else
          if t.swept = true then
            ({ t with sweep := (bAnd .u8 (bShr .u8 (t.reg 1) 4) 7), swept := false } : Tone)
          else
            ({ t with sweep := (u8.wrap (t.sweep - 1)) } : Tone)
theorem tHalf_ok (t : Tone) : FnSpec Tryd.prog 58 1001 [.pointer (some ⟨1000, 0, none⟩)] [(1000, Tone.blk t)] (.tuple ⟨[]⟩) [(1000, Tone.blk (tHalf t))] := by
  unfold tHalf
  rcases bt (t.kind == 2) with c1 | c1
  · rw [if_pos c1]
    rcases bt (decide (t.length > 0)) with c2 | c2
    · rw [if_pos c2]
      rcases bt ((bAnd .u8 (t.reg 0) 128) == 0) with c3 | c3
      · rw [if_pos c3]
        rcases bt (decide (t.kind > 1)) with c4 | c4
        · rw [if_pos c4]
          exact fn_of_x hG hM Tryd.func58 (by kernel_rfl) (by kernel_rfl) 400 [.no, .yes, .yes, .yes, .yes, .yes, .lit 0, .yes, .yes, .yes, .yes, .yes, .yes, .yes] (J T0 (J c1 (J c2 (J c2 (J c2 (J c2 (J (Eq.refl (0 : Int)) (J (by decide : 0 < 4) (J c2 (J c2 (J c2 (J c2 (J c2 (J c3 (J c4 trivial))))))))))))))) (by kernel_rfl)
        · rw [if_neg (nt c4)]
          rcases bt (t.sweep == 0) with c5 | c5
          · rw [if_pos c5]
            rcases bt ((bAnd .u8 (t.reg 1) 128) != 0) with c6 | c6
            · rw [if_pos c6]
              rcases bt ((bAnd .u8 (t.reg 1) 7) != 0) with c7 | c7
              · rw [if_pos c7]
                rcases bt (!(tMute ({ t with length := (u8.wrap (t.length - 1)) } : Tone))) with c8 | c8
                · rw [if_pos c8]
                  exact fn_of_x hG hM Tryd.func58 (by kernel_rfl) (by kernel_rfl) 400 [.no, .yes, .yes, .yes, .yes, .yes, .lit 0, .yes, .yes, .yes, .yes, .yes, .yes, .no, .lit 1, .yes, .yes, .yes, .yes, .yes, .yes, .yes, .yes, .yes, .yes, .callr [(1000, 1000)] [1000] [] 1001 (.bool (tMute ({ t with length := (u8.wrap (t.length - 1)) } : Tone))) [], .yes, .yes, .yes, .callr [(1000, 1000)] [1000] [] 1001 (.int .u16 (tTarget ({ t with length := (u8.wrap (t.length - 1)) } : Tone))) [], .yes, .yes, .yes, .yes, .yes, .yes] (J T0 (J c1 (J c2 (J c2 (J c2 (J c2 (J (Eq.refl (0 : Int)) (J (by decide : 0 < 4) (J c2 (J c2 (J c2 (J c2 (J c2 (J c3 (J c4 (J (Eq.refl (1 : Int)) (J (by decide : 1 < 4) (J c5 (J c5 (J c5 (J c5 (J c6 (J c6 (J c6 (J c6 (J c7 (J c7 (J (tMute_ok ({ t with length := (u8.wrap (t.length - 1)) } : Tone)) (J c7 (J c7 (J c8 (J (tTarget_ok ({ t with length := (u8.wrap (t.length - 1)) } : Tone)) (J c5 (J c5 (J c5 (J c5 (J c5 (J T1 (J (by decide : (0 : Int) ≤ 4) trivial))))))))))))))))))))))))))))))))))))))) (by kernel_rfl)
                · rw [if_neg (nt c8)]
                  exact fn_of_x hG hM Tryd.func58 (by kernel_rfl) (by kernel_rfl) 400 [.no, .yes, .yes, .yes, .yes, .yes, .lit 0, .yes, .yes, .yes, .yes, .yes, .yes, .no, .lit 1, .yes, .yes, .yes, .yes, .yes, .yes, .yes, .yes, .yes, .yes, .callr [(1000, 1000)] [1000] [] 1001 (.bool (tMute ({ t with length := (u8.wrap (t.length - 1)) } : Tone))) [], .yes, .yes, .no, .yes, .yes, .yes, .yes, .yes, .yes] (J T0 (J c1 (J c2 (J c2 (J c2 (J c2 (J (Eq.refl (0 : Int)) (J (by decide : 0 < 4) (J c2 (J c2 (J c2 (J c2 (J c2 (J c3 (J c4 (J (Eq.refl (1 : Int)) (J (by decide : 1 < 4) (J c5 (J c5 (J c5 (J c5 (J c6 (J c6 (J c6 (J c6 (J c7 (J c7 (J (tMute_ok ({ t with length := (u8.wrap (t.length - 1)) } : Tone)) (J c7 (J c7 (J c8 (J c5 (J c5 (J c5 (J c5 (J c5 (J T1 (J (by decide : (0 : Int) ≤ 4) trivial)))))))))))))))))))))))))))))))))))))) (by kernel_rfl)
              · rw [if_neg (nt c7)]
                exact fn_of_x hG hM Tryd.func58 (by kernel_rfl) (by kernel_rfl) 400 [.no, .yes, .yes, .yes, .yes, .yes, .lit 0, .yes, .yes, .yes, .yes, .yes, .yes, .no, .lit 1, .yes, .yes, .yes, .yes, .yes, .yes, .yes, .yes, .no, .no, .no, .no, .no, .yes, .yes, .yes, .yes, .yes, .yes] (J T0 (J c1 (J c2 (J c2 (J c2 (J c2 (J (Eq.refl (0 : Int)) (J (by decide : 0 < 4) (J c2 (J c2 (J c2 (J c2 (J c2 (J c3 (J c4 (J (Eq.refl (1 : Int)) (J (by decide : 1 < 4) (J c5 (J c5 (J c5 (J c5 (J c6 (J c6 (J c6 (J c6 (J c7 (J c7 (J c7 (J c7 (J T0 (J c5 (J c5 (J c5 (J c5 (J c5 (J T1 (J (by decide : (0 : Int) ≤ 4) trivial))))))))))))))))))))))))))))))))))))) (by kernel_rfl)
            · rw [if_neg (nt c6)]
              exact fn_of_x hG hM Tryd.func58 (by kernel_rfl) (by kernel_rfl) 400 [.no, .yes, .yes, .yes, .yes, .yes, .lit 0, .yes, .yes, .yes, .yes, .yes, .yes, .no, .lit 1, .yes, .yes, .yes, .yes, .no, .no, .no, .no, .no, .no, .no, .no, .no, .yes, .yes, .yes, .yes, .yes, .yes] (J T0 (J c1 (J c2 (J c2 (J c2 (J c2 (J (Eq.refl (0 : Int)) (J (by decide : 0 < 4) (J c2 (J c2 (J c2 (J c2 (J c2 (J c3 (J c4 (J (Eq.refl (1 : Int)) (J (by decide : 1 < 4) (J c5 (J c5 (J c5 (J c5 (J c6 (J c6 (J c6 (J c6 (J T0 (J T0 (J T0 (J T0 (J T0 (J c5 (J c5 (J c5 (J c5 (J c5 (J T1 (J (by decide : (0 : Int) ≤ 4) trivial))))))))))))))))))))))))))))))))))))) (by kernel_rfl)
          · rw [if_neg (nt c5)]
            rcases bt t.swept with c6 | c6
            · rw [if_pos c6]
              exact fn_of_x hG hM Tryd.func58 (by kernel_rfl) (by kernel_rfl) 400 [.no, .yes, .yes, .yes, .yes, .yes, .lit 0, .yes, .yes, .yes, .yes, .yes, .yes, .no, .lit 1, .no, .no, .no, .no, .no, .no, .no, .no, .no, .no, .no, .no, .no, .no, .no, .no, .no, .no, .yes] (J T0 (J c1 (J c2 (J c2 (J c2 (J c2 (J (Eq.refl (0 : Int)) (J (by decide : 0 < 4) (J c2 (J c2 (J c2 (J c2 (J c2 (J c3 (J c4 (J (Eq.refl (1 : Int)) (J (by decide : 1 < 4) (J c5 (J c5 (J c5 (J c5 (J T0 (J T0 (J T0 (J T0 (J T0 (J T0 (J T0 (J T0 (J T0 (J c5 (J c5 (J c5 (J c5 (J c5 (J c6 (J (by decide : (0 : Int) ≤ 4) trivial))))))))))))))))))))))))))))))))))))) (by kernel_rfl)
            · rw [if_neg (nt c6)]
              exact fn_of_x hG hM Tryd.func58 (by kernel_rfl) (by kernel_rfl) 400 [.no, .yes, .yes, .yes, .yes, .yes, .lit 0, .yes, .yes, .yes, .yes, .yes, .yes, .no, .lit 1, .no, .no, .no, .no, .no, .no, .no, .no, .no, .no, .no, .no, .no, .no, .no, .no, .no, .no, .no] (J T0 (J c1 (J c2 (J c2 (J c2 (J c2 (J (Eq.refl (0 : Int)) (J (by decide : 0 < 4) (J c2 (J c2 (J c2 (J c2 (J c2 (J c3 (J c4 (J (Eq.refl (1 : Int)) (J (by decide : 1 < 4) (J c5 (J c5 (J c5 (J c5 (J T0 (J T0 (J T0 (J T0 (J T0 (J T0 (J T0 (J T0 (J T0 (J c5 (J c5 (J c5 (J c5 (J c5 (J c6 trivial)))))))))))))))))))))))))))))))))))) (by kernel_rfl)
      · rw [if_neg (nt c3)]
        rcases bt (decide (t.kind > 1)) with c4 | c4
        · rw [if_pos c4]
          exact fn_of_x hG hM Tryd.func58 (by kernel_rfl) (by kernel_rfl) 400 [.no, .yes, .yes, .yes, .yes, .yes, .lit 0, .yes, .yes, .yes, .yes, .yes, .no, .yes] (J T0 (J c1 (J c2 (J c2 (J c2 (J c2 (J (Eq.refl (0 : Int)) (J (by decide : 0 < 4) (J c2 (J c2 (J c2 (J c2 (J c2 (J c3 (J c4 trivial))))))))))))))) (by kernel_rfl)
        · rw [if_neg (nt c4)]
          rcases bt (t.sweep == 0) with c5 | c5
          · rw [if_pos c5]
            rcases bt ((bAnd .u8 (t.reg 1) 128) != 0) with c6 | c6
            · rw [if_pos c6]
              rcases bt ((bAnd .u8 (t.reg 1) 7) != 0) with c7 | c7
              · rw [if_pos c7]
                rcases bt (!(tMute t)) with c8 | c8
                · rw [if_pos c8]
                  exact fn_of_x hG hM Tryd.func58 (by kernel_rfl) (by kernel_rfl) 400 [.no, .yes, .yes, .yes, .yes, .yes, .lit 0, .yes, .yes, .yes, .yes, .yes, .no, .no, .lit 1, .yes, .yes, .yes, .yes, .yes, .yes, .yes, .yes, .yes, .yes, .callr [(1000, 1000)] [1000] [] 1001 (.bool (tMute t)) [], .yes, .yes, .yes, .callr [(1000, 1000)] [1000] [] 1001 (.int .u16 (tTarget t)) [], .yes, .yes, .yes, .yes, .yes, .yes] (J T0 (J c1 (J c2 (J c2 (J c2 (J c2 (J (Eq.refl (0 : Int)) (J (by decide : 0 < 4) (J c2 (J c2 (J c2 (J c2 (J c2 (J c3 (J c4 (J (Eq.refl (1 : Int)) (J (by decide : 1 < 4) (J c5 (J c5 (J c5 (J c5 (J c6 (J c6 (J c6 (J c6 (J c7 (J c7 (J (tMute_ok t) (J c7 (J c7 (J c8 (J (tTarget_ok t) (J c5 (J c5 (J c5 (J c5 (J c5 (J T1 (J (by decide : (0 : Int) ≤ 4) trivial))))))))))))))))))))))))))))))))))))))) (by kernel_rfl)
                · rw [if_neg (nt c8)]
                  exact fn_of_x hG hM Tryd.func58 (by kernel_rfl) (by kernel_rfl) 400 [.no, .yes, .yes, .yes, .yes, .yes, .lit 0, .yes, .yes, .yes, .yes, .yes, .no, .no, .lit 1, .yes, .yes, .yes, .yes, .yes, .yes, .yes, .yes, .yes, .yes, .callr [(1000, 1000)] [1000] [] 1001 (.bool (tMute t)) [], .yes, .yes, .no, .yes, .yes, .yes, .yes, .yes, .yes] (J T0 (J c1 (J c2 (J c2 (J c2 (J c2 (J (Eq.refl (0 : Int)) (J (by decide : 0 < 4) (J c2 (J c2 (J c2 (J c2 (J c2 (J c3 (J c4 (J (Eq.refl (1 : Int)) (J (by decide : 1 < 4) (J c5 (J c5 (J c5 (J c5 (J c6 (J c6 (J c6 (J c6 (J c7 (J c7 (J (tMute_ok t) (J c7 (J c7 (J c8 (J c5 (J c5 (J c5 (J c5 (J c5 (J T1 (J (by decide : (0 : Int) ≤ 4) trivial)))))))))))))))))))))))))))))))))))))) (by kernel_rfl)
              · rw [if_neg (nt c7)]
                exact fn_of_x hG hM Tryd.func58 (by kernel_rfl) (by kernel_rfl) 400 [.no, .yes, .yes, .yes, .yes, .yes, .lit 0, .yes, .yes, .yes, .yes, .yes, .no, .no, .lit 1, .yes, .yes, .yes, .yes, .yes, .yes, .yes, .yes, .no, .no, .no, .no, .no, .yes, .yes, .yes, .yes, .yes, .yes] (J T0 (J c1 (J c2 (J c2 (J c2 (J c2 (J (Eq.refl (0 : Int)) (J (by decide : 0 < 4) (J c2 (J c2 (J c2 (J c2 (J c2 (J c3 (J c4 (J (Eq.refl (1 : Int)) (J (by decide : 1 < 4) (J c5 (J c5 (J c5 (J c5 (J c6 (J c6 (J c6 (J c6 (J c7 (J c7 (J c7 (J c7 (J T0 (J c5 (J c5 (J c5 (J c5 (J c5 (J T1 (J (by decide : (0 : Int) ≤ 4) trivial))))))))))))))))))))))))))))))))))))) (by kernel_rfl)
            · rw [if_neg (nt c6)]
              exact fn_of_x hG hM Tryd.func58 (by kernel_rfl) (by kernel_rfl) 400 [.no, .yes, .yes, .yes, .yes, .yes, .lit 0, .yes, .yes, .yes, .yes, .yes, .no, .no, .lit 1, .yes, .yes, .yes, .yes, .no, .no, .no, .no, .no, .no, .no, .no, .no, .yes, .yes, .yes, .yes, .yes, .yes] (J T0 (J c1 (J c2 (J c2 (J c2 (J c2 (J (Eq.refl (0 : Int)) (J (by decide : 0 < 4) (J c2 (J c2 (J c2 (J c2 (J c2 (J c3 (J c4 (J (Eq.refl (1 : Int)) (J (by decide : 1 < 4) (J c5 (J c5 (J c5 (J c5 (J c6 (J c6 (J c6 (J c6 (J T0 (J T0 (J T0 (J T0 (J T0 (J c5 (J c5 (J c5 (J c5 (J c5 (J T1 (J (by decide : (0 : Int) ≤ 4) trivial))))))))))))))))))))))))))))))))))))) (by kernel_rfl)
          · rw [if_neg (nt c5)]
            rcases bt t.swept with c6 | c6
            · rw [if_pos c6]
              exact fn_of_x hG hM Tryd.func58 (by kernel_rfl) (by kernel_rfl) 400 [.no, .yes, .yes, .yes, .yes, .yes, .lit 0, .yes, .yes, .yes, .yes, .yes, .no, .no, .lit 1, .no, .no, .no, .no, .no, .no, .no, .no, .no, .no, .no, .no, .no, .no, .no, .no, .no, .no, .yes] (J T0 (J c1 (J c2 (J c2 (J c2 (J c2 (J (Eq.refl (0 : Int)) (J (by decide : 0 < 4) (J c2 (J c2 (J c2 (J c2 (J c2 (J c3 (J c4 (J (Eq.refl (1 : Int)) (J (by decide : 1 < 4) (J c5 (J c5 (J c5 (J c5 (J T0 (J T0 (J T0 (J T0 (J T0 (J T0 (J T0 (J T0 (J T0 (J c5 (J c5 (J c5 (J c5 (J c5 (J c6 (J (by decide : (0 : Int) ≤ 4) trivial))))))))))))))))))))))))))))))))))))) (by kernel_rfl)
            · rw [if_neg (nt c6)]
              exact fn_of_x hG hM Tryd.func58 (by kernel_rfl) (by kernel_rfl) 400 [.no, .yes, .yes, .yes, .yes, .yes, .lit 0, .yes, .yes, .yes, .yes, .yes, .no, .no, .lit 1, .no, .no, .no, .no, .no, .no, .no, .no, .no, .no, .no, .no, .no, .no, .no, .no, .no, .no, .no] (J T0 (J c1 (J c2 (J c2 (J c2 (J c2 (J (Eq.refl (0 : Int)) (J (by decide : 0 < 4) (J c2 (J c2 (J c2 (J c2 (J c2 (J c3 (J c4 (J (Eq.refl (1 : Int)) (J (by decide : 1 < 4) (J c5 (J c5 (J c5 (J c5 (J T0 (J T0 (J T0 (J T0 (J T0 (J T0 (J T0 (J T0 (J T0 (J c5 (J c5 (J c5 (J c5 (J c5 (J c6 trivial)))))))))))))))))))))))))))))))))))) (by kernel_rfl)
    · rw [if_neg (nt c2)]
      rcases bt (decide (t.kind > 1)) with c3 | c3
      · rw [if_pos c3]
        exact fn_of_x hG hM Tryd.func58 (by kernel_rfl) (by kernel_rfl) 400 [.no, .yes, .no, .no, .no, .no, .no, .no, .no, .no, .no, .no, .yes] (J T0 (J c1 (J c2 (J c2 (J c2 (J c2 (J c2 (J c2 (J c2 (J c2 (J c2 (J T0 (J c3 trivial))))))))))))) (by kernel_rfl)
      · rw [if_neg (nt c3)]
        rcases bt (t.sweep == 0) with c4 | c4
        · rw [if_pos c4]
          rcases bt ((bAnd .u8 (t.reg 1) 128) != 0) with c5 | c5
          · rw [if_pos c5]
            rcases bt ((bAnd .u8 (t.reg 1) 7) != 0) with c6 | c6
            · rw [if_pos c6]
              rcases bt (!(tMute t)) with c7 | c7
              · rw [if_pos c7]
                exact fn_of_x hG hM Tryd.func58 (by kernel_rfl) (by kernel_rfl) 400 [.no, .yes, .no, .no, .no, .no, .no, .no, .no, .no, .no, .no, .no, .lit 1, .yes, .yes, .yes, .yes, .yes, .yes, .yes, .yes, .yes, .yes, .callr [(1000, 1000)] [1000] [] 1001 (.bool (tMute t)) [], .yes, .yes, .yes, .callr [(1000, 1000)] [1000] [] 1001 (.int .u16 (tTarget t)) [], .yes, .yes, .yes, .yes, .yes, .yes] (J T0 (J c1 (J c2 (J c2 (J c2 (J c2 (J c2 (J c2 (J c2 (J c2 (J c2 (J T0 (J c3 (J (Eq.refl (1 : Int)) (J (by decide : 1 < 4) (J c4 (J c4 (J c4 (J c4 (J c5 (J c5 (J c5 (J c5 (J c6 (J c6 (J (tMute_ok t) (J c6 (J c6 (J c7 (J (tTarget_ok t) (J c4 (J c4 (J c4 (J c4 (J c4 (J T1 (J (by decide : (0 : Int) ≤ 4) trivial))))))))))))))))))))))))))))))))))))) (by kernel_rfl)
              · rw [if_neg (nt c7)]
                exact fn_of_x hG hM Tryd.func58 (by kernel_rfl) (by kernel_rfl) 400 [.no, .yes, .no, .no, .no, .no, .no, .no, .no, .no, .no, .no, .no, .lit 1, .yes, .yes, .yes, .yes, .yes, .yes, .yes, .yes, .yes, .yes, .callr [(1000, 1000)] [1000] [] 1001 (.bool (tMute t)) [], .yes, .yes, .no, .yes, .yes, .yes, .yes, .yes, .yes] (J T0 (J c1 (J c2 (J c2 (J c2 (J c2 (J c2 (J c2 (J c2 (J c2 (J c2 (J T0 (J c3 (J (Eq.refl (1 : Int)) (J (by decide : 1 < 4) (J c4 (J c4 (J c4 (J c4 (J c5 (J c5 (J c5 (J c5 (J c6 (J c6 (J (tMute_ok t) (J c6 (J c6 (J c7 (J c4 (J c4 (J c4 (J c4 (J c4 (J T1 (J (by decide : (0 : Int) ≤ 4) trivial)))))))))))))))))))))))))))))))))))) (by kernel_rfl)
            · rw [if_neg (nt c6)]
              exact fn_of_x hG hM Tryd.func58 (by kernel_rfl) (by kernel_rfl) 400 [.no, .yes, .no, .no, .no, .no, .no, .no, .no, .no, .no, .no, .no, .lit 1, .yes, .yes, .yes, .yes, .yes, .yes, .yes, .yes, .no, .no, .no, .no, .no, .yes, .yes, .yes, .yes, .yes, .yes] (J T0 (J c1 (J c2 (J c2 (J c2 (J c2 (J c2 (J c2 (J c2 (J c2 (J c2 (J T0 (J c3 (J (Eq.refl (1 : Int)) (J (by decide : 1 < 4) (J c4 (J c4 (J c4 (J c4 (J c5 (J c5 (J c5 (J c5 (J c6 (J c6 (J c6 (J c6 (J T0 (J c4 (J c4 (J c4 (J c4 (J c4 (J T1 (J (by decide : (0 : Int) ≤ 4) trivial))))))))))))))))))))))))))))))))))) (by kernel_rfl)
          · rw [if_neg (nt c5)]
            exact fn_of_x hG hM Tryd.func58 (by kernel_rfl) (by kernel_rfl) 400 [.no, .yes, .no, .no, .no, .no, .no, .no, .no, .no, .no, .no, .no, .lit 1, .yes, .yes, .yes, .yes, .no, .no, .no, .no, .no, .no, .no, .no, .no, .yes, .yes, .yes, .yes, .yes, .yes] (J T0 (J c1 (J c2 (J c2 (J c2 (J c2 (J c2 (J c2 (J c2 (J c2 (J c2 (J T0 (J c3 (J (Eq.refl (1 : Int)) (J (by decide : 1 < 4) (J c4 (J c4 (J c4 (J c4 (J c5 (J c5 (J c5 (J c5 (J T0 (J T0 (J T0 (J T0 (J T0 (J c4 (J c4 (J c4 (J c4 (J c4 (J T1 (J (by decide : (0 : Int) ≤ 4) trivial))))))))))))))))))))))))))))))))))) (by kernel_rfl)
        · rw [if_neg (nt c4)]
          rcases bt t.swept with c5 | c5
          · rw [if_pos c5]
            exact fn_of_x hG hM Tryd.func58 (by kernel_rfl) (by kernel_rfl) 400 [.no, .yes, .no, .no, .no, .no, .no, .no, .no, .no, .no, .no, .no, .lit 1, .no, .no, .no, .no, .no, .no, .no, .no, .no, .no, .no, .no, .no, .no, .no, .no, .no, .no, .yes] (J T0 (J c1 (J c2 (J c2 (J c2 (J c2 (J c2 (J c2 (J c2 (J c2 (J c2 (J T0 (J c3 (J (Eq.refl (1 : Int)) (J (by decide : 1 < 4) (J c4 (J c4 (J c4 (J c4 (J T0 (J T0 (J T0 (J T0 (J T0 (J T0 (J T0 (J T0 (J T0 (J c4 (J c4 (J c4 (J c4 (J c4 (J c5 (J (by decide : (0 : Int) ≤ 4) trivial))))))))))))))))))))))))))))))))))) (by kernel_rfl)
          · rw [if_neg (nt c5)]
            exact fn_of_x hG hM Tryd.func58 (by kernel_rfl) (by kernel_rfl) 400 [.no, .yes, .no, .no, .no, .no, .no, .no, .no, .no, .no, .no, .no, .lit 1, .no, .no, .no, .no, .no, .no, .no, .no, .no, .no, .no, .no, .no, .no, .no, .no, .no, .no, .no] (J T0 (J c1 (J c2 (J c2 (J c2 (J c2 (J c2 (J c2 (J c2 (J c2 (J c2 (J T0 (J c3 (J (Eq.refl (1 : Int)) (J (by decide : 1 < 4) (J c4 (J c4 (J c4 (J c4 (J T0 (J T0 (J T0 (J T0 (J T0 (J T0 (J T0 (J T0 (J T0 (J c4 (J c4 (J c4 (J c4 (J c4 (J c5 trivial)))))))))))))))))))))))))))))))))) (by kernel_rfl)
  · rw [if_neg (nt c1)]
    rcases bt (decide (t.length > 0)) with c2 | c2
    · rw [if_pos c2]
      rcases bt ((bAnd .u8 (t.reg 0) 32) == 0) with c3 | c3
      · rw [if_pos c3]
        rcases bt (decide (t.kind > 1)) with c4 | c4
        · rw [if_pos c4]
          exact fn_of_x hG hM Tryd.func58 (by kernel_rfl) (by kernel_rfl) 400 [.no, .no, .yes, .yes, .yes, .yes, .lit 0, .yes, .yes, .yes, .yes, .yes, .yes, .yes] (J T0 (J c1 (J c2 (J c2 (J c2 (J c2 (J (Eq.refl (0 : Int)) (J (by decide : 0 < 4) (J c2 (J c2 (J c2 (J c2 (J c2 (J c3 (J c4 trivial))))))))))))))) (by kernel_rfl)
        · rw [if_neg (nt c4)]
          rcases bt (t.sweep == 0) with c5 | c5
          · rw [if_pos c5]
            rcases bt ((bAnd .u8 (t.reg 1) 128) != 0) with c6 | c6
            · rw [if_pos c6]
              rcases bt ((bAnd .u8 (t.reg 1) 7) != 0) with c7 | c7
              · rw [if_pos c7]
                rcases bt (!(tMute ({ t with length := (u8.wrap (t.length - 1)) } : Tone))) with c8 | c8
                · rw [if_pos c8]
                  exact fn_of_x hG hM Tryd.func58 (by kernel_rfl) (by kernel_rfl) 400 [.no, .no, .yes, .yes, .yes, .yes, .lit 0, .yes, .yes, .yes, .yes, .yes, .yes, .no, .lit 1, .yes, .yes, .yes, .yes, .yes, .yes, .yes, .yes, .yes, .yes, .callr [(1000, 1000)] [1000] [] 1001 (.bool (tMute ({ t with length := (u8.wrap (t.length - 1)) } : Tone))) [], .yes, .yes, .yes, .callr [(1000, 1000)] [1000] [] 1001 (.int .u16 (tTarget ({ t with length := (u8.wrap (t.length - 1)) } : Tone))) [], .yes, .yes, .yes, .yes, .yes, .yes] (J T0 (J c1 (J c2 (J c2 (J c2 (J c2 (J (Eq.refl (0 : Int)) (J (by decide : 0 < 4) (J c2 (J c2 (J c2 (J c2 (J c2 (J c3 (J c4 (J (Eq.refl (1 : Int)) (J (by decide : 1 < 4) (J c5 (J c5 (J c5 (J c5 (J c6 (J c6 (J c6 (J c6 (J c7 (J c7 (J (tMute_ok ({ t with length := (u8.wrap (t.length - 1)) } : Tone)) (J c7 (J c7 (J c8 (J (tTarget_ok ({ t with length := (u8.wrap (t.length - 1)) } : Tone)) (J c5 (J c5 (J c5 (J c5 (J c5 (J T1 (J (by decide : (0 : Int) ≤ 4) trivial))))))))))))))))))))))))))))))))))))))) (by kernel_rfl)
                · rw [if_neg (nt c8)]
                  exact fn_of_x hG hM Tryd.func58 (by kernel_rfl) (by kernel_rfl) 400 [.no, .no, .yes, .yes, .yes, .yes, .lit 0, .yes, .yes, .yes, .yes, .yes, .yes, .no, .lit 1, .yes, .yes, .yes, .yes, .yes, .yes, .yes, .yes, .yes, .yes, .callr [(1000, 1000)] [1000] [] 1001 (.bool (tMute ({ t with length := (u8.wrap (t.length - 1)) } : Tone))) [], .yes, .yes, .no, .yes, .yes, .yes, .yes, .yes, .yes] (J T0 (J c1 (J c2 (J c2 (J c2 (J c2 (J (Eq.refl (0 : Int)) (J (by decide : 0 < 4) (J c2 (J c2 (J c2 (J c2 (J c2 (J c3 (J c4 (J (Eq.refl (1 : Int)) (J (by decide : 1 < 4) (J c5 (J c5 (J c5 (J c5 (J c6 (J c6 (J c6 (J c6 (J c7 (J c7 (J (tMute_ok ({ t with length := (u8.wrap (t.length - 1)) } : Tone)) (J c7 (J c7 (J c8 (J c5 (J c5 (J c5 (J c5 (J c5 (J T1 (J (by decide : (0 : Int) ≤ 4) trivial)))))))))))))))))))))))))))))))))))))) (by kernel_rfl)
              · rw [if_neg (nt c7)]
                exact fn_of_x hG hM Tryd.func58 (by kernel_rfl) (by kernel_rfl) 400 [.no, .no, .yes, .yes, .yes, .yes, .lit 0, .yes, .yes, .yes, .yes, .yes, .yes, .no, .lit 1, .yes, .yes, .yes, .yes, .yes, .yes, .yes, .yes, .no, .no, .no, .no, .no, .yes, .yes, .yes, .yes, .yes, .yes] (J T0 (J c1 (J c2 (J c2 (J c2 (J c2 (J (Eq.refl (0 : Int)) (J (by decide : 0 < 4) (J c2 (J c2 (J c2 (J c2 (J c2 (J c3 (J c4 (J (Eq.refl (1 : Int)) (J (by decide : 1 < 4) (J c5 (J c5 (J c5 (J c5 (J c6 (J c6 (J c6 (J c6 (J c7 (J c7 (J c7 (J c7 (J T0 (J c5 (J c5 (J c5 (J c5 (J c5 (J T1 (J (by decide : (0 : Int) ≤ 4) trivial))))))))))))))))))))))))))))))))))))) (by kernel_rfl)
            · rw [if_neg (nt c6)]
              exact fn_of_x hG hM Tryd.func58 (by kernel_rfl) (by kernel_rfl) 400 [.no, .no, .yes, .yes, .yes, .yes, .lit 0, .yes, .yes, .yes, .yes, .yes, .yes, .no, .lit 1, .yes, .yes, .yes, .yes, .no, .no, .no, .no, .no, .no, .no, .no, .no, .yes, .yes, .yes, .yes, .yes, .yes] (J T0 (J c1 (J c2 (J c2 (J c2 (J c2 (J (Eq.refl (0 : Int)) (J (by decide : 0 < 4) (J c2 (J c2 (J c2 (J c2 (J c2 (J c3 (J c4 (J (Eq.refl (1 : Int)) (J (by decide : 1 < 4) (J c5 (J c5 (J c5 (J c5 (J c6 (J c6 (J c6 (J c6 (J T0 (J T0 (J T0 (J T0 (J T0 (J c5 (J c5 (J c5 (J c5 (J c5 (J T1 (J (by decide : (0 : Int) ≤ 4) trivial))))))))))))))))))))))))))))))))))))) (by kernel_rfl)
          · rw [if_neg (nt c5)]
            rcases bt t.swept with c6 | c6
            · rw [if_pos c6]
              exact fn_of_x hG hM Tryd.func58 (by kernel_rfl) (by kernel_rfl) 400 [.no, .no, .yes, .yes, .yes, .yes, .lit 0, .yes, .yes, .yes, .yes, .yes, .yes, .no, .lit 1, .no, .no, .no, .no, .no, .no, .no, .no, .no, .no, .no, .no, .no, .no, .no, .no, .no, .no, .yes] (J T0 (J c1 (J c2 (J c2 (J c2 (J c2 (J (Eq.refl (0 : Int)) (J (by decide : 0 < 4) (J c2 (J c2 (J c2 (J c2 (J c2 (J c3 (J c4 (J (Eq.refl (1 : Int)) (J (by decide : 1 < 4) (J c5 (J c5 (J c5 (J c5 (J T0 (J T0 (J T0 (J T0 (J T0 (J T0 (J T0 (J T0 (J T0 (J c5 (J c5 (J c5 (J c5 (J c5 (J c6 (J (by decide : (0 : Int) ≤ 4) trivial))))))))))))))))))))))))))))))))))))) (by kernel_rfl)
            · rw [if_neg (nt c6)]
              exact fn_of_x hG hM Tryd.func58 (by kernel_rfl) (by kernel_rfl) 400 [.no, .no, .yes, .yes, .yes, .yes, .lit 0, .yes, .yes, .yes, .yes, .yes, .yes, .no, .lit 1, .no, .no, .no, .no, .no, .no, .no, .no, .no, .no, .no, .no, .no, .no, .no, .no, .no, .no, .no] (J T0 (J c1 (J c2 (J c2 (J c2 (J c2 (J (Eq.refl (0 : Int)) (J (by decide : 0 < 4) (J c2 (J c2 (J c2 (J c2 (J c2 (J c3 (J c4 (J (Eq.refl (1 : Int)) (J (by decide : 1 < 4) (J c5 (J c5 (J c5 (J c5 (J T0 (J T0 (J T0 (J T0 (J T0 (J T0 (J T0 (J T0 (J T0 (J c5 (J c5 (J c5 (J c5 (J c5 (J c6 trivial)))))))))))))))))))))))))))))))))))) (by kernel_rfl)
      · rw [if_neg (nt c3)]
        rcases bt (decide (t.kind > 1)) with c4 | c4
        · rw [if_pos c4]
          exact fn_of_x hG hM Tryd.func58 (by kernel_rfl) (by kernel_rfl) 400 [.no, .no, .yes, .yes, .yes, .yes, .lit 0, .yes, .yes, .yes, .yes, .yes, .no, .yes] (J T0 (J c1 (J c2 (J c2 (J c2 (J c2 (J (Eq.refl (0 : Int)) (J (by decide : 0 < 4) (J c2 (J c2 (J c2 (J c2 (J c2 (J c3 (J c4 trivial))))))))))))))) (by kernel_rfl)
        · rw [if_neg (nt c4)]
          rcases bt (t.sweep == 0) with c5 | c5
          · rw [if_pos c5]
            rcases bt ((bAnd .u8 (t.reg 1) 128) != 0) with c6 | c6
            · rw [if_pos c6]
              rcases bt ((bAnd .u8 (t.reg 1) 7) != 0) with c7 | c7
              · rw [if_pos c7]
                rcases bt (!(tMute t)) with c8 | c8
                · rw [if_pos c8]
                  exact fn_of_x hG hM Tryd.func58 (by kernel_rfl) (by kernel_rfl) 400 [.no, .no, .yes, .yes, .yes, .yes, .lit 0, .yes, .yes, .yes, .yes, .yes, .no, .no, .lit 1, .yes, .yes, .yes, .yes, .yes, .yes, .yes, .yes, .yes, .yes, .callr [(1000, 1000)] [1000] [] 1001 (.bool (tMute t)) [], .yes, .yes, .yes, .callr [(1000, 1000)] [1000] [] 1001 (.int .u16 (tTarget t)) [], .yes, .yes, .yes, .yes, .yes, .yes] (J T0 (J c1 (J c2 (J c2 (J c2 (J c2 (J (Eq.refl (0 : Int)) (J (by decide : 0 < 4) (J c2 (J c2 (J c2 (J c2 (J c2 (J c3 (J c4 (J (Eq.refl (1 : Int)) (J (by decide : 1 < 4) (J c5 (J c5 (J c5 (J c5 (J c6 (J c6 (J c6 (J c6 (J c7 (J c7 (J (tMute_ok t) (J c7 (J c7 (J c8 (J (tTarget_ok t) (J c5 (J c5 (J c5 (J c5 (J c5 (J T1 (J (by decide : (0 : Int) ≤ 4) trivial))))))))))))))))))))))))))))))))))))))) (by kernel_rfl)
                · rw [if_neg (nt c8)]
                  exact fn_of_x hG hM Tryd.func58 (by kernel_rfl) (by kernel_rfl) 400 [.no, .no, .yes, .yes, .yes, .yes, .lit 0, .yes, .yes, .yes, .yes, .yes, .no, .no, .lit 1, .yes, .yes, .yes, .yes, .yes, .yes, .yes, .yes, .yes, .yes, .callr [(1000, 1000)] [1000] [] 1001 (.bool (tMute t)) [], .yes, .yes, .no, .yes, .yes, .yes, .yes, .yes, .yes] (J T0 (J c1 (J c2 (J c2 (J c2 (J c2 (J (Eq.refl (0 : Int)) (J (by decide : 0 < 4) (J c2 (J c2 (J c2 (J c2 (J c2 (J c3 (J c4 (J (Eq.refl (1 : Int)) (J (by decide : 1 < 4) (J c5 (J c5 (J c5 (J c5 (J c6 (J c6 (J c6 (J c6 (J c7 (J c7 (J (tMute_ok t) (J c7 (J c7 (J c8 (J c5 (J c5 (J c5 (J c5 (J c5 (J T1 (J (by decide : (0 : Int) ≤ 4) trivial)))))))))))))))))))))))))))))))))))))) (by kernel_rfl)
              · rw [if_neg (nt c7)]
                exact fn_of_x hG hM Tryd.func58 (by kernel_rfl) (by kernel_rfl) 400 [.no, .no, .yes, .yes, .yes, .yes, .lit 0, .yes, .yes, .yes, .yes, .yes, .no, .no, .lit 1, .yes, .yes, .yes, .yes, .yes, .yes, .yes, .yes, .no, .no, .no, .no, .no, .yes, .yes, .yes, .yes, .yes, .yes] (J T0 (J c1 (J c2 (J c2 (J c2 (J c2 (J (Eq.refl (0 : Int)) (J (by decide : 0 < 4) (J c2 (J c2 (J c2 (J c2 (J c2 (J c3 (J c4 (J (Eq.refl (1 : Int)) (J (by decide : 1 < 4) (J c5 (J c5 (J c5 (J c5 (J c6 (J c6 (J c6 (J c6 (J c7 (J c7 (J c7 (J c7 (J T0 (J c5 (J c5 (J c5 (J c5 (J c5 (J T1 (J (by decide : (0 : Int) ≤ 4) trivial))))))))))))))))))))))))))))))))))))) (by kernel_rfl)
            · rw [if_neg (nt c6)]
              exact fn_of_x hG hM Tryd.func58 (by kernel_rfl) (by kernel_rfl) 400 [.no, .no, .yes, .yes, .yes, .yes, .lit 0, .yes, .yes, .yes, .yes, .yes, .no, .no, .lit 1, .yes, .yes, .yes, .yes, .no, .no, .no, .no, .no, .no, .no, .no, .no, .yes, .yes, .yes, .yes, .yes, .yes] (J T0 (J c1 (J c2 (J c2 (J c2 (J c2 (J (Eq.refl (0 : Int)) (J (by decide : 0 < 4) (J c2 (J c2 (J c2 (J c2 (J c2 (J c3 (J c4 (J (Eq.refl (1 : Int)) (J (by decide : 1 < 4) (J c5 (J c5 (J c5 (J c5 (J c6 (J c6 (J c6 (J c6 (J T0 (J T0 (J T0 (J T0 (J T0 (J c5 (J c5 (J c5 (J c5 (J c5 (J T1 (J (by decide : (0 : Int) ≤ 4) trivial))))))))))))))))))))))))))))))))))))) (by kernel_rfl)
          · rw [if_neg (nt c5)]
            rcases bt t.swept with c6 | c6
            · rw [if_pos c6]
              exact fn_of_x hG hM Tryd.func58 (by kernel_rfl) (by kernel_rfl) 400 [.no, .no, .yes, .yes, .yes, .yes, .lit 0, .yes, .yes, .yes, .yes, .yes, .no, .no, .lit 1, .no, .no, .no, .no, .no, .no, .no, .no, .no, .no, .no, .no, .no, .no, .no, .no, .no, .no, .yes] (J T0 (J c1 (J c2 (J c2 (J c2 (J c2 (J (Eq.refl (0 : Int)) (J (by decide : 0 < 4) (J c2 (J c2 (J c2 (J c2 (J c2 (J c3 (J c4 (J (Eq.refl (1 : Int)) (J (by decide : 1 < 4) (J c5 (J c5 (J c5 (J c5 (J T0 (J T0 (J T0 (J T0 (J T0 (J T0 (J T0 (J T0 (J T0 (J c5 (J c5 (J c5 (J c5 (J c5 (J c6 (J (by decide : (0 : Int) ≤ 4) trivial))))))))))))))))))))))))))))))))))))) (by kernel_rfl)
            · rw [if_neg (nt c6)]
              exact fn_of_x hG hM Tryd.func58 (by kernel_rfl) (by kernel_rfl) 400 [.no, .no, .yes, .yes, .yes, .yes, .lit 0, .yes, .yes, .yes, .yes, .yes, .no, .no, .lit 1, .no, .no, .no, .no, .no, .no, .no, .no, .no, .no, .no, .no, .no, .no, .no, .no, .no, .no, .no] (J T0 (J c1 (J c2 (J c2 (J c2 (J c2 (J (Eq.refl (0 : Int)) (J (by decide : 0 < 4) (J c2 (J c2 (J c2 (J c2 (J c2 (J c3 (J c4 (J (Eq.refl (1 : Int)) (J (by decide : 1 < 4) (J c5 (J c5 (J c5 (J c5 (J T0 (J T0 (J T0 (J T0 (J T0 (J T0 (J T0 (J T0 (J T0 (J c5 (J c5 (J c5 (J c5 (J c5 (J c6 trivial)))))))))))))))))))))))))))))))))))) (by kernel_rfl)
    · rw [if_neg (nt c2)]
      rcases bt (decide (t.kind > 1)) with c3 | c3
      · rw [if_pos c3]
        exact fn_of_x hG hM Tryd.func58 (by kernel_rfl) (by kernel_rfl) 400 [.no, .no, .no, .no, .no, .no, .no, .no, .no, .no, .no, .no, .yes] (J T0 (J c1 (J c2 (J c2 (J c2 (J c2 (J c2 (J c2 (J c2 (J c2 (J c2 (J T0 (J c3 trivial))))))))))))) (by kernel_rfl)
      · rw [if_neg (nt c3)]
        rcases bt (t.sweep == 0) with c4 | c4
        · rw [if_pos c4]
          rcases bt ((bAnd .u8 (t.reg 1) 128) != 0) with c5 | c5
          · rw [if_pos c5]
            rcases bt ((bAnd .u8 (t.reg 1) 7) != 0) with c6 | c6
            · rw [if_pos c6]
              rcases bt (!(tMute t)) with c7 | c7
              · rw [if_pos c7]
                exact fn_of_x hG hM Tryd.func58 (by kernel_rfl) (by kernel_rfl) 400 [.no, .no, .no, .no, .no, .no, .no, .no, .no, .no, .no, .no, .no, .lit 1, .yes, .yes, .yes, .yes, .yes, .yes, .yes, .yes, .yes, .yes, .callr [(1000, 1000)] [1000] [] 1001 (.bool (tMute t)) [], .yes, .yes, .yes, .callr [(1000, 1000)] [1000] [] 1001 (.int .u16 (tTarget t)) [], .yes, .yes, .yes, .yes, .yes, .yes] (J T0 (J c1 (J c2 (J c2 (J c2 (J c2 (J c2 (J c2 (J c2 (J c2 (J c2 (J T0 (J c3 (J (Eq.refl (1 : Int)) (J (by decide : 1 < 4) (J c4 (J c4 (J c4 (J c4 (J c5 (J c5 (J c5 (J c5 (J c6 (J c6 (J (tMute_ok t) (J c6 (J c6 (J c7 (J (tTarget_ok t) (J c4 (J c4 (J c4 (J c4 (J c4 (J T1 (J (by decide : (0 : Int) ≤ 4) trivial))))))))))))))))))))))))))))))))))))) (by kernel_rfl)
              · rw [if_neg (nt c7)]
                exact fn_of_x hG hM Tryd.func58 (by kernel_rfl) (by kernel_rfl) 400 [.no, .no, .no, .no, .no, .no, .no, .no, .no, .no, .no, .no, .no, .lit 1, .yes, .yes, .yes, .yes, .yes, .yes, .yes, .yes, .yes, .yes, .callr [(1000, 1000)] [1000] [] 1001 (.bool (tMute t)) [], .yes, .yes, .no, .yes, .yes, .yes, .yes, .yes, .yes] (J T0 (J c1 (J c2 (J c2 (J c2 (J c2 (J c2 (J c2 (J c2 (J c2 (J c2 (J T0 (J c3 (J (Eq.refl (1 : Int)) (J (by decide : 1 < 4) (J c4 (J c4 (J c4 (J c4 (J c5 (J c5 (J c5 (J c5 (J c6 (J c6 (J (tMute_ok t) (J c6 (J c6 (J c7 (J c4 (J c4 (J c4 (J c4 (J c4 (J T1 (J (by decide : (0 : Int) ≤ 4) trivial)))))))))))))))))))))))))))))))))))) (by kernel_rfl)
            · rw [if_neg (nt c6)]
              exact fn_of_x hG hM Tryd.func58 (by kernel_rfl) (by kernel_rfl) 400 [.no, .no, .no, .no, .no, .no, .no, .no, .no, .no, .no, .no, .no, .lit 1, .yes, .yes, .yes, .yes, .yes, .yes, .yes, .yes, .no, .no, .no, .no, .no, .yes, .yes, .yes, .yes, .yes, .yes] (J T0 (J c1 (J c2 (J c2 (J c2 (J c2 (J c2 (J c2 (J c2 (J c2 (J c2 (J T0 (J c3 (J (Eq.refl (1 : Int)) (J (by decide : 1 < 4) (J c4 (J c4 (J c4 (J c4 (J c5 (J c5 (J c5 (J c5 (J c6 (J c6 (J c6 (J c6 (J T0 (J c4 (J c4 (J c4 (J c4 (J c4 (J T1 (J (by decide : (0 : Int) ≤ 4) trivial))))))))))))))))))))))))))))))))))) (by kernel_rfl)
          · rw [if_neg (nt c5)]
            exact fn_of_x hG hM Tryd.func58 (by kernel_rfl) (by kernel_rfl) 400 [.no, .no, .no, .no, .no, .no, .no, .no, .no, .no, .no, .no, .no, .lit 1, .yes, .yes, .yes, .yes, .no, .no, .no, .no, .no, .no, .no, .no, .no, .yes, .yes, .yes, .yes, .yes, .yes] (J T0 (J c1 (J c2 (J c2 (J c2 (J c2 (J c2 (J c2 (J c2 (J c2 (J c2 (J T0 (J c3 (J (Eq.refl (1 : Int)) (J (by decide : 1 < 4) (J c4 (J c4 (J c4 (J c4 (J c5 (J c5 (J c5 (J c5 (J T0 (J T0 (J T0 (J T0 (J T0 (J c4 (J c4 (J c4 (J c4 (J c4 (J T1 (J (by decide : (0 : Int) ≤ 4) trivial))))))))))))))))))))))))))))))))))) (by kernel_rfl)
        · rw [if_neg (nt c4)]
          rcases bt t.swept with c5 | c5
          · rw [if_pos c5]
            exact fn_of_x hG hM Tryd.func58 (by kernel_rfl) (by kernel_rfl) 400 [.no, .no, .no, .no, .no, .no, .no, .no, .no, .no, .no, .no, .no, .lit 1, .no, .no, .no, .no, .no, .no, .no, .no, .no, .no, .no, .no, .no, .no, .no, .no, .no, .no, .yes] (J T0 (J c1 (J c2 (J c2 (J c2 (J c2 (J c2 (J c2 (J c2 (J c2 (J c2 (J T0 (J c3 (J (Eq.refl (1 : Int)) (J (by decide : 1 < 4) (J c4 (J c4 (J c4 (J c4 (J T0 (J T0 (J T0 (J T0 (J T0 (J T0 (J T0 (J T0 (J T0 (J c4 (J c4 (J c4 (J c4 (J c4 (J c5 (J (by decide : (0 : Int) ≤ 4) trivial))))))))))))))))))))))))))))))))))) (by kernel_rfl)
          · rw [if_neg (nt c5)]
            exact fn_of_x hG hM Tryd.func58 (by kernel_rfl) (by kernel_rfl) 400 [.no, .no, .no, .no, .no, .no, .no, .no, .no, .no, .no, .no, .no, .lit 1, .no, .no, .no, .no, .no, .no, .no, .no, .no, .no, .no, .no, .no, .no, .no, .no, .no, .no, .no] (J T0 (J c1 (J c2 (J c2 (J c2 (J c2 (J c2 (J c2 (J c2 (J c2 (J c2 (J T0 (J c3 (J (Eq.refl (1 : Int)) (J (by decide : 1 < 4) (J c4 (J c4 (J c4 (J c4 (J T0 (J T0 (J T0 (J T0 (J T0 (J T0 (J T0 (J T0 (J T0 (J c4 (J c4 (J c4 (J c4 (J c4 (J c5 trivial)))))))))))))))))))))))))))))))))) (by kernel_rfl)
theorem tHalf_w (t : Tone) (w_t : Tone.ok t) : Tone.ok (tHalf t) := by
  unfold tHalf
  rcases bt (t.kind == 2) with c1 | c1
  · rw [if_pos c1]
    rcases bt (decide (t.length > 0)) with c2 | c2
    · rw [if_pos c2]
      rcases bt ((bAnd .u8 (t.reg 0) 128) == 0) with c3 | c3
      · rw [if_pos c3]
        rcases bt (decide (t.kind > 1)) with c4 | c4
        · rw [if_pos c4]
          exact (⟨w_t.kind, w_t.reg, (rng_wrap_u8 (t.length - 1)), w_t.period, w_t.timer, w_t.step, w_t.level, w_t.count, w_t.sweep, w_t.line, w_t.row⟩ : Tone.ok ({ t with length := (u8.wrap (t.length - 1)) } : Tone))
        · rw [if_neg (nt c4)]
          rcases bt (t.sweep == 0) with c5 | c5
          · rw [if_pos c5]
            rcases bt ((bAnd .u8 (t.reg 1) 128) != 0) with c6 | c6
            · rw [if_pos c6]
              rcases bt ((bAnd .u8 (t.reg 1) 7) != 0) with c7 | c7
              · rw [if_pos c7]
                rcases bt (!(tMute ({ t with length := (u8.wrap (t.length - 1)) } : Tone))) with c8 | c8
                · rw [if_pos c8]
                  exact (⟨w_t.kind, w_t.reg, (rng_wrap_u8 (t.length - 1)), (tTarget_w ({ t with length := (u8.wrap (t.length - 1)) } : Tone) (⟨w_t.kind, w_t.reg, (rng_wrap_u8 (t.length - 1)), w_t.period, w_t.timer, w_t.step, w_t.level, w_t.count, w_t.sweep, w_t.line, w_t.row⟩ : Tone.ok ({ t with length := (u8.wrap (t.length - 1)) } : Tone))), w_t.timer, w_t.step, w_t.level, w_t.count, (rng_bAnd_u8 (bShr .u8 (t.reg 1) 4) 7), w_t.line, w_t.row⟩ : Tone.ok ({ t with length := (u8.wrap (t.length - 1)), period := (tTarget ({ t with length := (u8.wrap (t.length - 1)) } : Tone)), sweep := (bAnd .u8 (bShr .u8 (t.reg 1) 4) 7), swept := false } : Tone))
                · rw [if_neg (nt c8)]
                  exact (⟨w_t.kind, w_t.reg, (rng_wrap_u8 (t.length - 1)), w_t.period, w_t.timer, w_t.step, w_t.level, w_t.count, (rng_bAnd_u8 (bShr .u8 (t.reg 1) 4) 7), w_t.line, w_t.row⟩ : Tone.ok ({ t with length := (u8.wrap (t.length - 1)), sweep := (bAnd .u8 (bShr .u8 (t.reg 1) 4) 7), swept := false } : Tone))
              · rw [if_neg (nt c7)]
                exact (⟨w_t.kind, w_t.reg, (rng_wrap_u8 (t.length - 1)), w_t.period, w_t.timer, w_t.step, w_t.level, w_t.count, (rng_bAnd_u8 (bShr .u8 (t.reg 1) 4) 7), w_t.line, w_t.row⟩ : Tone.ok ({ t with length := (u8.wrap (t.length - 1)), sweep := (bAnd .u8 (bShr .u8 (t.reg 1) 4) 7), swept := false } : Tone))
            · rw [if_neg (nt c6)]
              exact (⟨w_t.kind, w_t.reg, (rng_wrap_u8 (t.length - 1)), w_t.period, w_t.timer, w_t.step, w_t.level, w_t.count, (rng_bAnd_u8 (bShr .u8 (t.reg 1) 4) 7), w_t.line, w_t.row⟩ : Tone.ok ({ t with length := (u8.wrap (t.length - 1)), sweep := (bAnd .u8 (bShr .u8 (t.reg 1) 4) 7), swept := false } : Tone))
          · rw [if_neg (nt c5)]
            rcases bt t.swept with c6 | c6
            · rw [if_pos c6]
              exact (⟨w_t.kind, w_t.reg, (rng_wrap_u8 (t.length - 1)), w_t.period, w_t.timer, w_t.step, w_t.level, w_t.count, (rng_bAnd_u8 (bShr .u8 (t.reg 1) 4) 7), w_t.line, w_t.row⟩ : Tone.ok ({ t with length := (u8.wrap (t.length - 1)), sweep := (bAnd .u8 (bShr .u8 (t.reg 1) 4) 7), swept := false } : Tone))
            · rw [if_neg (nt c6)]
              exact (⟨w_t.kind, w_t.reg, (rng_wrap_u8 (t.length - 1)), w_t.period, w_t.timer, w_t.step, w_t.level, w_t.count, (rng_wrap_u8 (t.sweep - 1)), w_t.line, w_t.row⟩ : Tone.ok ({ t with length := (u8.wrap (t.length - 1)), sweep := (u8.wrap (t.sweep - 1)) } : Tone))
      · rw [if_neg (nt c3)]
        rcases bt (decide (t.kind > 1)) with c4 | c4
        · rw [if_pos c4]
          exact w_t
        · rw [if_neg (nt c4)]
          rcases bt (t.sweep == 0) with c5 | c5
          · rw [if_pos c5]
            rcases bt ((bAnd .u8 (t.reg 1) 128) != 0) with c6 | c6
            · rw [if_pos c6]
              rcases bt ((bAnd .u8 (t.reg 1) 7) != 0) with c7 | c7
              · rw [if_pos c7]
                rcases bt (!(tMute t)) with c8 | c8
                · rw [if_pos c8]
                  exact (⟨w_t.kind, w_t.reg, w_t.length, (tTarget_w t w_t), w_t.timer, w_t.step, w_t.level, w_t.count, (rng_bAnd_u8 (bShr .u8 (t.reg 1) 4) 7), w_t.line, w_t.row⟩ : Tone.ok ({ t with period := (tTarget t), sweep := (bAnd .u8 (bShr .u8 (t.reg 1) 4) 7), swept := false } : Tone))
                · rw [if_neg (nt c8)]
                  exact (⟨w_t.kind, w_t.reg, w_t.length, w_t.period, w_t.timer, w_t.step, w_t.level, w_t.count, (rng_bAnd_u8 (bShr .u8 (t.reg 1) 4) 7), w_t.line, w_t.row⟩ : Tone.ok ({ t with sweep := (bAnd .u8 (bShr .u8 (t.reg 1) 4) 7), swept := false } : Tone))
              · rw [if_neg (nt c7)]
                exact (⟨w_t.kind, w_t.reg, w_t.length, w_t.period, w_t.timer, w_t.step, w_t.level, w_t.count, (rng_bAnd_u8 (bShr .u8 (t.reg 1) 4) 7), w_t.line, w_t.row⟩ : Tone.ok ({ t with sweep := (bAnd .u8 (bShr .u8 (t.reg 1) 4) 7), swept := false } : Tone))
            · rw [if_neg (nt c6)]
              exact (⟨w_t.kind, w_t.reg, w_t.length, w_t.period, w_t.timer, w_t.step, w_t.level, w_t.count, (rng_bAnd_u8 (bShr .u8 (t.reg 1) 4) 7), w_t.line, w_t.row⟩ : Tone.ok ({ t with sweep := (bAnd .u8 (bShr .u8 (t.reg 1) 4) 7), swept := false } : Tone))
          · rw [if_neg (nt c5)]
            rcases bt t.swept with c6 | c6
            · rw [if_pos c6]
              exact (⟨w_t.kind, w_t.reg, w_t.length, w_t.period, w_t.timer, w_t.step, w_t.level, w_t.count, (rng_bAnd_u8 (bShr .u8 (t.reg 1) 4) 7), w_t.line, w_t.row⟩ : Tone.ok ({ t with sweep := (bAnd .u8 (bShr .u8 (t.reg 1) 4) 7), swept := false } : Tone))
            · rw [if_neg (nt c6)]
              exact (⟨w_t.kind, w_t.reg, w_t.length, w_t.period, w_t.timer, w_t.step, w_t.level, w_t.count, (rng_wrap_u8 (t.sweep - 1)), w_t.line, w_t.row⟩ : Tone.ok ({ t with sweep := (u8.wrap (t.sweep - 1)) } : Tone))
    · rw [if_neg (nt c2)]
      rcases bt (decide (t.kind > 1)) with c3 | c3
      · rw [if_pos c3]
        exact w_t
      · rw [if_neg (nt c3)]
        rcases bt (t.sweep == 0) with c4 | c4
        · rw [if_pos c4]
          rcases bt ((bAnd .u8 (t.reg 1) 128) != 0) with c5 | c5
          · rw [if_pos c5]
            rcases bt ((bAnd .u8 (t.reg 1) 7) != 0) with c6 | c6
            · rw [if_pos c6]
              rcases bt (!(tMute t)) with c7 | c7
              · rw [if_pos c7]
                exact (⟨w_t.kind, w_t.reg, w_t.length, (tTarget_w t w_t), w_t.timer, w_t.step, w_t.level, w_t.count, (rng_bAnd_u8 (bShr .u8 (t.reg 1) 4) 7), w_t.line, w_t.row⟩ : Tone.ok ({ t with period := (tTarget t), sweep := (bAnd .u8 (bShr .u8 (t.reg 1) 4) 7), swept := false } : Tone))
              · rw [if_neg (nt c7)]
                exact (⟨w_t.kind, w_t.reg, w_t.length, w_t.period, w_t.timer, w_t.step, w_t.level, w_t.count, (rng_bAnd_u8 (bShr .u8 (t.reg 1) 4) 7), w_t.line, w_t.row⟩ : Tone.ok ({ t with sweep := (bAnd .u8 (bShr .u8 (t.reg 1) 4) 7), swept := false } : Tone))
            · rw [if_neg (nt c6)]
              exact (⟨w_t.kind, w_t.reg, w_t.length, w_t.period, w_t.timer, w_t.step, w_t.level, w_t.count, (rng_bAnd_u8 (bShr .u8 (t.reg 1) 4) 7), w_t.line, w_t.row⟩ : Tone.ok ({ t with sweep := (bAnd .u8 (bShr .u8 (t.reg 1) 4) 7), swept := false } : Tone))
          · rw [if_neg (nt c5)]
            exact (⟨w_t.kind, w_t.reg, w_t.length, w_t.period, w_t.timer, w_t.step, w_t.level, w_t.count, (rng_bAnd_u8 (bShr .u8 (t.reg 1) 4) 7), w_t.line, w_t.row⟩ : Tone.ok ({ t with sweep := (bAnd .u8 (bShr .u8 (t.reg 1) 4) 7), swept := false } : Tone))
        · rw [if_neg (nt c4)]
          rcases bt t.swept with c5 | c5
          · rw [if_pos c5]
            exact (⟨w_t.kind, w_t.reg, w_t.length, w_t.period, w_t.timer, w_t.step, w_t.level, w_t.count, (rng_bAnd_u8 (bShr .u8 (t.reg 1) 4) 7), w_t.line, w_t.row⟩ : Tone.ok ({ t with sweep := (bAnd .u8 (bShr .u8 (t.reg 1) 4) 7), swept := false } : Tone))
          · rw [if_neg (nt c5)]
            exact (⟨w_t.kind, w_t.reg, w_t.length, w_t.period, w_t.timer, w_t.step, w_t.level, w_t.count, (rng_wrap_u8 (t.sweep - 1)), w_t.line, w_t.row⟩ : Tone.ok ({ t with sweep := (u8.wrap (t.sweep - 1)) } : Tone))
  · rw [if_neg (nt c1)]
    rcases bt (decide (t.length > 0)) with c2 | c2
    · rw [if_pos c2]
      rcases bt ((bAnd .u8 (t.reg 0) 32) == 0) with c3 | c3
      · rw [if_pos c3]
        rcases bt (decide (t.kind > 1)) with c4 | c4
        · rw [if_pos c4]
          exact (⟨w_t.kind, w_t.reg, (rng_wrap_u8 (t.length - 1)), w_t.period, w_t.timer, w_t.step, w_t.level, w_t.count, w_t.sweep, w_t.line, w_t.row⟩ : Tone.ok ({ t with length := (u8.wrap (t.length - 1)) } : Tone))
        · rw [if_neg (nt c4)]
          rcases bt (t.sweep == 0) with c5 | c5
          · rw [if_pos c5]
            rcases bt ((bAnd .u8 (t.reg 1) 128) != 0) with c6 | c6
            · rw [if_pos c6]
              rcases bt ((bAnd .u8 (t.reg 1) 7) != 0) with c7 | c7
              · rw [if_pos c7]
                rcases bt (!(tMute ({ t with length := (u8.wrap (t.length - 1)) } : Tone))) with c8 | c8
                · rw [if_pos c8]
                  exact (⟨w_t.kind, w_t.reg, (rng_wrap_u8 (t.length - 1)), (tTarget_w ({ t with length := (u8.wrap (t.length - 1)) } : Tone) (⟨w_t.kind, w_t.reg, (rng_wrap_u8 (t.length - 1)), w_t.period, w_t.timer, w_t.step, w_t.level, w_t.count, w_t.sweep, w_t.line, w_t.row⟩ : Tone.ok ({ t with length := (u8.wrap (t.length - 1)) } : Tone))), w_t.timer, w_t.step, w_t.level, w_t.count, (rng_bAnd_u8 (bShr .u8 (t.reg 1) 4) 7), w_t.line, w_t.row⟩ : Tone.ok ({ t with length := (u8.wrap (t.length - 1)), period := (tTarget ({ t with length := (u8.wrap (t.length - 1)) } : Tone)), sweep := (bAnd .u8 (bShr .u8 (t.reg 1) 4) 7), swept := false } : Tone))
                · rw [if_neg (nt c8)]
                  exact (⟨w_t.kind, w_t.reg, (rng_wrap_u8 (t.length - 1)), w_t.period, w_t.timer, w_t.step, w_t.level, w_t.count, (rng_bAnd_u8 (bShr .u8 (t.reg 1) 4) 7), w_t.line, w_t.row⟩ : Tone.ok ({ t with length := (u8.wrap (t.length - 1)), sweep := (bAnd .u8 (bShr .u8 (t.reg 1) 4) 7), swept := false } : Tone))
              · rw [if_neg (nt c7)]
                exact (⟨w_t.kind, w_t.reg, (rng_wrap_u8 (t.length - 1)), w_t.period, w_t.timer, w_t.step, w_t.level, w_t.count, (rng_bAnd_u8 (bShr .u8 (t.reg 1) 4) 7), w_t.line, w_t.row⟩ : Tone.ok ({ t with length := (u8.wrap (t.length - 1)), sweep := (bAnd .u8 (bShr .u8 (t.reg 1) 4) 7), swept := false } : Tone))
            · rw [if_neg (nt c6)]
              exact (⟨w_t.kind, w_t.reg, (rng_wrap_u8 (t.length - 1)), w_t.period, w_t.timer, w_t.step, w_t.level, w_t.count, (rng_bAnd_u8 (bShr .u8 (t.reg 1) 4) 7), w_t.line, w_t.row⟩ : Tone.ok ({ t with length := (u8.wrap (t.length - 1)), sweep := (bAnd .u8 (bShr .u8 (t.reg 1) 4) 7), swept := false } : Tone))
          · rw [if_neg (nt c5)]
            rcases bt t.swept with c6 | c6
            · rw [if_pos c6]
              exact (⟨w_t.kind, w_t.reg, (rng_wrap_u8 (t.length - 1)), w_t.period, w_t.timer, w_t.step, w_t.level, w_t.count, (rng_bAnd_u8 (bShr .u8 (t.reg 1) 4) 7), w_t.line, w_t.row⟩ : Tone.ok ({ t with length := (u8.wrap (t.length - 1)), sweep := (bAnd .u8 (bShr .u8 (t.reg 1) 4) 7), swept := false } : Tone))
            · rw [if_neg (nt c6)]
              exact (⟨w_t.kind, w_t.reg, (rng_wrap_u8 (t.length - 1)), w_t.period, w_t.timer, w_t.step, w_t.level, w_t.count, (rng_wrap_u8 (t.sweep - 1)), w_t.line, w_t.row⟩ : Tone.ok ({ t with length := (u8.wrap (t.length - 1)), sweep := (u8.wrap (t.sweep - 1)) } : Tone))
      · rw [if_neg (nt c3)]
        rcases bt (decide (t.kind > 1)) with c4 | c4
        · rw [if_pos c4]
          exact w_t
        · rw [if_neg (nt c4)]
          rcases bt (t.sweep == 0) with c5 | c5
          · rw [if_pos c5]
            rcases bt ((bAnd .u8 (t.reg 1) 128) != 0) with c6 | c6
            · rw [if_pos c6]
              rcases bt ((bAnd .u8 (t.reg 1) 7) != 0) with c7 | c7
              · rw [if_pos c7]
                rcases bt (!(tMute t)) with c8 | c8
                · rw [if_pos c8]
                  exact (⟨w_t.kind, w_t.reg, w_t.length, (tTarget_w t w_t), w_t.timer, w_t.step, w_t.level, w_t.count, (rng_bAnd_u8 (bShr .u8 (t.reg 1) 4) 7), w_t.line, w_t.row⟩ : Tone.ok ({ t with period := (tTarget t), sweep := (bAnd .u8 (bShr .u8 (t.reg 1) 4) 7), swept := false } : Tone))
                · rw [if_neg (nt c8)]
                  exact (⟨w_t.kind, w_t.reg, w_t.length, w_t.period, w_t.timer, w_t.step, w_t.level, w_t.count, (rng_bAnd_u8 (bShr .u8 (t.reg 1) 4) 7), w_t.line, w_t.row⟩ : Tone.ok ({ t with sweep := (bAnd .u8 (bShr .u8 (t.reg 1) 4) 7), swept := false } : Tone))
              · rw [if_neg (nt c7)]
                exact (⟨w_t.kind, w_t.reg, w_t.length, w_t.period, w_t.timer, w_t.step, w_t.level, w_t.count, (rng_bAnd_u8 (bShr .u8 (t.reg 1) 4) 7), w_t.line, w_t.row⟩ : Tone.ok ({ t with sweep := (bAnd .u8 (bShr .u8 (t.reg 1) 4) 7), swept := false } : Tone))
            · rw [if_neg (nt c6)]
              exact (⟨w_t.kind, w_t.reg, w_t.length, w_t.period, w_t.timer, w_t.step, w_t.level, w_t.count, (rng_bAnd_u8 (bShr .u8 (t.reg 1) 4) 7), w_t.line, w_t.row⟩ : Tone.ok ({ t with sweep := (bAnd .u8 (bShr .u8 (t.reg 1) 4) 7), swept := false } : Tone))
          · rw [if_neg (nt c5)]
            rcases bt t.swept with c6 | c6
            · rw [if_pos c6]
              exact (⟨w_t.kind, w_t.reg, w_t.length, w_t.period, w_t.timer, w_t.step, w_t.level, w_t.count, (rng_bAnd_u8 (bShr .u8 (t.reg 1) 4) 7), w_t.line, w_t.row⟩ : Tone.ok ({ t with sweep := (bAnd .u8 (bShr .u8 (t.reg 1) 4) 7), swept := false } : Tone))
            · rw [if_neg (nt c6)]
              exact (⟨w_t.kind, w_t.reg, w_t.length, w_t.period, w_t.timer, w_t.step, w_t.level, w_t.count, (rng_wrap_u8 (t.sweep - 1)), w_t.line, w_t.row⟩ : Tone.ok ({ t with sweep := (u8.wrap (t.sweep - 1)) } : Tone))
    · rw [if_neg (nt c2)]
      rcases bt (decide (t.kind > 1)) with c3 | c3
      · rw [if_pos c3]
        exact w_t
      · rw [if_neg (nt c3)]
        rcases bt (t.sweep == 0) with c4 | c4
        · rw [if_pos c4]
          rcases bt ((bAnd .u8 (t.reg 1) 128) != 0) with c5 | c5
          · rw [if_pos c5]
            rcases bt ((bAnd .u8 (t.reg 1) 7) != 0) with c6 | c6
            · rw [if_pos c6]
              rcases bt (!(tMute t)) with c7 | c7
              · rw [if_pos c7]
                exact (⟨w_t.kind, w_t.reg, w_t.length, (tTarget_w t w_t), w_t.timer, w_t.step, w_t.level, w_t.count, (rng_bAnd_u8 (bShr .u8 (t.reg 1) 4) 7), w_t.line, w_t.row⟩ : Tone.ok ({ t with period := (tTarget t), sweep := (bAnd .u8 (bShr .u8 (t.reg 1) 4) 7), swept := false } : Tone))
              · rw [if_neg (nt c7)]
                exact (⟨w_t.kind, w_t.reg, w_t.length, w_t.period, w_t.timer, w_t.step, w_t.level, w_t.count, (rng_bAnd_u8 (bShr .u8 (t.reg 1) 4) 7), w_t.line, w_t.row⟩ : Tone.ok ({ t with sweep := (bAnd .u8 (bShr .u8 (t.reg 1) 4) 7), swept := false } : Tone))
            · rw [if_neg (nt c6)]
              exact (⟨w_t.kind, w_t.reg, w_t.length, w_t.period, w_t.timer, w_t.step, w_t.level, w_t.count, (rng_bAnd_u8 (bShr .u8 (t.reg 1) 4) 7), w_t.line, w_t.row⟩ : Tone.ok ({ t with sweep := (bAnd .u8 (bShr .u8 (t.reg 1) 4) 7), swept := false } : Tone))
          · rw [if_neg (nt c5)]
            exact (⟨w_t.kind, w_t.reg, w_t.length, w_t.period, w_t.timer, w_t.step, w_t.level, w_t.count, (rng_bAnd_u8 (bShr .u8 (t.reg 1) 4) 7), w_t.line, w_t.row⟩ : Tone.ok ({ t with sweep := (bAnd .u8 (bShr .u8 (t.reg 1) 4) 7), swept := false } : Tone))
        · rw [if_neg (nt c4)]
          rcases bt t.swept with c5 | c5
          · rw [if_pos c5]
            exact (⟨w_t.kind, w_t.reg, w_t.length, w_t.period, w_t.timer, w_t.step, w_t.level, w_t.count, (rng_bAnd_u8 (bShr .u8 (t.reg 1) 4) 7), w_t.line, w_t.row⟩ : Tone.ok ({ t with sweep := (bAnd .u8 (bShr .u8 (t.reg 1) 4) 7), swept := false } : Tone))
          · rw [if_neg (nt c5)]
            exact (⟨w_t.kind, w_t.reg, w_t.length, w_t.period, w_t.timer, w_t.step, w_t.level, w_t.count, (rng_wrap_u8 (t.sweep - 1)), w_t.line, w_t.row⟩ : Tone.ok ({ t with sweep := (u8.wrap (t.sweep - 1)) } : Tone))
def tVolume (t : Tone) : Int :=
  if ((bAnd .u8 (t.reg 0) 16) != 0) = true then
    (bAnd .u8 (t.reg 0) 15)
  else
    t.level
theorem tVolume_ok (t : Tone) : FnSpec Tryd.prog 61 1001 [.pointer (some ⟨1000, 0, none⟩)] [(1000, (Tone.blk t).lend)] (.int .u8 (tVolume t)) [] := by
  unfold tVolume
  rcases bt ((bAnd .u8 (t.reg 0) 16) != 0) with c1 | c1
  · rw [if_pos c1]
    exact fn_of_x hG hM Tryd.func61 (by kernel_rfl) (by kernel_rfl) 400 [.lit 0, .yes, .lit 0] (J (Eq.refl (0 : Int)) (J (by decide : 0 < 4) (J c1 (J (Eq.refl (0 : Int)) (J (by decide : 0 < 4) trivial))))) (by kernel_rfl)
  · rw [if_neg (nt c1)]
    exact fn_of_x hG hM Tryd.func61 (by kernel_rfl) (by kernel_rfl) 400 [.lit 0, .no] (J (Eq.refl (0 : Int)) (J (by decide : 0 < 4) (J c1 trivial))) (by kernel_rfl)
theorem tVolume_w (t : Tone) (w_t : Tone.ok t) : rng 256 (tVolume t) := by
  unfold tVolume
  rcases bt ((bAnd .u8 (t.reg 0) 16) != 0) with c1 | c1
  · rw [if_pos c1]
    exact (rng_bAnd_u8 (t.reg 0) 15)
  · rw [if_neg (nt c1)]
    exact w_t.level
def tOut (t : Tone) : Int :=
  if (t.kind == 2) = true then
    if (decide (t.step < 16)) = true then
      (u8.wrap (15 - t.step))
    else
      (u8.wrap (t.step - 16))
  else
    if (t.length == 0) = true then
      0
    else
      if (t.kind == 3) = true then
        if ((bAnd .u16 t.row 1) != 0) = true then
          0
        else
          if (t.kind != 3) = true then
            if (tMute t) = true then
              0
            else
              if ((bAnd .u8 (bShl .u8 (dutiesT (Int.toNat (bShr .u8 (t.reg 0) 6))) t.step) 128) == 0) = true then
                0
              else
                (tVolume t)
          else
            (tVolume t)
      else
        if (t.kind != 3) = true then
          if (tMute t) = true then
            0
          else
            if ((bAnd .u8 (bShl .u8 (dutiesT (Int.toNat (bShr .u8 (t.reg 0) 6))) t.step) 128) == 0) = true then
              0
            else
              (tVolume t)
        else
          (tVolume t)
theorem tOut_ok (t : Tone) (w_t : Tone.ok t) : FnSpec Tryd.prog 40 1001 [.pointer (some ⟨1000, 0, none⟩)] [tb3, (1000, (Tone.blk t).lend)] (.int .u8 (tOut t)) [] := by
  unfold tOut
  rcases bt (t.kind == 2) with c1 | c1
  · rw [if_pos c1]
    rcases bt (decide (t.step < 16)) with c2 | c2
    · rw [if_pos c2]
      exact fn_of_x hG hM Tryd.func40 (by kernel_rfl) (by kernel_rfl) 400 [.no, .yes, .yes, .yes, .yes, .yes, .yes, .yes] (J T0 (J c1 (J c1 (J c1 (J c1 (J c1 (J c1 (J c2 trivial)))))))) (by kernel_rfl)
    · rw [if_neg (nt c2)]
      exact fn_of_x hG hM Tryd.func40 (by kernel_rfl) (by kernel_rfl) 400 [.no, .yes, .yes, .yes, .yes, .yes, .yes, .no, .yes] (J T0 (J c1 (J c1 (J c1 (J c1 (J c1 (J c1 (J c2 (J c1 trivial))))))))) (by kernel_rfl)
  · rw [if_neg (nt c1)]
    rcases bt (t.length == 0) with c2 | c2
    · rw [if_pos c2]
      exact fn_of_x hG hM Tryd.func40 (by kernel_rfl) (by kernel_rfl) 400 [.no, .no, .no, .no, .no, .no, .no, .no, .no, .yes] (J T0 (J c1 (J c1 (J c1 (J c1 (J c1 (J c1 (J T0 (J c1 (J c2 trivial)))))))))) (by kernel_rfl)
    · rw [if_neg (nt c2)]
      rcases bt (t.kind == 3) with c3 | c3
      · rw [if_pos c3]
        rcases bt ((bAnd .u16 t.row 1) != 0) with c4 | c4
        · rw [if_pos c4]
          exact fn_of_x hG hM Tryd.func40 (by kernel_rfl) (by kernel_rfl) 400 [.no, .no, .no, .no, .no, .no, .no, .no, .no, .no, .yes, .yes, .yes, .yes, .yes, .yes, .yes, .yes] (J T0 (J c1 (J c1 (J c1 (J c1 (J c1 (J c1 (J T0 (J c1 (J c2 (J c3 (J c3 (J c3 (J c3 (J c3 (J c3 (J c3 (J c4 trivial)))))))))))))))))) (by kernel_rfl)
        · rw [if_neg (nt c4)]
          rcases bt (t.kind != 3) with c5 | c5
          · rw [if_pos c5]
            rcases bt (tMute t) with c6 | c6
            · rw [if_pos c6]
              exact fn_of_x hG hM Tryd.func40 (by kernel_rfl) (by kernel_rfl) 400 [.no, .no, .no, .no, .no, .no, .no, .no, .no, .no, .yes, .yes, .yes, .yes, .yes, .yes, .yes, .no, .yes, .yes, .call [(1000, 1000)] [] 1001 (.bool (tMute t)) [], .yes, .yes, .yes, .yes, .yes, .yes, .yes, .yes, .yes, .yes, .yes, .yes, .yes, .yes, .yes, .yes, .yes, .yes, .yes, .yes] (J T0 (J c1 (J c1 (J c1 (J c1 (J c1 (J c1 (J T0 (J c1 (J c2 (J c3 (J c3 (J c3 (J c3 (J c3 (J c3 (J c3 (J c4 (J c5 (J c5 (J (tMute_ok t) (J c5 (J c6 (J c6 (J c6 (J c6 (J c6 (J c6 (J c6 (J c6 (J c6 (J c6 (J c6 (J c6 (J c6 (J c6 (J c6 (J c5 (J c6 (J c5 (J T1 trivial))))))))))))))))))))))))))))))))))))))))) (by kernel_rfl)
            · rw [if_neg (nt c6)]
              rcases bt ((bAnd .u8 (bShl .u8 (dutiesT (Int.toNat (bShr .u8 (t.reg 0) 6))) t.step) 128) == 0) with c7 | c7
              · rw [if_pos c7]
                exact fn_of_x hG hM Tryd.func40 (by kernel_rfl) (by kernel_rfl) 400 [.no, .no, .no, .no, .no, .no, .no, .no, .no, .no, .yes, .yes, .yes, .yes, .yes, .yes, .yes, .no, .yes, .yes, .call [(1000, 1000)] [] 1001 (.bool (tMute t)) [], .yes, .no, .no, .no, .no, .lit 0, .no, .no, .no, .sym, .no, .no, .no, .no, .no, .no, .no, .no, .yes, .no, .yes, .yes] (J T0 (J c1 (J c1 (J c1 (J c1 (J c1 (J c1 (J T0 (J c1 (J c2 (J c3 (J c3 (J c3 (J c3 (J c3 (J c3 (J c3 (J c4 (J c5 (J c5 (J (tMute_ok t) (J c5 (J c6 (J c6 (J c6 (J c6 (J (Eq.refl (0 : Int)) (J (by decide : 0 < 4) (J c6 (J c6 (J (by decide : (0 : Int) ≤ 6) (J c6 (J (rng_shr_lit (m := 256) (n := 4) (a := (t.reg 0)) (k := .u8) (b := 6) (w_t.reg 0) (by decide)) (J c6 (J (toNat_lt (rng_shr_lit (m := 256) (n := 4) (a := (t.reg 0)) (k := .u8) (b := 6) (w_t.reg 0) (by decide))) (J c6 (J c6 (J c6 (J c6 (J c6 (J w_t.step.1 (J c6 (J c6 (J c5 (J c6 (J c5 (J c7 trivial))))))))))))))))))))))))))))))))))))))))))))))) (by kernel_rfl)
              · rw [if_neg (nt c7)]
                exact fn_of_x hG hM Tryd.func40 (by kernel_rfl) (by kernel_rfl) 400 [.no, .no, .no, .no, .no, .no, .no, .no, .no, .no, .yes, .yes, .yes, .yes, .yes, .yes, .yes, .no, .yes, .yes, .call [(1000, 1000)] [] 1001 (.bool (tMute t)) [], .yes, .no, .no, .no, .no, .lit 0, .no, .no, .no, .sym, .no, .no, .no, .no, .no, .no, .no, .no, .yes, .no, .yes, .no, .call [(1000, 1000)] [] 1001 (.int .u8 (tVolume t)) []] (J T0 (J c1 (J c1 (J c1 (J c1 (J c1 (J c1 (J T0 (J c1 (J c2 (J c3 (J c3 (J c3 (J c3 (J c3 (J c3 (J c3 (J c4 (J c5 (J c5 (J (tMute_ok t) (J c5 (J c6 (J c6 (J c6 (J c6 (J (Eq.refl (0 : Int)) (J (by decide : 0 < 4) (J c6 (J c6 (J (by decide : (0 : Int) ≤ 6) (J c6 (J (rng_shr_lit (m := 256) (n := 4) (a := (t.reg 0)) (k := .u8) (b := 6) (w_t.reg 0) (by decide)) (J c6 (J (toNat_lt (rng_shr_lit (m := 256) (n := 4) (a := (t.reg 0)) (k := .u8) (b := 6) (w_t.reg 0) (by decide))) (J c6 (J c6 (J c6 (J c6 (J c6 (J w_t.step.1 (J c6 (J c6 (J c5 (J c6 (J c5 (J c7 (J (tVolume_ok t) trivial)))))))))))))))))))))))))))))))))))))))))))))))) (by kernel_rfl)
          · rw [if_neg (nt c5)]
            exact fn_of_x hG hM Tryd.func40 (by kernel_rfl) (by kernel_rfl) 400 [.no, .no, .no, .no, .no, .no, .no, .no, .no, .no, .yes, .yes, .yes, .yes, .yes, .yes, .yes, .no, .no, .no, .no, .no, .no, .no, .call [(1000, 1000)] [] 1001 (.int .u8 (tVolume t)) []] (J T0 (J c1 (J c1 (J c1 (J c1 (J c1 (J c1 (J T0 (J c1 (J c2 (J c3 (J c3 (J c3 (J c3 (J c3 (J c3 (J c3 (J c4 (J c5 (J c5 (J c5 (J c5 (J c5 (J T0 (J (tVolume_ok t) trivial))))))))))))))))))))))))) (by kernel_rfl)
      · rw [if_neg (nt c3)]
        rcases bt (t.kind != 3) with c4 | c4
        · rw [if_pos c4]
          rcases bt (tMute t) with c5 | c5
          · rw [if_pos c5]
            exact fn_of_x hG hM Tryd.func40 (by kernel_rfl) (by kernel_rfl) 400 [.no, .no, .no, .no, .no, .no, .no, .no, .no, .no, .no, .no, .no, .no, .no, .no, .no, .no, .yes, .yes, .call [(1000, 1000)] [] 1001 (.bool (tMute t)) [], .yes, .yes, .yes, .yes, .yes, .yes, .yes, .yes, .yes, .yes, .yes, .yes, .yes, .yes, .yes, .yes, .yes, .yes, .yes, .yes] (J T0 (J c1 (J c1 (J c1 (J c1 (J c1 (J c1 (J T0 (J c1 (J c2 (J c3 (J c3 (J c3 (J c3 (J c3 (J c3 (J c3 (J T0 (J c4 (J c4 (J (tMute_ok t) (J c4 (J c5 (J c5 (J c5 (J c5 (J c5 (J c5 (J c5 (J c5 (J c5 (J c5 (J c5 (J c5 (J c5 (J c5 (J c5 (J c4 (J c5 (J c4 (J T1 trivial))))))))))))))))))))))))))))))))))))))))) (by kernel_rfl)
          · rw [if_neg (nt c5)]
            rcases bt ((bAnd .u8 (bShl .u8 (dutiesT (Int.toNat (bShr .u8 (t.reg 0) 6))) t.step) 128) == 0) with c6 | c6
            · rw [if_pos c6]
              exact fn_of_x hG hM Tryd.func40 (by kernel_rfl) (by kernel_rfl) 400 [.no, .no, .no, .no, .no, .no, .no, .no, .no, .no, .no, .no, .no, .no, .no, .no, .no, .no, .yes, .yes, .call [(1000, 1000)] [] 1001 (.bool (tMute t)) [], .yes, .no, .no, .no, .no, .lit 0, .no, .no, .no, .sym, .no, .no, .no, .no, .no, .no, .no, .no, .yes, .no, .yes, .yes] (J T0 (J c1 (J c1 (J c1 (J c1 (J c1 (J c1 (J T0 (J c1 (J c2 (J c3 (J c3 (J c3 (J c3 (J c3 (J c3 (J c3 (J T0 (J c4 (J c4 (J (tMute_ok t) (J c4 (J c5 (J c5 (J c5 (J c5 (J (Eq.refl (0 : Int)) (J (by decide : 0 < 4) (J c5 (J c5 (J (by decide : (0 : Int) ≤ 6) (J c5 (J (rng_shr_lit (m := 256) (n := 4) (a := (t.reg 0)) (k := .u8) (b := 6) (w_t.reg 0) (by decide)) (J c5 (J (toNat_lt (rng_shr_lit (m := 256) (n := 4) (a := (t.reg 0)) (k := .u8) (b := 6) (w_t.reg 0) (by decide))) (J c5 (J c5 (J c5 (J c5 (J c5 (J w_t.step.1 (J c5 (J c5 (J c4 (J c5 (J c4 (J c6 trivial))))))))))))))))))))))))))))))))))))))))))))))) (by kernel_rfl)
            · rw [if_neg (nt c6)]
              exact fn_of_x hG hM Tryd.func40 (by kernel_rfl) (by kernel_rfl) 400 [.no, .no, .no, .no, .no, .no, .no, .no, .no, .no, .no, .no, .no, .no, .no, .no, .no, .no, .yes, .yes, .call [(1000, 1000)] [] 1001 (.bool (tMute t)) [], .yes, .no, .no, .no, .no, .lit 0, .no, .no, .no, .sym, .no, .no, .no, .no, .no, .no, .no, .no, .yes, .no, .yes, .no, .call [(1000, 1000)] [] 1001 (.int .u8 (tVolume t)) []] (J T0 (J c1 (J c1 (J c1 (J c1 (J c1 (J c1 (J T0 (J c1 (J c2 (J c3 (J c3 (J c3 (J c3 (J c3 (J c3 (J c3 (J T0 (J c4 (J c4 (J (tMute_ok t) (J c4 (J c5 (J c5 (J c5 (J c5 (J (Eq.refl (0 : Int)) (J (by decide : 0 < 4) (J c5 (J c5 (J (by decide : (0 : Int) ≤ 6) (J c5 (J (rng_shr_lit (m := 256) (n := 4) (a := (t.reg 0)) (k := .u8) (b := 6) (w_t.reg 0) (by decide)) (J c5 (J (toNat_lt (rng_shr_lit (m := 256) (n := 4) (a := (t.reg 0)) (k := .u8) (b := 6) (w_t.reg 0) (by decide))) (J c5 (J c5 (J c5 (J c5 (J c5 (J w_t.step.1 (J c5 (J c5 (J c4 (J c5 (J c4 (J c6 (J (tVolume_ok t) trivial)))))))))))))))))))))))))))))))))))))))))))))))) (by kernel_rfl)
        · rw [if_neg (nt c4)]
          exact fn_of_x hG hM Tryd.func40 (by kernel_rfl) (by kernel_rfl) 400 [.no, .no, .no, .no, .no, .no, .no, .no, .no, .no, .no, .no, .no, .no, .no, .no, .no, .no, .no, .no, .no, .no, .no, .no, .call [(1000, 1000)] [] 1001 (.int .u8 (tVolume t)) []] (J T0 (J c1 (J c1 (J c1 (J c1 (J c1 (J c1 (J T0 (J c1 (J c2 (J c3 (J c3 (J c3 (J c3 (J c3 (J c3 (J c3 (J T0 (J c4 (J c4 (J c4 (J c4 (J c4 (J T0 (J (tVolume_ok t) trivial))))))))))))))))))))))))) (by kernel_rfl)
theorem tOut_w (t : Tone) (w_t : Tone.ok t) : rng 256 (tOut t) := by
  unfold tOut
  rcases bt (t.kind == 2) with c1 | c1
  · rw [if_pos c1]
    rcases bt (decide (t.step < 16)) with c2 | c2
    · rw [if_pos c2]
      exact (rng_wrap_u8 (15 - t.step))
    · rw [if_neg (nt c2)]
      exact (rng_wrap_u8 (t.step - 16))
  · rw [if_neg (nt c1)]
    rcases bt (t.length == 0) with c2 | c2
    · rw [if_pos c2]
      exact (by decide : rng 256 0)
    · rw [if_neg (nt c2)]
      rcases bt (t.kind == 3) with c3 | c3
      · rw [if_pos c3]
        rcases bt ((bAnd .u16 t.row 1) != 0) with c4 | c4
        · rw [if_pos c4]
          exact (by decide : rng 256 0)
        · rw [if_neg (nt c4)]
          rcases bt (t.kind != 3) with c5 | c5
          · rw [if_pos c5]
            rcases bt (tMute t) with c6 | c6
            · rw [if_pos c6]
              exact (by decide : rng 256 0)
            · rw [if_neg (nt c6)]
              rcases bt ((bAnd .u8 (bShl .u8 (dutiesT (Int.toNat (bShr .u8 (t.reg 0) 6))) t.step) 128) == 0) with c7 | c7
              · rw [if_pos c7]
                exact (by decide : rng 256 0)
              · rw [if_neg (nt c7)]
                exact (tVolume_w t w_t)
          · rw [if_neg (nt c5)]
            exact (tVolume_w t w_t)
      · rw [if_neg (nt c3)]
        rcases bt (t.kind != 3) with c4 | c4
        · rw [if_pos c4]
          rcases bt (tMute t) with c5 | c5
          · rw [if_pos c5]
            exact (by decide : rng 256 0)
          · rw [if_neg (nt c5)]
            rcases bt ((bAnd .u8 (bShl .u8 (dutiesT (Int.toNat (bShr .u8 (t.reg 0) 6))) t.step) 128) == 0) with c6 | c6
            · rw [if_pos c6]
              exact (by decide : rng 256 0)
            · rw [if_neg (nt c6)]
              exact (tVolume_w t w_t)
        · rw [if_neg (nt c4)]
          exact (tVolume_w t w_t)
def tClock (t : Tone) : Tone :=
  if (decide (t.timer > 0)) = true then
    ({ t with timer := (u16.wrap (t.timer - 1)) } : Tone)
  else
    if (t.kind == 2) = true then
      if (decide (t.length > 0)) = true then
        if (decide (t.line > 0)) = true then
          ({ t with timer := t.period, step := (Int.tmod (u8.wrap (t.step + 1)) 32) } : Tone)
        else
          ({ t with timer := t.period } : Tone)
      else
        ({ t with timer := t.period } : Tone)
    else
      if (t.kind == 3) = true then
        if ((bAnd .u8 (t.reg 2) 128) != 0) = true then
          ({ t with timer := t.period, row := (bOr .u16 (bShr .u16 t.row 1) (bShl .u16 (bAnd .u16 (bXor .u16 t.row (bShr .u16 t.row 6)) 1) 14)) } : Tone)
        else
          ({ t with timer := t.period, row := (bOr .u16 (bShr .u16 t.row 1) (bShl .u16 (bAnd .u16 (bXor .u16 t.row (bShr .u16 t.row 1)) 1) 14)) } : Tone)
      else
        ({ t with timer := t.period, step := (Int.tmod (u8.wrap (t.step + 1)) 8) } : Tone)
theorem tClock_ok (t : Tone) : FnSpec Tryd.prog 36 1001 [.pointer (some ⟨1000, 0, none⟩)] [(1000, Tone.blk t)] (.tuple ⟨[]⟩) [(1000, Tone.blk (tClock t))] := by
  unfold tClock
  rcases bt (decide (t.timer > 0)) with c1 | c1
  · rw [if_pos c1]
    exact fn_of_x hG hM Tryd.func36 (by kernel_rfl) (by kernel_rfl) 400 [.no, .yes] (J T0 (J c1 trivial)) (by kernel_rfl)
  · rw [if_neg (nt c1)]
    rcases bt (t.kind == 2) with c2 | c2
    · rw [if_pos c2]
      rcases bt (decide (t.length > 0)) with c3 | c3
      · rw [if_pos c3]
        rcases bt (decide (t.line > 0)) with c4 | c4
        · rw [if_pos c4]
          exact fn_of_x hG hM Tryd.func36 (by kernel_rfl) (by kernel_rfl) 400 [.no, .no, .yes, .yes, .yes, .yes, .yes, .yes, .yes, .yes] (J T0 (J c1 (J c2 (J c3 (J c3 (J c3 (J c3 (J c3 (J c3 (J c4 (J (by decide : ((32 : Int) ≠ 0)) trivial))))))))))) (by kernel_rfl)
        · rw [if_neg (nt c4)]
          exact fn_of_x hG hM Tryd.func36 (by kernel_rfl) (by kernel_rfl) 400 [.no, .no, .yes, .yes, .yes, .yes, .yes, .yes, .yes, .no] (J T0 (J c1 (J c2 (J c3 (J c3 (J c3 (J c3 (J c3 (J c3 (J c4 trivial)))))))))) (by kernel_rfl)
      · rw [if_neg (nt c3)]
        exact fn_of_x hG hM Tryd.func36 (by kernel_rfl) (by kernel_rfl) 400 [.no, .no, .yes, .no, .no, .no, .no, .no, .no, .no] (J T0 (J c1 (J c2 (J c3 (J c3 (J c3 (J c3 (J c3 (J c3 (J T0 trivial)))))))))) (by kernel_rfl)
    · rw [if_neg (nt c2)]
      rcases bt (t.kind == 3) with c3 | c3
      · rw [if_pos c3]
        rcases bt ((bAnd .u8 (t.reg 2) 128) != 0) with c4 | c4
        · rw [if_pos c4]
          exact fn_of_x hG hM Tryd.func36 (by kernel_rfl) (by kernel_rfl) 400 [.no, .no, .no, .yes, .lit 2, .yes] (J T0 (J c1 (J c2 (J c3 (J (by decide : (0 : Int) ≤ 1) (J (Eq.refl (2 : Int)) (J (by decide : 2 < 4) (J c4 (J (by decide : (0 : Int) ≤ 6) (J (by decide : (0 : Int) ≤ 1) (J (by decide : (0 : Int) ≤ 14) trivial))))))))))) (by kernel_rfl)
        · rw [if_neg (nt c4)]
          exact fn_of_x hG hM Tryd.func36 (by kernel_rfl) (by kernel_rfl) 400 [.no, .no, .no, .yes, .lit 2, .no] (J T0 (J c1 (J c2 (J c3 (J (by decide : (0 : Int) ≤ 1) (J (Eq.refl (2 : Int)) (J (by decide : 2 < 4) (J c4 (J (by decide : (0 : Int) ≤ 1) (J (by decide : (0 : Int) ≤ 14) trivial)))))))))) (by kernel_rfl)
      · rw [if_neg (nt c3)]
        exact fn_of_x hG hM Tryd.func36 (by kernel_rfl) (by kernel_rfl) 400 [.no, .no, .no, .no] (J T0 (J c1 (J c2 (J c3 (J (by decide : ((8 : Int) ≠ 0)) trivial))))) (by kernel_rfl)
theorem tClock_w (t : Tone) (w_t : Tone.ok t) : Tone.ok (tClock t) := by
  unfold tClock
  rcases bt (decide (t.timer > 0)) with c1 | c1
  · rw [if_pos c1]
    exact (⟨w_t.kind, w_t.reg, w_t.length, w_t.period, (rng_wrap_u16 (t.timer - 1)), w_t.step, w_t.level, w_t.count, w_t.sweep, w_t.line, w_t.row⟩ : Tone.ok ({ t with timer := (u16.wrap (t.timer - 1)) } : Tone))
  · rw [if_neg (nt c1)]
    rcases bt (t.kind == 2) with c2 | c2
    · rw [if_pos c2]
      rcases bt (decide (t.length > 0)) with c3 | c3
      · rw [if_pos c3]
        rcases bt (decide (t.line > 0)) with c4 | c4
        · rw [if_pos c4]
          exact (⟨w_t.kind, w_t.reg, w_t.length, w_t.period, w_t.period, (rng_tmod_lit (m := 256) (n := 256) (b := 32) (rng_wrap_u8 (t.step + 1)) (by decide)), w_t.level, w_t.count, w_t.sweep, w_t.line, w_t.row⟩ : Tone.ok ({ t with timer := t.period, step := (Int.tmod (u8.wrap (t.step + 1)) 32) } : Tone))
        · rw [if_neg (nt c4)]
          exact (⟨w_t.kind, w_t.reg, w_t.length, w_t.period, w_t.period, w_t.step, w_t.level, w_t.count, w_t.sweep, w_t.line, w_t.row⟩ : Tone.ok ({ t with timer := t.period } : Tone))
      · rw [if_neg (nt c3)]
        exact (⟨w_t.kind, w_t.reg, w_t.length, w_t.period, w_t.period, w_t.step, w_t.level, w_t.count, w_t.sweep, w_t.line, w_t.row⟩ : Tone.ok ({ t with timer := t.period } : Tone))
    · rw [if_neg (nt c2)]
      rcases bt (t.kind == 3) with c3 | c3
      · rw [if_pos c3]
        rcases bt ((bAnd .u8 (t.reg 2) 128) != 0) with c4 | c4
        · rw [if_pos c4]
          exact (⟨w_t.kind, w_t.reg, w_t.length, w_t.period, w_t.period, w_t.step, w_t.level, w_t.count, w_t.sweep, w_t.line, (rng_bOr_u16 (bShr .u16 t.row 1) (bShl .u16 (bAnd .u16 (bXor .u16 t.row (bShr .u16 t.row 6)) 1) 14))⟩ : Tone.ok ({ t with timer := t.period, row := (bOr .u16 (bShr .u16 t.row 1) (bShl .u16 (bAnd .u16 (bXor .u16 t.row (bShr .u16 t.row 6)) 1) 14)) } : Tone))
        · rw [if_neg (nt c4)]
          exact (⟨w_t.kind, w_t.reg, w_t.length, w_t.period, w_t.period, w_t.step, w_t.level, w_t.count, w_t.sweep, w_t.line, (rng_bOr_u16 (bShr .u16 t.row 1) (bShl .u16 (bAnd .u16 (bXor .u16 t.row (bShr .u16 t.row 1)) 1) 14))⟩ : Tone.ok ({ t with timer := t.period, row := (bOr .u16 (bShr .u16 t.row 1) (bShl .u16 (bAnd .u16 (bXor .u16 t.row (bShr .u16 t.row 1)) 1) 14)) } : Tone))
      · rw [if_neg (nt c3)]
        exact (⟨w_t.kind, w_t.reg, w_t.length, w_t.period, w_t.period, (rng_tmod_lit (m := 256) (n := 256) (b := 8) (rng_wrap_u8 (t.step + 1)) (by decide)), w_t.level, w_t.count, w_t.sweep, w_t.line, w_t.row⟩ : Tone.ok ({ t with timer := t.period, step := (Int.tmod (u8.wrap (t.step + 1)) 8) } : Tone))
def tHigh (t : Tone) (b : Int) : Tone :=
  if t.on = true then
    if (t.kind != 3) = true then
      if (decide (t.kind ≤ 1)) = true then
        ({ t with length := (lengthsT (Int.toNat (bShr .u8 b 3))), period := (bOr .u16 (bAnd .u16 t.period 255) (bShl .u16 (u16.wrap (bAnd .u8 b 7)) 8)), step := 0, begins := true } : Tone)
      else
        ({ t with length := (lengthsT (Int.toNat (bShr .u8 b 3))), period := (bOr .u16 (bAnd .u16 t.period 255) (bShl .u16 (u16.wrap (bAnd .u8 b 7)) 8)), begins := true } : Tone)
    else
      if (decide (t.kind ≤ 1)) = true then
        ({ t with length := (lengthsT (Int.toNat (bShr .u8 b 3))), step := 0, begins := true } : Tone)
      else
        ({ t with length := (lengthsT (Int.toNat (bShr .u8 b 3))), begins := true } : Tone)
  else
    if (t.kind != 3) = true then
      if (decide (t.kind ≤ 1)) = true then
        ({ t with period := (bOr .u16 (bAnd .u16 t.period 255) (bShl .u16 (u16.wrap (bAnd .u8 b 7)) 8)), step := 0, begins := true } : Tone)
      else
        ({ t with period := (bOr .u16 (bAnd .u16 t.period 255) (bShl .u16 (u16.wrap (bAnd .u8 b 7)) 8)), begins := true } : Tone)
    else
      if (decide (t.kind ≤ 1)) = true then
        ({ t with step := 0, begins := true } : Tone)
      else
        ({ t with begins := true } : Tone)
theorem tHigh_ok (t : Tone) (b : Int) (w_b : rng 256 b) : FnSpec Tryd.prog 54 1001 [.pointer (some ⟨1000, 0, none⟩), .int .u8 b] [tb4, (1000, Tone.blk t)] (.tuple ⟨[]⟩) [(1000, Tone.blk (tHigh t b))] := by
  unfold tHigh
  rcases bt t.on with c1 | c1
  · rw [if_pos c1]
    rcases bt (t.kind != 3) with c2 | c2
    · rw [if_pos c2]
      rcases bt (decide (t.kind ≤ 1)) with c3 | c3
      · rw [if_pos c3]
        exact fn_of_x hG hM Tryd.func54 (by kernel_rfl) (by kernel_rfl) 400 [.yes, .sym, .yes, .yes] (J c1 (J (by decide : (0 : Int) ≤ 3) (J (rng_shr_lit (m := 256) (n := 32) (a := b) (k := .u8) (b := 3) w_b (by decide)) (J (toNat_lt (rng_shr_lit (m := 256) (n := 32) (a := b) (k := .u8) (b := 3) w_b (by decide))) (J c2 (J (by decide : (0 : Int) ≤ 8) (J c3 trivial))))))) (by kernel_rfl)
      · rw [if_neg (nt c3)]
        exact fn_of_x hG hM Tryd.func54 (by kernel_rfl) (by kernel_rfl) 400 [.yes, .sym, .yes, .no] (J c1 (J (by decide : (0 : Int) ≤ 3) (J (rng_shr_lit (m := 256) (n := 32) (a := b) (k := .u8) (b := 3) w_b (by decide)) (J (toNat_lt (rng_shr_lit (m := 256) (n := 32) (a := b) (k := .u8) (b := 3) w_b (by decide))) (J c2 (J (by decide : (0 : Int) ≤ 8) (J c3 trivial))))))) (by kernel_rfl)
    · rw [if_neg (nt c2)]
      rcases bt (decide (t.kind ≤ 1)) with c3 | c3
      · rw [if_pos c3]
        exact fn_of_x hG hM Tryd.func54 (by kernel_rfl) (by kernel_rfl) 400 [.yes, .sym, .no, .yes] (J c1 (J (by decide : (0 : Int) ≤ 3) (J (rng_shr_lit (m := 256) (n := 32) (a := b) (k := .u8) (b := 3) w_b (by decide)) (J (toNat_lt (rng_shr_lit (m := 256) (n := 32) (a := b) (k := .u8) (b := 3) w_b (by decide))) (J c2 (J c3 trivial)))))) (by kernel_rfl)
      · rw [if_neg (nt c3)]
        exact fn_of_x hG hM Tryd.func54 (by kernel_rfl) (by kernel_rfl) 400 [.yes, .sym, .no, .no] (J c1 (J (by decide : (0 : Int) ≤ 3) (J (rng_shr_lit (m := 256) (n := 32) (a := b) (k := .u8) (b := 3) w_b (by decide)) (J (toNat_lt (rng_shr_lit (m := 256) (n := 32) (a := b) (k := .u8) (b := 3) w_b (by decide))) (J c2 (J c3 trivial)))))) (by kernel_rfl)
  · rw [if_neg (nt c1)]
    rcases bt (t.kind != 3) with c2 | c2
    · rw [if_pos c2]
      rcases bt (decide (t.kind ≤ 1)) with c3 | c3
      · rw [if_pos c3]
        exact fn_of_x hG hM Tryd.func54 (by kernel_rfl) (by kernel_rfl) 400 [.no, .yes, .yes] (J c1 (J c2 (J (by decide : (0 : Int) ≤ 8) (J c3 trivial)))) (by kernel_rfl)
      · rw [if_neg (nt c3)]
        exact fn_of_x hG hM Tryd.func54 (by kernel_rfl) (by kernel_rfl) 400 [.no, .yes, .no] (J c1 (J c2 (J (by decide : (0 : Int) ≤ 8) (J c3 trivial)))) (by kernel_rfl)
    · rw [if_neg (nt c2)]
      rcases bt (decide (t.kind ≤ 1)) with c3 | c3
      · rw [if_pos c3]
        exact fn_of_x hG hM Tryd.func54 (by kernel_rfl) (by kernel_rfl) 400 [.no, .no, .yes] (J c1 (J c2 (J c3 trivial))) (by kernel_rfl)
      · rw [if_neg (nt c3)]
        exact fn_of_x hG hM Tryd.func54 (by kernel_rfl) (by kernel_rfl) 400 [.no, .no, .no] (J c1 (J c2 (J c3 trivial))) (by kernel_rfl)
theorem tHigh_w (t : Tone) (b : Int) (w_t : Tone.ok t) (w_b : rng 256 b) : Tone.ok (tHigh t b) := by
  unfold tHigh
  rcases bt t.on with c1 | c1
  · rw [if_pos c1]
    rcases bt (t.kind != 3) with c2 | c2
    · rw [if_pos c2]
      rcases bt (decide (t.kind ≤ 1)) with c3 | c3
      · rw [if_pos c3]
        exact (⟨w_t.kind, w_t.reg, (lengthsT_w (Int.toNat (bShr .u8 b 3))), (rng_bOr_u16 (bAnd .u16 t.period 255) (bShl .u16 (u16.wrap (bAnd .u8 b 7)) 8)), w_t.timer, (by decide : rng 256 0), w_t.level, w_t.count, w_t.sweep, w_t.line, w_t.row⟩ : Tone.ok ({ t with length := (lengthsT (Int.toNat (bShr .u8 b 3))), period := (bOr .u16 (bAnd .u16 t.period 255) (bShl .u16 (u16.wrap (bAnd .u8 b 7)) 8)), step := 0, begins := true } : Tone))
      · rw [if_neg (nt c3)]
        exact (⟨w_t.kind, w_t.reg, (lengthsT_w (Int.toNat (bShr .u8 b 3))), (rng_bOr_u16 (bAnd .u16 t.period 255) (bShl .u16 (u16.wrap (bAnd .u8 b 7)) 8)), w_t.timer, w_t.step, w_t.level, w_t.count, w_t.sweep, w_t.line, w_t.row⟩ : Tone.ok ({ t with length := (lengthsT (Int.toNat (bShr .u8 b 3))), period := (bOr .u16 (bAnd .u16 t.period 255) (bShl .u16 (u16.wrap (bAnd .u8 b 7)) 8)), begins := true } : Tone))
    · rw [if_neg (nt c2)]
      rcases bt (decide (t.kind ≤ 1)) with c3 | c3
      · rw [if_pos c3]
        exact (⟨w_t.kind, w_t.reg, (lengthsT_w (Int.toNat (bShr .u8 b 3))), w_t.period, w_t.timer, (by decide : rng 256 0), w_t.level, w_t.count, w_t.sweep, w_t.line, w_t.row⟩ : Tone.ok ({ t with length := (lengthsT (Int.toNat (bShr .u8 b 3))), step := 0, begins := true } : Tone))
      · rw [if_neg (nt c3)]
        exact (⟨w_t.kind, w_t.reg, (lengthsT_w (Int.toNat (bShr .u8 b 3))), w_t.period, w_t.timer, w_t.step, w_t.level, w_t.count, w_t.sweep, w_t.line, w_t.row⟩ : Tone.ok ({ t with length := (lengthsT (Int.toNat (bShr .u8 b 3))), begins := true } : Tone))
  · rw [if_neg (nt c1)]
    rcases bt (t.kind != 3) with c2 | c2
    · rw [if_pos c2]
      rcases bt (decide (t.kind ≤ 1)) with c3 | c3
      · rw [if_pos c3]
        exact (⟨w_t.kind, w_t.reg, w_t.length, (rng_bOr_u16 (bAnd .u16 t.period 255) (bShl .u16 (u16.wrap (bAnd .u8 b 7)) 8)), w_t.timer, (by decide : rng 256 0), w_t.level, w_t.count, w_t.sweep, w_t.line, w_t.row⟩ : Tone.ok ({ t with period := (bOr .u16 (bAnd .u16 t.period 255) (bShl .u16 (u16.wrap (bAnd .u8 b 7)) 8)), step := 0, begins := true } : Tone))
      · rw [if_neg (nt c3)]
        exact (⟨w_t.kind, w_t.reg, w_t.length, (rng_bOr_u16 (bAnd .u16 t.period 255) (bShl .u16 (u16.wrap (bAnd .u8 b 7)) 8)), w_t.timer, w_t.step, w_t.level, w_t.count, w_t.sweep, w_t.line, w_t.row⟩ : Tone.ok ({ t with period := (bOr .u16 (bAnd .u16 t.period 255) (bShl .u16 (u16.wrap (bAnd .u8 b 7)) 8)), begins := true } : Tone))
    · rw [if_neg (nt c2)]
      rcases bt (decide (t.kind ≤ 1)) with c3 | c3
      · rw [if_pos c3]
        exact (⟨w_t.kind, w_t.reg, w_t.length, w_t.period, w_t.timer, (by decide : rng 256 0), w_t.level, w_t.count, w_t.sweep, w_t.line, w_t.row⟩ : Tone.ok ({ t with step := 0, begins := true } : Tone))
      · rw [if_neg (nt c3)]
        exact (⟨w_t.kind, w_t.reg, w_t.length, w_t.period, w_t.timer, w_t.step, w_t.level, w_t.count, w_t.sweep, w_t.line, w_t.row⟩ : Tone.ok ({ t with begins := true } : Tone))
def tCopy (t : Tone) : Tone :=
  ({ t with reg := (upd (upd (upd (upd (fun _ => 0) 0 (t.reg 0)) 1 (t.reg 1)) 2 (t.reg 2)) 3 (t.reg 3)) } : Tone)
theorem tCopy_ok (t : Tone) : FnSpec Tryd.prog 53 1001 [.pointer (some ⟨1000, 0, none⟩)] [(1000, Tone.blk t)] (.pointer (some ⟨1001, 0, none⟩)) [(1000, Tone.blk t), (1001, Tone.blk (tCopy t))] := by
  unfold tCopy
  exact fn_of_x hG hM Tryd.func53 (by kernel_rfl) (by kernel_rfl) 400 [.no, .segs [.one (.int .u8 0), .one (.bool false), .ints .u8 4 (fun _ => 0), .one (.int .u8 0), .one (.int .u16 0), .one (.int .u16 0), .one (.int .u8 0), .one (.bool false), .one (.int .u8 0), .one (.int .u8 0), .one (.int .u8 0), .one (.bool false), .one (.int .u8 0), .one (.int .u16 0)]] (J T0 trivial) (by kernel_rfl)
theorem tCopy_w (t : Tone) (w_t : Tone.ok t) : Tone.ok (tCopy t) := by
  unfold tCopy
  exact (⟨w_t.kind, (rng_upd (rng_upd (rng_upd (rng_upd (fun _ => (by decide : rng 256 0)) 0 (w_t.reg 0)) 1 (w_t.reg 1)) 2 (w_t.reg 2)) 3 (w_t.reg 3)), w_t.length, w_t.period, w_t.timer, w_t.step, w_t.level, w_t.count, w_t.sweep, w_t.line, w_t.row⟩ : Tone.ok ({ t with reg := (upd (upd (upd (upd (fun _ => 0) 0 (t.reg 0)) 1 (t.reg 1)) 2 (t.reg 2)) 3 (t.reg 3)) } : Tone))
def tPut_0 (t : Tone) (b : Int) : Tone :=
  ({ t with reg := (upd t.reg 0 b) } : Tone)
theorem tPut_0_ok (t : Tone) (b : Int) : FnSpec Tryd.prog 29 1001 [.pointer (some ⟨1000, 0, none⟩), .int .u8 0, .int .u8 b] [(1000, Tone.blk t)] (.tuple ⟨[]⟩) [(1000, Tone.blk (tPut_0 t b))] := by
  unfold tPut_0
  exact fn_of_x hG hM Tryd.func29 (by kernel_rfl) (by kernel_rfl) 400 [.no, .no, .no, .no, .no, .lit 0, .no, .no, .no, .no, .no, .no, .no, .no, .no, .no] (J T0 (J T0 (J T0 (J T0 (J T0 (J (Eq.refl (0 : Int)) (J (by decide : 0 < 4) (J T0 (J T0 (J T0 (J T0 (J T0 (J T0 (J T0 (J T0 (J T0 (J T0 trivial))))))))))))))))) (by kernel_rfl)
theorem tPut_0_w (t : Tone) (b : Int) (w_t : Tone.ok t) (w_b : rng 256 b) : Tone.ok (tPut_0 t b) := by
  unfold tPut_0
  exact (⟨w_t.kind, (rng_upd w_t.reg 0 w_b), w_t.length, w_t.period, w_t.timer, w_t.step, w_t.level, w_t.count, w_t.sweep, w_t.line, w_t.row⟩ : Tone.ok ({ t with reg := (upd t.reg 0 b) } : Tone))
def tPut_1 (t : Tone) (b : Int) : Tone :=
  ({ t with reg := (upd t.reg 1 b), swept := true } : Tone)
theorem tPut_1_ok (t : Tone) (b : Int) : FnSpec Tryd.prog 29 1001 [.pointer (some ⟨1000, 0, none⟩), .int .u8 1, .int .u8 b] [(1000, Tone.blk t)] (.tuple ⟨[]⟩) [(1000, Tone.blk (tPut_1 t b))] := by
  unfold tPut_1
  exact fn_of_x hG hM Tryd.func29 (by kernel_rfl) (by kernel_rfl) 400 [.no, .no, .no, .no, .no, .lit 1, .yes] (J T0 (J T0 (J T0 (J T0 (J T0 (J (Eq.refl (1 : Int)) (J (by decide : 1 < 4) (J T1 trivial)))))))) (by kernel_rfl)
theorem tPut_1_w (t : Tone) (b : Int) (w_t : Tone.ok t) (w_b : rng 256 b) : Tone.ok (tPut_1 t b) := by
  unfold tPut_1
  exact (⟨w_t.kind, (rng_upd w_t.reg 1 w_b), w_t.length, w_t.period, w_t.timer, w_t.step, w_t.level, w_t.count, w_t.sweep, w_t.line, w_t.row⟩ : Tone.ok ({ t with reg := (upd t.reg 1 b), swept := true } : Tone))
def tPut_2 (t : Tone) (b : Int) : Tone :=
  if (t.kind == 3) = true then
    ({ t with reg := (upd t.reg 2 b), period := (u16.wrap ((noisesT (Int.toNat (bAnd .u8 b 15))) - 1)) } : Tone)
  else
    ({ t with reg := (upd t.reg 2 b), period := (bOr .u16 (bAndNot .u16 t.period 255) (u16.wrap b)) } : Tone)
theorem tPut_2_ok (t : Tone) (b : Int) : FnSpec Tryd.prog 29 1001 [.pointer (some ⟨1000, 0, none⟩), .int .u8 2, .int .u8 b] [tb0, (1000, Tone.blk t)] (.tuple ⟨[]⟩) [(1000, Tone.blk (tPut_2 t b))] := by
  unfold tPut_2
  rcases bt (t.kind == 3) with c1 | c1
  · rw [if_pos c1]
    exact fn_of_x hG hM Tryd.func29 (by kernel_rfl) (by kernel_rfl) 400 [.no, .no, .no, .no, .no, .lit 2, .no, .yes, .yes, .yes, .yes, .yes, .yes, .yes, .sym] (J T0 (J T0 (J T0 (J T0 (J T0 (J (Eq.refl (2 : Int)) (J (by decide : 2 < 4) (J T0 (J T1 (J T1 (J T1 (J T1 (J T1 (J T1 (J c1 (J (rng_and_lit_u8 (n := 16) (m := 15) b (by decide)) (J (toNat_lt (rng_and_lit_u8 (n := 16) (m := 15) b (by decide))) trivial))))))))))))))))) (by kernel_rfl)
  · rw [if_neg (nt c1)]
    exact fn_of_x hG hM Tryd.func29 (by kernel_rfl) (by kernel_rfl) 400 [.no, .no, .no, .no, .no, .lit 2, .no, .yes, .yes, .yes, .yes, .yes, .yes, .no, .yes] (J T0 (J T0 (J T0 (J T0 (J T0 (J (Eq.refl (2 : Int)) (J (by decide : 2 < 4) (J T0 (J T1 (J T1 (J T1 (J T1 (J T1 (J T1 (J c1 (J T1 trivial)))))))))))))))) (by kernel_rfl)
theorem tPut_2_w (t : Tone) (b : Int) (w_t : Tone.ok t) (w_b : rng 256 b) : Tone.ok (tPut_2 t b) := by
  unfold tPut_2
  rcases bt (t.kind == 3) with c1 | c1
  · rw [if_pos c1]
    exact (⟨w_t.kind, (rng_upd w_t.reg 2 w_b), w_t.length, (rng_wrap_u16 ((noisesT (Int.toNat (bAnd .u8 b 15))) - 1)), w_t.timer, w_t.step, w_t.level, w_t.count, w_t.sweep, w_t.line, w_t.row⟩ : Tone.ok ({ t with reg := (upd t.reg 2 b), period := (u16.wrap ((noisesT (Int.toNat (bAnd .u8 b 15))) - 1)) } : Tone))
  · rw [if_neg (nt c1)]
    exact (⟨w_t.kind, (rng_upd w_t.reg 2 w_b), w_t.length, (rng_bOr_u16 (bAndNot .u16 t.period 255) (u16.wrap b)), w_t.timer, w_t.step, w_t.level, w_t.count, w_t.sweep, w_t.line, w_t.row⟩ : Tone.ok ({ t with reg := (upd t.reg 2 b), period := (bOr .u16 (bAndNot .u16 t.period 255) (u16.wrap b)) } : Tone))
def tPut_3 (t : Tone) (b : Int) : Tone :=
  (tHigh ({ t with reg := (upd t.reg 3 b) } : Tone) b)
theorem tPut_3_ok (t : Tone) (b : Int) (w_b : rng 256 b) : FnSpec Tryd.prog 29 1001 [.pointer (some ⟨1000, 0, none⟩), .int .u8 3, .int .u8 b] [tb4, (1000, Tone.blk t)] (.tuple ⟨[]⟩) [(1000, Tone.blk (tPut_3 t b))] := by
  unfold tPut_3
  exact fn_of_x hG hM Tryd.func29 (by kernel_rfl) (by kernel_rfl) 400 [.no, .no, .no, .no, .no, .lit 3, .no, .no, .no, .no, .no, .no, .no, .no, .no, .yes, .call [(4, 4), (1000, 1000)] [] 1001 (.tuple ⟨[]⟩) [(1000, Tone.blk (tHigh ({ t with reg := (upd t.reg 3 b) } : Tone) b))]] (J T0 (J T0 (J T0 (J T0 (J T0 (J (Eq.refl (3 : Int)) (J (by decide : 3 < 4) (J T0 (J T0 (J T0 (J T0 (J T0 (J T0 (J T0 (J T0 (J T0 (J T1 (J (tHigh_ok ({ t with reg := (upd t.reg 3 b) } : Tone) b w_b) trivial)))))))))))))))))) (by kernel_rfl)
theorem tPut_3_w (t : Tone) (b : Int) (w_t : Tone.ok t) (w_b : rng 256 b) : Tone.ok (tPut_3 t b) := by
  unfold tPut_3
  exact (tHigh_w ({ t with reg := (upd t.reg 3 b) } : Tone) b (⟨w_t.kind, (rng_upd w_t.reg 3 w_b), w_t.length, w_t.period, w_t.timer, w_t.step, w_t.level, w_t.count, w_t.sweep, w_t.line, w_t.row⟩ : Tone.ok ({ t with reg := (upd t.reg 3 b) } : Tone)) w_b)
def tPut (t : Tone) (reg : Int) (b : Int) : Tone :=
  if (decide ((i64.wrap reg) ≥ 4)) = true then
    t
  else
    if (reg == 1) = true then
      ({ t with reg := (upd t.reg (Int.toNat reg) b), swept := true } : Tone)
    else
      if (reg == 2) = true then
        if (t.kind == 3) = true then
          ({ t with reg := (upd t.reg (Int.toNat reg) b), period := (u16.wrap ((noisesT (Int.toNat (bAnd .u8 b 15))) - 1)) } : Tone)
        else
          ({ t with reg := (upd t.reg (Int.toNat reg) b), period := (bOr .u16 (bAndNot .u16 t.period 255) (u16.wrap b)) } : Tone)
      else
        if (reg == 3) = true then
          (tHigh ({ t with reg := (upd t.reg (Int.toNat reg) b) } : Tone) b)
        else
          ({ t with reg := (upd t.reg (Int.toNat reg) b) } : Tone)
theorem tPut_ok (t : Tone) (reg : Int) (b : Int) (w_t : Tone.ok t) (w_reg : rng 256 reg) (w_b : rng 256 b) : FnSpec Tryd.prog 29 1001 [.pointer (some ⟨1000, 0, none⟩), .int .u8 reg, .int .u8 b] [tb0, tb4, (1000, Tone.blk t)] (.tuple ⟨[]⟩) [(1000, Tone.blk (tPut t reg b))] := by
  unfold tPut
  rcases bt (decide ((i64.wrap reg) ≥ 4)) with c1 | c1
  · rw [if_pos c1]
    exact fn_of_x hG hM Tryd.func29 (by kernel_rfl) (by kernel_rfl) 400 [.no, .no, .no, .no, .yes] (J T0 (J T0 (J T0 (J T0 (J c1 trivial))))) (by kernel_rfl)
  · rw [if_neg (nt c1)]
    rcases bt (reg == 1) with c2 | c2
    · rw [if_pos c2]
      have o1 : 0 ≤ reg ∧ reg < ((4 : Nat) : Int) := by first | decide | omega | (simp only [decide_eq_true_eq, decide_eq_false_iff_not, rng, IntKind.wrap_i64, IntKind.wrap_u8, IntKind.wrap_u16] at *; omega)
      have o2 : (Int.toNat reg) < 4 := by first | decide | omega | (simp only [decide_eq_true_eq, decide_eq_false_iff_not, rng, IntKind.wrap_i64, IntKind.wrap_u8, IntKind.wrap_u16] at *; omega)
      exact fn_of_x hG hM Tryd.func29 (by kernel_rfl) (by kernel_rfl) 400 [.no, .no, .no, .no, .no, .sym, .yes] (J T0 (J T0 (J T0 (J T0 (J c1 (J o1 (J o2 (J c2 trivial)))))))) (by kernel_rfl)
    · rw [if_neg (nt c2)]
      rcases bt (reg == 2) with c3 | c3
      · rw [if_pos c3]
        rcases bt (t.kind == 3) with c4 | c4
        · rw [if_pos c4]
          have o1 : 0 ≤ reg ∧ reg < ((4 : Nat) : Int) := by first | decide | omega | (simp only [decide_eq_true_eq, decide_eq_false_iff_not, rng, IntKind.wrap_i64, IntKind.wrap_u8, IntKind.wrap_u16] at *; omega)
          have o2 : (Int.toNat reg) < 4 := by first | decide | omega | (simp only [decide_eq_true_eq, decide_eq_false_iff_not, rng, IntKind.wrap_i64, IntKind.wrap_u8, IntKind.wrap_u16] at *; omega)
          exact fn_of_x hG hM Tryd.func29 (by kernel_rfl) (by kernel_rfl) 400 [.no, .no, .no, .no, .no, .sym, .no, .yes, .yes, .yes, .yes, .yes, .yes, .yes, .sym] (J T0 (J T0 (J T0 (J T0 (J c1 (J o1 (J o2 (J c2 (J c3 (J c3 (J c3 (J c3 (J c3 (J c3 (J c4 (J (rng_and_lit_u8 (n := 16) (m := 15) b (by decide)) (J (toNat_lt (rng_and_lit_u8 (n := 16) (m := 15) b (by decide))) trivial))))))))))))))))) (by kernel_rfl)
        · rw [if_neg (nt c4)]
          have o1 : 0 ≤ reg ∧ reg < ((4 : Nat) : Int) := by first | decide | omega | (simp only [decide_eq_true_eq, decide_eq_false_iff_not, rng, IntKind.wrap_i64, IntKind.wrap_u8, IntKind.wrap_u16] at *; omega)
          have o2 : (Int.toNat reg) < 4 := by first | decide | omega | (simp only [decide_eq_true_eq, decide_eq_false_iff_not, rng, IntKind.wrap_i64, IntKind.wrap_u8, IntKind.wrap_u16] at *; omega)
          exact fn_of_x hG hM Tryd.func29 (by kernel_rfl) (by kernel_rfl) 400 [.no, .no, .no, .no, .no, .sym, .no, .yes, .yes, .yes, .yes, .yes, .yes, .no, .yes] (J T0 (J T0 (J T0 (J T0 (J c1 (J o1 (J o2 (J c2 (J c3 (J c3 (J c3 (J c3 (J c3 (J c3 (J c4 (J c3 trivial)))))))))))))))) (by kernel_rfl)
      · rw [if_neg (nt c3)]
        rcases bt (reg == 3) with c4 | c4
        · rw [if_pos c4]
          have o1 : 0 ≤ reg ∧ reg < ((4 : Nat) : Int) := by first | decide | omega | (simp only [decide_eq_true_eq, decide_eq_false_iff_not, rng, IntKind.wrap_i64, IntKind.wrap_u8, IntKind.wrap_u16] at *; omega)
          have o2 : (Int.toNat reg) < 4 := by first | decide | omega | (simp only [decide_eq_true_eq, decide_eq_false_iff_not, rng, IntKind.wrap_i64, IntKind.wrap_u8, IntKind.wrap_u16] at *; omega)
          exact fn_of_x hG hM Tryd.func29 (by kernel_rfl) (by kernel_rfl) 400 [.no, .no, .no, .no, .no, .sym, .no, .no, .no, .no, .no, .no, .no, .no, .no, .yes, .call [(4, 4), (1000, 1000)] [] 1001 (.tuple ⟨[]⟩) [(1000, Tone.blk (tHigh ({ t with reg := (upd t.reg (Int.toNat reg) b) } : Tone) b))]] (J T0 (J T0 (J T0 (J T0 (J c1 (J o1 (J o2 (J c2 (J c3 (J c3 (J c3 (J c3 (J c3 (J c3 (J T0 (J c3 (J c4 (J (tHigh_ok ({ t with reg := (upd t.reg (Int.toNat reg) b) } : Tone) b w_b) trivial)))))))))))))))))) (by kernel_rfl)
        · rw [if_neg (nt c4)]
          have o1 : 0 ≤ reg ∧ reg < ((4 : Nat) : Int) := by first | decide | omega | (simp only [decide_eq_true_eq, decide_eq_false_iff_not, rng, IntKind.wrap_i64, IntKind.wrap_u8, IntKind.wrap_u16] at *; omega)
          have o2 : (Int.toNat reg) < 4 := by first | decide | omega | (simp only [decide_eq_true_eq, decide_eq_false_iff_not, rng, IntKind.wrap_i64, IntKind.wrap_u8, IntKind.wrap_u16] at *; omega)
          exact fn_of_x hG hM Tryd.func29 (by kernel_rfl) (by kernel_rfl) 400 [.no, .no, .no, .no, .no, .sym, .no, .no, .no, .no, .no, .no, .no, .no, .no, .no] (J T0 (J T0 (J T0 (J T0 (J c1 (J o1 (J o2 (J c2 (J c3 (J c3 (J c3 (J c3 (J c3 (J c3 (J T0 (J c3 (J c4 trivial))))))))))))))))) (by kernel_rfl)
theorem tPut_w (t : Tone) (reg : Int) (b : Int) (w_t : Tone.ok t) (w_reg : rng 256 reg) (w_b : rng 256 b) : Tone.ok (tPut t reg b) := by
  unfold tPut
  rcases bt (decide ((i64.wrap reg) ≥ 4)) with c1 | c1
  · rw [if_pos c1]
    exact w_t
  · rw [if_neg (nt c1)]
    rcases bt (reg == 1) with c2 | c2
    · rw [if_pos c2]
      exact (⟨w_t.kind, (rng_upd w_t.reg (Int.toNat reg) w_b), w_t.length, w_t.period, w_t.timer, w_t.step, w_t.level, w_t.count, w_t.sweep, w_t.line, w_t.row⟩ : Tone.ok ({ t with reg := (upd t.reg (Int.toNat reg) b), swept := true } : Tone))
    · rw [if_neg (nt c2)]
      rcases bt (reg == 2) with c3 | c3
      · rw [if_pos c3]
        rcases bt (t.kind == 3) with c4 | c4
        · rw [if_pos c4]
          exact (⟨w_t.kind, (rng_upd w_t.reg (Int.toNat reg) w_b), w_t.length, (rng_wrap_u16 ((noisesT (Int.toNat (bAnd .u8 b 15))) - 1)), w_t.timer, w_t.step, w_t.level, w_t.count, w_t.sweep, w_t.line, w_t.row⟩ : Tone.ok ({ t with reg := (upd t.reg (Int.toNat reg) b), period := (u16.wrap ((noisesT (Int.toNat (bAnd .u8 b 15))) - 1)) } : Tone))
        · rw [if_neg (nt c4)]
          exact (⟨w_t.kind, (rng_upd w_t.reg (Int.toNat reg) w_b), w_t.length, (rng_bOr_u16 (bAndNot .u16 t.period 255) (u16.wrap b)), w_t.timer, w_t.step, w_t.level, w_t.count, w_t.sweep, w_t.line, w_t.row⟩ : Tone.ok ({ t with reg := (upd t.reg (Int.toNat reg) b), period := (bOr .u16 (bAndNot .u16 t.period 255) (u16.wrap b)) } : Tone))
      · rw [if_neg (nt c3)]
        rcases bt (reg == 3) with c4 | c4
        · rw [if_pos c4]
          exact (tHigh_w ({ t with reg := (upd t.reg (Int.toNat reg) b) } : Tone) b (⟨w_t.kind, (rng_upd w_t.reg (Int.toNat reg) w_b), w_t.length, w_t.period, w_t.timer, w_t.step, w_t.level, w_t.count, w_t.sweep, w_t.line, w_t.row⟩ : Tone.ok ({ t with reg := (upd t.reg (Int.toNat reg) b) } : Tone)) w_b)
        · rw [if_neg (nt c4)]
          exact (⟨w_t.kind, (rng_upd w_t.reg (Int.toNat reg) w_b), w_t.length, w_t.period, w_t.timer, w_t.step, w_t.level, w_t.count, w_t.sweep, w_t.line, w_t.row⟩ : Tone.ok ({ t with reg := (upd t.reg (Int.toNat reg) b) } : Tone))
end Go.Proofs.YtgpcfjokmonlgaaDoor
namespace Go.Proofs.YtgpcfjokmonlgaaDoor
open Go VX
open Go.IntKind (i64 u8 u16)
set_option linter.unusedVariables false
set_option linter.unusedSimpArgs false
set_option maxRecDepth 100000
structure Smp where
  reg : Nat → Int
  level : Int
  next : Int
  waits : Bool
  row : Int
  bits : Int
  speaks : Bool
  timer : Int
  at_ : Int
  left : Int
  irq : Bool
def Smp.enc (s : Smp) : Value := .agg ⟨[.int .u8 (s.reg 0), .int .u8 (s.reg 1), .int .u8 (s.reg 2), .int .u8 (s.reg 3), .int .u8 s.level, .int .u8 s.next, .bool s.waits, .int .u8 s.row, .int .u8 s.bits, .bool s.speaks, .int .u16 s.timer, .int .u16 s.at_, .int .i64 s.left, .bool s.irq]⟩
def Smp.blk (s : Smp) : Blk := ⟨[.ints .u8 4 s.reg, .one (.int .u8 s.level), .one (.int .u8 s.next), .one (.bool s.waits), .one (.int .u8 s.row), .one (.int .u8 s.bits), .one (.bool s.speaks), .one (.int .u16 s.timer), .one (.int .u16 s.at_), .one (.int .i64 s.left), .one (.bool s.irq)], 62, false⟩
def Smp.cells (s : Smp) : List Value := [.int .u8 (s.reg 0), .int .u8 (s.reg 1), .int .u8 (s.reg 2), .int .u8 (s.reg 3), .int .u8 s.level, .int .u8 s.next, .bool s.waits, .int .u8 s.row, .int .u8 s.bits, .bool s.speaks, .int .u16 s.timer, .int .u16 s.at_, .int .i64 s.left, .bool s.irq]
structure Smp.ok (s : Smp) : Prop where
  reg : ∀ j, rng 256 (s.reg j)
  level : rng 256 s.level
  next : rng 256 s.next
  row : rng 256 s.row
  bits : rng 256 s.bits
  timer : rng 65536 s.timer
  at_ : rng 65536 s.at_
structure Snd where
  tones_0 : Tone
  tones_1 : Tone
  tones_2 : Tone
  tones_3 : Tone
  sample : Smp
  count : Int
  manner : Int
  bars : Bool
  irq : Bool
  even : Bool
def Snd.blk (p0 p1 p2 p3 : Nat) (s : Snd) : Blk := ⟨[.one (.pointer (some ⟨p0, 0, none⟩)), .one (.pointer (some ⟨p1, 0, none⟩)), .one (.pointer (some ⟨p2, 0, none⟩)), .one (.pointer (some ⟨p3, 0, none⟩)), .ints .u8 4 s.sample.reg, .one (.int .u8 s.sample.level), .one (.int .u8 s.sample.next), .one (.bool s.sample.waits), .one (.int .u8 s.sample.row), .one (.int .u8 s.sample.bits), .one (.bool s.sample.speaks), .one (.int .u16 s.sample.timer), .one (.int .u16 s.sample.at_), .one (.int .i64 s.sample.left), .one (.bool s.sample.irq), .one (.int .i64 s.count), .one (.int .i64 s.manner), .one (.bool s.bars), .one (.bool s.irq), .one (.bool s.even)], 66, false⟩
def Snd.H (p p0 p1 p2 p3 : Nat) (s : Snd) : Heap := [(p, Snd.blk p0 p1 p2 p3 s), (p0, Tone.blk s.tones_0), (p1, Tone.blk s.tones_1), (p2, Tone.blk s.tones_2), (p3, Tone.blk s.tones_3)]
abbrev Snd.H0 := Snd.H 1000 1001 1002 1003 1004
def Snd.HL (p p0 p1 p2 p3 : Nat) (s : Snd) : Heap := [(p, (Snd.blk p0 p1 p2 p3 s).lend), (p0, (Tone.blk s.tones_0).lend), (p1, (Tone.blk s.tones_1).lend), (p2, (Tone.blk s.tones_2).lend), (p3, (Tone.blk s.tones_3).lend)]
structure Snd.ok (s : Snd) : Prop where
  tones_0 : Tone.ok s.tones_0
  tones_1 : Tone.ok s.tones_1
  tones_2 : Tone.ok s.tones_2
  tones_3 : Tone.ok s.tones_3
  sample : Smp.ok s.sample
structure Act where
  Do : Int
  At : Int
  B : Int
  N : Int
def Act.enc (s : Act) : Value := .agg ⟨[.int .u8 s.Do, .int .u16 s.At, .int .u8 s.B, .int .u16 s.N]⟩
def Act.blk (s : Act) : Blk := ⟨[.one (.int .u8 s.Do), .one (.int .u16 s.At), .one (.int .u8 s.B), .one (.int .u16 s.N)], 34, false⟩
def Act.cells (s : Act) : List Value := [.int .u8 s.Do, .int .u16 s.At, .int .u8 s.B, .int .u16 s.N]
structure Act.ok (s : Act) : Prop where
  Do : rng 256 s.Do
  At : rng 65536 s.At
  B : rng 256 s.B
  N : rng 65536 s.N
def mBegin (s : Snd) : Snd :=
  ({ s with sample := ({ s.sample with at_ := (u16.wrap (49152 + (u16.wrap (64 * (u16.wrap (s.sample.reg 2)))))), left := (i64.wrap ((i64.wrap (16 * (i64.wrap (s.sample.reg 3)))) + 1)) } : Smp) } : Snd)
theorem mBegin_ok (s : Snd) : FnSpec Tryd.prog 55 1005 [.pointer (some ⟨1000, 4, none⟩)] (Snd.H0 s) (.tuple ⟨[]⟩) (Snd.H0 (mBegin s)) := by
  unfold mBegin
  exact fn_of_x hG hM Tryd.func55 (by kernel_rfl) (by kernel_rfl) 400 [.lit 2, .lit 3] (J (Eq.refl (2 : Int)) (J (by decide : 2 < 4) (J (Eq.refl (3 : Int)) (J (by decide : 3 < 4) trivial)))) (by kernel_rfl)
theorem mBegin_w (s : Snd) (w_s : Snd.ok s) : Snd.ok (mBegin s) := by
  unfold mBegin
  exact (⟨w_s.tones_0, w_s.tones_1, w_s.tones_2, w_s.tones_3, (⟨w_s.sample.reg, w_s.sample.level, w_s.sample.next, w_s.sample.row, w_s.sample.bits, w_s.sample.timer, (rng_wrap_u16 (49152 + (u16.wrap (64 * (u16.wrap (s.sample.reg 2))))))⟩ : Smp.ok ({ s.sample with at_ := (u16.wrap (49152 + (u16.wrap (64 * (u16.wrap (s.sample.reg 2)))))), left := (i64.wrap ((i64.wrap (16 * (i64.wrap (s.sample.reg 3)))) + 1)) } : Smp))⟩ : Snd.ok ({ s with sample := ({ s.sample with at_ := (u16.wrap (49152 + (u16.wrap (64 * (u16.wrap (s.sample.reg 2)))))), left := (i64.wrap ((i64.wrap (16 * (i64.wrap (s.sample.reg 3)))) + 1)) } : Smp) } : Snd))
def mBit (s : Snd) : Snd :=
  if (!s.sample.speaks) = true then
    s
  else
    if ((bAnd .u8 s.sample.row 1) != 0) = true then
      if (decide (s.sample.level ≤ 125)) = true then
        ({ s with sample := ({ s.sample with level := (u8.wrap (s.sample.level + 2)), row := (bShr .u8 s.sample.row 1) } : Smp) } : Snd)
      else
        if (!((bAnd .u8 s.sample.row 1) != 0)) = true then
          if (decide (s.sample.level ≥ 2)) = true then
            ({ s with sample := ({ s.sample with level := (u8.wrap (s.sample.level - 2)), row := (bShr .u8 s.sample.row 1) } : Smp) } : Snd)
          else
            ({ s with sample := ({ s.sample with row := (bShr .u8 s.sample.row 1) } : Smp) } : Snd)
        else
          ({ s with sample := ({ s.sample with row := (bShr .u8 s.sample.row 1) } : Smp) } : Snd)
    else
      if (!((bAnd .u8 s.sample.row 1) != 0)) = true then
        if (decide (s.sample.level ≥ 2)) = true then
          ({ s with sample := ({ s.sample with level := (u8.wrap (s.sample.level - 2)), row := (bShr .u8 s.sample.row 1) } : Smp) } : Snd)
        else
          ({ s with sample := ({ s.sample with row := (bShr .u8 s.sample.row 1) } : Smp) } : Snd)
      else
        ({ s with sample := ({ s.sample with row := (bShr .u8 s.sample.row 1) } : Smp) } : Snd)
theorem mBit_ok (s : Snd) : FnSpec Tryd.prog 59 1005 [.pointer (some ⟨1000, 4, none⟩)] (Snd.H0 s) (.tuple ⟨[]⟩) (Snd.H0 (mBit s)) := by
  unfold mBit
  rcases bt (!s.sample.speaks) with c1 | c1
  · rw [if_pos c1]
    exact fn_of_x hG hM Tryd.func59 (by kernel_rfl) (by kernel_rfl) 400 [.yes] (J c1 trivial) (by kernel_rfl)
  · rw [if_neg (nt c1)]
    rcases bt ((bAnd .u8 s.sample.row 1) != 0) with c2 | c2
    · rw [if_pos c2]
      rcases bt (decide (s.sample.level ≤ 125)) with c3 | c3
      · rw [if_pos c3]
        exact fn_of_x hG hM Tryd.func59 (by kernel_rfl) (by kernel_rfl) 400 [.no, .yes, .yes, .yes, .yes, .yes, .yes, .yes] (J c1 (J c2 (J c2 (J c2 (J c2 (J c2 (J c2 (J c3 (J (by decide : (0 : Int) ≤ 1) trivial))))))))) (by kernel_rfl)
      · rw [if_neg (nt c3)]
        rcases bt (!((bAnd .u8 s.sample.row 1) != 0)) with c4 | c4
        · rw [if_pos c4]
          rcases bt (decide (s.sample.level ≥ 2)) with c5 | c5
          · rw [if_pos c5]
            exact fn_of_x hG hM Tryd.func59 (by kernel_rfl) (by kernel_rfl) 400 [.no, .yes, .yes, .yes, .yes, .yes, .yes, .no, .yes, .yes, .yes, .yes, .yes, .yes, .yes] (J c1 (J c2 (J c2 (J c2 (J c2 (J c2 (J c2 (J c3 (J c4 (J c4 (J c4 (J c4 (J c4 (J c4 (J c5 (J (by decide : (0 : Int) ≤ 1) trivial)))))))))))))))) (by kernel_rfl)
          · rw [if_neg (nt c5)]
            exact fn_of_x hG hM Tryd.func59 (by kernel_rfl) (by kernel_rfl) 400 [.no, .yes, .yes, .yes, .yes, .yes, .yes, .no, .yes, .yes, .yes, .yes, .yes, .yes, .no] (J c1 (J c2 (J c2 (J c2 (J c2 (J c2 (J c2 (J c3 (J c4 (J c4 (J c4 (J c4 (J c4 (J c4 (J c5 (J (by decide : (0 : Int) ≤ 1) trivial)))))))))))))))) (by kernel_rfl)
        · rw [if_neg (nt c4)]
          exact fn_of_x hG hM Tryd.func59 (by kernel_rfl) (by kernel_rfl) 400 [.no, .yes, .yes, .yes, .yes, .yes, .yes, .no, .no, .no, .no, .no, .no, .no, .no] (J c1 (J c2 (J c2 (J c2 (J c2 (J c2 (J c2 (J c3 (J c4 (J c4 (J c4 (J c4 (J c4 (J c4 (J T0 (J (by decide : (0 : Int) ≤ 1) trivial)))))))))))))))) (by kernel_rfl)
    · rw [if_neg (nt c2)]
      rcases bt (!((bAnd .u8 s.sample.row 1) != 0)) with c3 | c3
      · rw [if_pos c3]
        rcases bt (decide (s.sample.level ≥ 2)) with c4 | c4
        · rw [if_pos c4]
          exact fn_of_x hG hM Tryd.func59 (by kernel_rfl) (by kernel_rfl) 400 [.no, .no, .no, .no, .no, .no, .no, .no, .yes, .yes, .yes, .yes, .yes, .yes, .yes] (J c1 (J c2 (J c2 (J c2 (J c2 (J c2 (J c2 (J T0 (J c3 (J c3 (J c3 (J c3 (J c3 (J c3 (J c4 (J (by decide : (0 : Int) ≤ 1) trivial)))))))))))))))) (by kernel_rfl)
        · rw [if_neg (nt c4)]
          exact fn_of_x hG hM Tryd.func59 (by kernel_rfl) (by kernel_rfl) 400 [.no, .no, .no, .no, .no, .no, .no, .no, .yes, .yes, .yes, .yes, .yes, .yes, .no] (J c1 (J c2 (J c2 (J c2 (J c2 (J c2 (J c2 (J T0 (J c3 (J c3 (J c3 (J c3 (J c3 (J c3 (J c4 (J (by decide : (0 : Int) ≤ 1) trivial)))))))))))))))) (by kernel_rfl)
      · rw [if_neg (nt c3)]
        exact fn_of_x hG hM Tryd.func59 (by kernel_rfl) (by kernel_rfl) 400 [.no, .no, .no, .no, .no, .no, .no, .no, .no, .no, .no, .no, .no, .no, .no] (J c1 (J c2 (J c2 (J c2 (J c2 (J c2 (J c2 (J T0 (J c3 (J c3 (J c3 (J c3 (J c3 (J c3 (J T0 (J (by decide : (0 : Int) ≤ 1) trivial)))))))))))))))) (by kernel_rfl)
theorem mBit_w (s : Snd) (w_s : Snd.ok s) : Snd.ok (mBit s) := by
  unfold mBit
  rcases bt (!s.sample.speaks) with c1 | c1
  · rw [if_pos c1]
    exact w_s
  · rw [if_neg (nt c1)]
    rcases bt ((bAnd .u8 s.sample.row 1) != 0) with c2 | c2
    · rw [if_pos c2]
      rcases bt (decide (s.sample.level ≤ 125)) with c3 | c3
      · rw [if_pos c3]
        exact (⟨w_s.tones_0, w_s.tones_1, w_s.tones_2, w_s.tones_3, (⟨w_s.sample.reg, (rng_wrap_u8 (s.sample.level + 2)), w_s.sample.next, (rng_bShr w_s.sample.row .u8 1), w_s.sample.bits, w_s.sample.timer, w_s.sample.at_⟩ : Smp.ok ({ s.sample with level := (u8.wrap (s.sample.level + 2)), row := (bShr .u8 s.sample.row 1) } : Smp))⟩ : Snd.ok ({ s with sample := ({ s.sample with level := (u8.wrap (s.sample.level + 2)), row := (bShr .u8 s.sample.row 1) } : Smp) } : Snd))
      · rw [if_neg (nt c3)]
        rcases bt (!((bAnd .u8 s.sample.row 1) != 0)) with c4 | c4
        · rw [if_pos c4]
          rcases bt (decide (s.sample.level ≥ 2)) with c5 | c5
          · rw [if_pos c5]
            exact (⟨w_s.tones_0, w_s.tones_1, w_s.tones_2, w_s.tones_3, (⟨w_s.sample.reg, (rng_wrap_u8 (s.sample.level - 2)), w_s.sample.next, (rng_bShr w_s.sample.row .u8 1), w_s.sample.bits, w_s.sample.timer, w_s.sample.at_⟩ : Smp.ok ({ s.sample with level := (u8.wrap (s.sample.level - 2)), row := (bShr .u8 s.sample.row 1) } : Smp))⟩ : Snd.ok ({ s with sample := ({ s.sample with level := (u8.wrap (s.sample.level - 2)), row := (bShr .u8 s.sample.row 1) } : Smp) } : Snd))
          · rw [if_neg (nt c5)]
            exact (⟨w_s.tones_0, w_s.tones_1, w_s.tones_2, w_s.tones_3, (⟨w_s.sample.reg, w_s.sample.level, w_s.sample.next, (rng_bShr w_s.sample.row .u8 1), w_s.sample.bits, w_s.sample.timer, w_s.sample.at_⟩ : Smp.ok ({ s.sample with row := (bShr .u8 s.sample.row 1) } : Smp))⟩ : Snd.ok ({ s with sample := ({ s.sample with row := (bShr .u8 s.sample.row 1) } : Smp) } : Snd))
        · rw [if_neg (nt c4)]
          exact (⟨w_s.tones_0, w_s.tones_1, w_s.tones_2, w_s.tones_3, (⟨w_s.sample.reg, w_s.sample.level, w_s.sample.next, (rng_bShr w_s.sample.row .u8 1), w_s.sample.bits, w_s.sample.timer, w_s.sample.at_⟩ : Smp.ok ({ s.sample with row := (bShr .u8 s.sample.row 1) } : Smp))⟩ : Snd.ok ({ s with sample := ({ s.sample with row := (bShr .u8 s.sample.row 1) } : Smp) } : Snd))
    · rw [if_neg (nt c2)]
      rcases bt (!((bAnd .u8 s.sample.row 1) != 0)) with c3 | c3
      · rw [if_pos c3]
        rcases bt (decide (s.sample.level ≥ 2)) with c4 | c4
        · rw [if_pos c4]
          exact (⟨w_s.tones_0, w_s.tones_1, w_s.tones_2, w_s.tones_3, (⟨w_s.sample.reg, (rng_wrap_u8 (s.sample.level - 2)), w_s.sample.next, (rng_bShr w_s.sample.row .u8 1), w_s.sample.bits, w_s.sample.timer, w_s.sample.at_⟩ : Smp.ok ({ s.sample with level := (u8.wrap (s.sample.level - 2)), row := (bShr .u8 s.sample.row 1) } : Smp))⟩ : Snd.ok ({ s with sample := ({ s.sample with level := (u8.wrap (s.sample.level - 2)), row := (bShr .u8 s.sample.row 1) } : Smp) } : Snd))
        · rw [if_neg (nt c4)]
          exact (⟨w_s.tones_0, w_s.tones_1, w_s.tones_2, w_s.tones_3, (⟨w_s.sample.reg, w_s.sample.level, w_s.sample.next, (rng_bShr w_s.sample.row .u8 1), w_s.sample.bits, w_s.sample.timer, w_s.sample.at_⟩ : Smp.ok ({ s.sample with row := (bShr .u8 s.sample.row 1) } : Smp))⟩ : Snd.ok ({ s with sample := ({ s.sample with row := (bShr .u8 s.sample.row 1) } : Smp) } : Snd))
      · rw [if_neg (nt c3)]
        exact (⟨w_s.tones_0, w_s.tones_1, w_s.tones_2, w_s.tones_3, (⟨w_s.sample.reg, w_s.sample.level, w_s.sample.next, (rng_bShr w_s.sample.row .u8 1), w_s.sample.bits, w_s.sample.timer, w_s.sample.at_⟩ : Smp.ok ({ s.sample with row := (bShr .u8 s.sample.row 1) } : Smp))⟩ : Snd.ok ({ s with sample := ({ s.sample with row := (bShr .u8 s.sample.row 1) } : Smp) } : Snd))
def mAsks (s : Snd) : Bool :=
  if (!s.sample.waits) = true then
    (decide (s.sample.left > 0))
  else
    false
theorem mAsks_ok (s : Snd) : FnSpec Tryd.prog 52 1005 [.pointer (some ⟨1000, 4, none⟩)] (Snd.HL 1000 1001 1002 1003 1004 s) (.bool (mAsks s)) [] := by
  unfold mAsks
  rcases bt (!s.sample.waits) with c1 | c1
  · rw [if_pos c1]
    exact fn_of_x hG hM Tryd.func52 (by kernel_rfl) (by kernel_rfl) 400 [.yes, .yes, .yes, .yes, .yes, .yes] (J c1 (J c1 (J c1 (J c1 (J c1 (J c1 trivial)))))) (by kernel_rfl)
  · rw [if_neg (nt c1)]
    exact fn_of_x hG hM Tryd.func52 (by kernel_rfl) (by kernel_rfl) 400 [.no, .no, .no, .no, .no, .no] (J c1 (J c1 (J c1 (J c1 (J c1 (J c1 trivial)))))) (by kernel_rfl)
def mClock (s : Snd) : Snd :=
  if (decide (s.sample.timer > 0)) = true then
    ({ s with sample := ({ s.sample with timer := (u16.wrap (s.sample.timer - 1)) } : Smp) } : Snd)
  else
    if (decide ((u8.wrap (((mBit ({ s with sample := ({ s.sample with timer := (u16.wrap ((ratesT (Int.toNat (bAnd .u8 (s.sample.reg 0) 15))) - 1)) } : Smp) } : Snd)).sample).bits - 1)) > 0)) = true then
      ({ (mBit ({ s with sample := ({ s.sample with timer := (u16.wrap ((ratesT (Int.toNat (bAnd .u8 (s.sample.reg 0) 15))) - 1)) } : Smp) } : Snd)) with sample := ({ ((mBit ({ s with sample := ({ s.sample with timer := (u16.wrap ((ratesT (Int.toNat (bAnd .u8 (s.sample.reg 0) 15))) - 1)) } : Smp) } : Snd)).sample) with bits := (u8.wrap (((mBit ({ s with sample := ({ s.sample with timer := (u16.wrap ((ratesT (Int.toNat (bAnd .u8 (s.sample.reg 0) 15))) - 1)) } : Smp) } : Snd)).sample).bits - 1)) } : Smp) } : Snd)
    else
      if ((mBit ({ s with sample := ({ s.sample with timer := (u16.wrap ((ratesT (Int.toNat (bAnd .u8 (s.sample.reg 0) 15))) - 1)) } : Smp) } : Snd)).sample).waits = true then
        ({ (mBit ({ s with sample := ({ s.sample with timer := (u16.wrap ((ratesT (Int.toNat (bAnd .u8 (s.sample.reg 0) 15))) - 1)) } : Smp) } : Snd)) with sample := ({ ((mBit ({ s with sample := ({ s.sample with timer := (u16.wrap ((ratesT (Int.toNat (bAnd .u8 (s.sample.reg 0) 15))) - 1)) } : Smp) } : Snd)).sample) with waits := false, row := ((mBit ({ s with sample := ({ s.sample with timer := (u16.wrap ((ratesT (Int.toNat (bAnd .u8 (s.sample.reg 0) 15))) - 1)) } : Smp) } : Snd)).sample).next, bits := 8, speaks := ((mBit ({ s with sample := ({ s.sample with timer := (u16.wrap ((ratesT (Int.toNat (bAnd .u8 (s.sample.reg 0) 15))) - 1)) } : Smp) } : Snd)).sample).waits } : Smp) } : Snd)
      else
        ({ (mBit ({ s with sample := ({ s.sample with timer := (u16.wrap ((ratesT (Int.toNat (bAnd .u8 (s.sample.reg 0) 15))) - 1)) } : Smp) } : Snd)) with sample := ({ ((mBit ({ s with sample := ({ s.sample with timer := (u16.wrap ((ratesT (Int.toNat (bAnd .u8 (s.sample.reg 0) 15))) - 1)) } : Smp) } : Snd)).sample) with bits := 8, speaks := ((mBit ({ s with sample := ({ s.sample with timer := (u16.wrap ((ratesT (Int.toNat (bAnd .u8 (s.sample.reg 0) 15))) - 1)) } : Smp) } : Snd)).sample).waits } : Smp) } : Snd)
theorem mClock_ok (s : Snd) : FnSpec Tryd.prog 37 1005 [.pointer (some ⟨1000, 4, none⟩)] ([tb2] ++ (Snd.H0 s)) (.tuple ⟨[]⟩) (Snd.H0 (mClock s)) := by
  unfold mClock
  rcases bt (decide (s.sample.timer > 0)) with c1 | c1
  · rw [if_pos c1]
    exact fn_of_x hG hM Tryd.func37 (by kernel_rfl) (by kernel_rfl) 400 [.yes] (J c1 trivial) (by kernel_rfl)
  · rw [if_neg (nt c1)]
    rcases bt (decide ((u8.wrap (((mBit ({ s with sample := ({ s.sample with timer := (u16.wrap ((ratesT (Int.toNat (bAnd .u8 (s.sample.reg 0) 15))) - 1)) } : Smp) } : Snd)).sample).bits - 1)) > 0)) with c2 | c2
    · rw [if_pos c2]
      exact fn_of_x hG hM Tryd.func37 (by kernel_rfl) (by kernel_rfl) 400 [.no, .lit 0, .sym, .call [(1000, 1000), (1001, 1001), (1002, 1002), (1003, 1003), (1004, 1004)] [] 1005 (.tuple ⟨[]⟩) (Snd.H0 (mBit ({ s with sample := ({ s.sample with timer := (u16.wrap ((ratesT (Int.toNat (bAnd .u8 (s.sample.reg 0) 15))) - 1)) } : Smp) } : Snd))), .yes] (J c1 (J (Eq.refl (0 : Int)) (J (by decide : 0 < 4) (J (rng_and_lit_u8 (n := 16) (m := 15) (s.sample.reg 0) (by decide)) (J (toNat_lt (rng_and_lit_u8 (n := 16) (m := 15) (s.sample.reg 0) (by decide))) (J (mBit_ok ({ s with sample := ({ s.sample with timer := (u16.wrap ((ratesT (Int.toNat (bAnd .u8 (s.sample.reg 0) 15))) - 1)) } : Smp) } : Snd)) (J c2 trivial))))))) (by kernel_rfl)
    · rw [if_neg (nt c2)]
      rcases bt (((mBit ({ s with sample := ({ s.sample with timer := (u16.wrap ((ratesT (Int.toNat (bAnd .u8 (s.sample.reg 0) 15))) - 1)) } : Smp) } : Snd)).sample).waits) with c3 | c3
      · rw [if_pos c3]
        exact fn_of_x hG hM Tryd.func37 (by kernel_rfl) (by kernel_rfl) 400 [.no, .lit 0, .sym, .call [(1000, 1000), (1001, 1001), (1002, 1002), (1003, 1003), (1004, 1004)] [] 1005 (.tuple ⟨[]⟩) (Snd.H0 (mBit ({ s with sample := ({ s.sample with timer := (u16.wrap ((ratesT (Int.toNat (bAnd .u8 (s.sample.reg 0) 15))) - 1)) } : Smp) } : Snd))), .no, .yes] (J c1 (J (Eq.refl (0 : Int)) (J (by decide : 0 < 4) (J (rng_and_lit_u8 (n := 16) (m := 15) (s.sample.reg 0) (by decide)) (J (toNat_lt (rng_and_lit_u8 (n := 16) (m := 15) (s.sample.reg 0) (by decide))) (J (mBit_ok ({ s with sample := ({ s.sample with timer := (u16.wrap ((ratesT (Int.toNat (bAnd .u8 (s.sample.reg 0) 15))) - 1)) } : Smp) } : Snd)) (J c2 (J c3 trivial)))))))) (by kernel_rfl)
      · rw [if_neg (nt c3)]
        exact fn_of_x hG hM Tryd.func37 (by kernel_rfl) (by kernel_rfl) 400 [.no, .lit 0, .sym, .call [(1000, 1000), (1001, 1001), (1002, 1002), (1003, 1003), (1004, 1004)] [] 1005 (.tuple ⟨[]⟩) (Snd.H0 (mBit ({ s with sample := ({ s.sample with timer := (u16.wrap ((ratesT (Int.toNat (bAnd .u8 (s.sample.reg 0) 15))) - 1)) } : Smp) } : Snd))), .no, .no] (J c1 (J (Eq.refl (0 : Int)) (J (by decide : 0 < 4) (J (rng_and_lit_u8 (n := 16) (m := 15) (s.sample.reg 0) (by decide)) (J (toNat_lt (rng_and_lit_u8 (n := 16) (m := 15) (s.sample.reg 0) (by decide))) (J (mBit_ok ({ s with sample := ({ s.sample with timer := (u16.wrap ((ratesT (Int.toNat (bAnd .u8 (s.sample.reg 0) 15))) - 1)) } : Smp) } : Snd)) (J c2 (J c3 trivial)))))))) (by kernel_rfl)
theorem mClock_w (s : Snd) (w_s : Snd.ok s) : Snd.ok (mClock s) := by
  unfold mClock
  rcases bt (decide (s.sample.timer > 0)) with c1 | c1
  · rw [if_pos c1]
    exact (⟨w_s.tones_0, w_s.tones_1, w_s.tones_2, w_s.tones_3, (⟨w_s.sample.reg, w_s.sample.level, w_s.sample.next, w_s.sample.row, w_s.sample.bits, (rng_wrap_u16 (s.sample.timer - 1)), w_s.sample.at_⟩ : Smp.ok ({ s.sample with timer := (u16.wrap (s.sample.timer - 1)) } : Smp))⟩ : Snd.ok ({ s with sample := ({ s.sample with timer := (u16.wrap (s.sample.timer - 1)) } : Smp) } : Snd))
  · rw [if_neg (nt c1)]
    rcases bt (decide ((u8.wrap (((mBit ({ s with sample := ({ s.sample with timer := (u16.wrap ((ratesT (Int.toNat (bAnd .u8 (s.sample.reg 0) 15))) - 1)) } : Smp) } : Snd)).sample).bits - 1)) > 0)) with c2 | c2
    · rw [if_pos c2]
      exact (⟨(mBit_w ({ s with sample := ({ s.sample with timer := (u16.wrap ((ratesT (Int.toNat (bAnd .u8 (s.sample.reg 0) 15))) - 1)) } : Smp) } : Snd) (⟨w_s.tones_0, w_s.tones_1, w_s.tones_2, w_s.tones_3, (⟨w_s.sample.reg, w_s.sample.level, w_s.sample.next, w_s.sample.row, w_s.sample.bits, (rng_wrap_u16 ((ratesT (Int.toNat (bAnd .u8 (s.sample.reg 0) 15))) - 1)), w_s.sample.at_⟩ : Smp.ok ({ s.sample with timer := (u16.wrap ((ratesT (Int.toNat (bAnd .u8 (s.sample.reg 0) 15))) - 1)) } : Smp))⟩ : Snd.ok ({ s with sample := ({ s.sample with timer := (u16.wrap ((ratesT (Int.toNat (bAnd .u8 (s.sample.reg 0) 15))) - 1)) } : Smp) } : Snd))).tones_0, (mBit_w ({ s with sample := ({ s.sample with timer := (u16.wrap ((ratesT (Int.toNat (bAnd .u8 (s.sample.reg 0) 15))) - 1)) } : Smp) } : Snd) (⟨w_s.tones_0, w_s.tones_1, w_s.tones_2, w_s.tones_3, (⟨w_s.sample.reg, w_s.sample.level, w_s.sample.next, w_s.sample.row, w_s.sample.bits, (rng_wrap_u16 ((ratesT (Int.toNat (bAnd .u8 (s.sample.reg 0) 15))) - 1)), w_s.sample.at_⟩ : Smp.ok ({ s.sample with timer := (u16.wrap ((ratesT (Int.toNat (bAnd .u8 (s.sample.reg 0) 15))) - 1)) } : Smp))⟩ : Snd.ok ({ s with sample := ({ s.sample with timer := (u16.wrap ((ratesT (Int.toNat (bAnd .u8 (s.sample.reg 0) 15))) - 1)) } : Smp) } : Snd))).tones_1, (mBit_w ({ s with sample := ({ s.sample with timer := (u16.wrap ((ratesT (Int.toNat (bAnd .u8 (s.sample.reg 0) 15))) - 1)) } : Smp) } : Snd) (⟨w_s.tones_0, w_s.tones_1, w_s.tones_2, w_s.tones_3, (⟨w_s.sample.reg, w_s.sample.level, w_s.sample.next, w_s.sample.row, w_s.sample.bits, (rng_wrap_u16 ((ratesT (Int.toNat (bAnd .u8 (s.sample.reg 0) 15))) - 1)), w_s.sample.at_⟩ : Smp.ok ({ s.sample with timer := (u16.wrap ((ratesT (Int.toNat (bAnd .u8 (s.sample.reg 0) 15))) - 1)) } : Smp))⟩ : Snd.ok ({ s with sample := ({ s.sample with timer := (u16.wrap ((ratesT (Int.toNat (bAnd .u8 (s.sample.reg 0) 15))) - 1)) } : Smp) } : Snd))).tones_2, (mBit_w ({ s with sample := ({ s.sample with timer := (u16.wrap ((ratesT (Int.toNat (bAnd .u8 (s.sample.reg 0) 15))) - 1)) } : Smp) } : Snd) (⟨w_s.tones_0, w_s.tones_1, w_s.tones_2, w_s.tones_3, (⟨w_s.sample.reg, w_s.sample.level, w_s.sample.next, w_s.sample.row, w_s.sample.bits, (rng_wrap_u16 ((ratesT (Int.toNat (bAnd .u8 (s.sample.reg 0) 15))) - 1)), w_s.sample.at_⟩ : Smp.ok ({ s.sample with timer := (u16.wrap ((ratesT (Int.toNat (bAnd .u8 (s.sample.reg 0) 15))) - 1)) } : Smp))⟩ : Snd.ok ({ s with sample := ({ s.sample with timer := (u16.wrap ((ratesT (Int.toNat (bAnd .u8 (s.sample.reg 0) 15))) - 1)) } : Smp) } : Snd))).tones_3, (⟨((mBit_w ({ s with sample := ({ s.sample with timer := (u16.wrap ((ratesT (Int.toNat (bAnd .u8 (s.sample.reg 0) 15))) - 1)) } : Smp) } : Snd) (⟨w_s.tones_0, w_s.tones_1, w_s.tones_2, w_s.tones_3, (⟨w_s.sample.reg, w_s.sample.level, w_s.sample.next, w_s.sample.row, w_s.sample.bits, (rng_wrap_u16 ((ratesT (Int.toNat (bAnd .u8 (s.sample.reg 0) 15))) - 1)), w_s.sample.at_⟩ : Smp.ok ({ s.sample with timer := (u16.wrap ((ratesT (Int.toNat (bAnd .u8 (s.sample.reg 0) 15))) - 1)) } : Smp))⟩ : Snd.ok ({ s with sample := ({ s.sample with timer := (u16.wrap ((ratesT (Int.toNat (bAnd .u8 (s.sample.reg 0) 15))) - 1)) } : Smp) } : Snd))).sample).reg, ((mBit_w ({ s with sample := ({ s.sample with timer := (u16.wrap ((ratesT (Int.toNat (bAnd .u8 (s.sample.reg 0) 15))) - 1)) } : Smp) } : Snd) (⟨w_s.tones_0, w_s.tones_1, w_s.tones_2, w_s.tones_3, (⟨w_s.sample.reg, w_s.sample.level, w_s.sample.next, w_s.sample.row, w_s.sample.bits, (rng_wrap_u16 ((ratesT (Int.toNat (bAnd .u8 (s.sample.reg 0) 15))) - 1)), w_s.sample.at_⟩ : Smp.ok ({ s.sample with timer := (u16.wrap ((ratesT (Int.toNat (bAnd .u8 (s.sample.reg 0) 15))) - 1)) } : Smp))⟩ : Snd.ok ({ s with sample := ({ s.sample with timer := (u16.wrap ((ratesT (Int.toNat (bAnd .u8 (s.sample.reg 0) 15))) - 1)) } : Smp) } : Snd))).sample).level, ((mBit_w ({ s with sample := ({ s.sample with timer := (u16.wrap ((ratesT (Int.toNat (bAnd .u8 (s.sample.reg 0) 15))) - 1)) } : Smp) } : Snd) (⟨w_s.tones_0, w_s.tones_1, w_s.tones_2, w_s.tones_3, (⟨w_s.sample.reg, w_s.sample.level, w_s.sample.next, w_s.sample.row, w_s.sample.bits, (rng_wrap_u16 ((ratesT (Int.toNat (bAnd .u8 (s.sample.reg 0) 15))) - 1)), w_s.sample.at_⟩ : Smp.ok ({ s.sample with timer := (u16.wrap ((ratesT (Int.toNat (bAnd .u8 (s.sample.reg 0) 15))) - 1)) } : Smp))⟩ : Snd.ok ({ s with sample := ({ s.sample with timer := (u16.wrap ((ratesT (Int.toNat (bAnd .u8 (s.sample.reg 0) 15))) - 1)) } : Smp) } : Snd))).sample).next, ((mBit_w ({ s with sample := ({ s.sample with timer := (u16.wrap ((ratesT (Int.toNat (bAnd .u8 (s.sample.reg 0) 15))) - 1)) } : Smp) } : Snd) (⟨w_s.tones_0, w_s.tones_1, w_s.tones_2, w_s.tones_3, (⟨w_s.sample.reg, w_s.sample.level, w_s.sample.next, w_s.sample.row, w_s.sample.bits, (rng_wrap_u16 ((ratesT (Int.toNat (bAnd .u8 (s.sample.reg 0) 15))) - 1)), w_s.sample.at_⟩ : Smp.ok ({ s.sample with timer := (u16.wrap ((ratesT (Int.toNat (bAnd .u8 (s.sample.reg 0) 15))) - 1)) } : Smp))⟩ : Snd.ok ({ s with sample := ({ s.sample with timer := (u16.wrap ((ratesT (Int.toNat (bAnd .u8 (s.sample.reg 0) 15))) - 1)) } : Smp) } : Snd))).sample).row, (rng_wrap_u8 (((mBit ({ s with sample := ({ s.sample with timer := (u16.wrap ((ratesT (Int.toNat (bAnd .u8 (s.sample.reg 0) 15))) - 1)) } : Smp) } : Snd)).sample).bits - 1)), ((mBit_w ({ s with sample := ({ s.sample with timer := (u16.wrap ((ratesT (Int.toNat (bAnd .u8 (s.sample.reg 0) 15))) - 1)) } : Smp) } : Snd) (⟨w_s.tones_0, w_s.tones_1, w_s.tones_2, w_s.tones_3, (⟨w_s.sample.reg, w_s.sample.level, w_s.sample.next, w_s.sample.row, w_s.sample.bits, (rng_wrap_u16 ((ratesT (Int.toNat (bAnd .u8 (s.sample.reg 0) 15))) - 1)), w_s.sample.at_⟩ : Smp.ok ({ s.sample with timer := (u16.wrap ((ratesT (Int.toNat (bAnd .u8 (s.sample.reg 0) 15))) - 1)) } : Smp))⟩ : Snd.ok ({ s with sample := ({ s.sample with timer := (u16.wrap ((ratesT (Int.toNat (bAnd .u8 (s.sample.reg 0) 15))) - 1)) } : Smp) } : Snd))).sample).timer, ((mBit_w ({ s with sample := ({ s.sample with timer := (u16.wrap ((ratesT (Int.toNat (bAnd .u8 (s.sample.reg 0) 15))) - 1)) } : Smp) } : Snd) (⟨w_s.tones_0, w_s.tones_1, w_s.tones_2, w_s.tones_3, (⟨w_s.sample.reg, w_s.sample.level, w_s.sample.next, w_s.sample.row, w_s.sample.bits, (rng_wrap_u16 ((ratesT (Int.toNat (bAnd .u8 (s.sample.reg 0) 15))) - 1)), w_s.sample.at_⟩ : Smp.ok ({ s.sample with timer := (u16.wrap ((ratesT (Int.toNat (bAnd .u8 (s.sample.reg 0) 15))) - 1)) } : Smp))⟩ : Snd.ok ({ s with sample := ({ s.sample with timer := (u16.wrap ((ratesT (Int.toNat (bAnd .u8 (s.sample.reg 0) 15))) - 1)) } : Smp) } : Snd))).sample).at_⟩ : Smp.ok ({ ((mBit ({ s with sample := ({ s.sample with timer := (u16.wrap ((ratesT (Int.toNat (bAnd .u8 (s.sample.reg 0) 15))) - 1)) } : Smp) } : Snd)).sample) with bits := (u8.wrap (((mBit ({ s with sample := ({ s.sample with timer := (u16.wrap ((ratesT (Int.toNat (bAnd .u8 (s.sample.reg 0) 15))) - 1)) } : Smp) } : Snd)).sample).bits - 1)) } : Smp))⟩ : Snd.ok ({ (mBit ({ s with sample := ({ s.sample with timer := (u16.wrap ((ratesT (Int.toNat (bAnd .u8 (s.sample.reg 0) 15))) - 1)) } : Smp) } : Snd)) with sample := ({ ((mBit ({ s with sample := ({ s.sample with timer := (u16.wrap ((ratesT (Int.toNat (bAnd .u8 (s.sample.reg 0) 15))) - 1)) } : Smp) } : Snd)).sample) with bits := (u8.wrap (((mBit ({ s with sample := ({ s.sample with timer := (u16.wrap ((ratesT (Int.toNat (bAnd .u8 (s.sample.reg 0) 15))) - 1)) } : Smp) } : Snd)).sample).bits - 1)) } : Smp) } : Snd))
    · rw [if_neg (nt c2)]
      rcases bt (((mBit ({ s with sample := ({ s.sample with timer := (u16.wrap ((ratesT (Int.toNat (bAnd .u8 (s.sample.reg 0) 15))) - 1)) } : Smp) } : Snd)).sample).waits) with c3 | c3
      · rw [if_pos c3]
        exact (⟨(mBit_w ({ s with sample := ({ s.sample with timer := (u16.wrap ((ratesT (Int.toNat (bAnd .u8 (s.sample.reg 0) 15))) - 1)) } : Smp) } : Snd) (⟨w_s.tones_0, w_s.tones_1, w_s.tones_2, w_s.tones_3, (⟨w_s.sample.reg, w_s.sample.level, w_s.sample.next, w_s.sample.row, w_s.sample.bits, (rng_wrap_u16 ((ratesT (Int.toNat (bAnd .u8 (s.sample.reg 0) 15))) - 1)), w_s.sample.at_⟩ : Smp.ok ({ s.sample with timer := (u16.wrap ((ratesT (Int.toNat (bAnd .u8 (s.sample.reg 0) 15))) - 1)) } : Smp))⟩ : Snd.ok ({ s with sample := ({ s.sample with timer := (u16.wrap ((ratesT (Int.toNat (bAnd .u8 (s.sample.reg 0) 15))) - 1)) } : Smp) } : Snd))).tones_0, (mBit_w ({ s with sample := ({ s.sample with timer := (u16.wrap ((ratesT (Int.toNat (bAnd .u8 (s.sample.reg 0) 15))) - 1)) } : Smp) } : Snd) (⟨w_s.tones_0, w_s.tones_1, w_s.tones_2, w_s.tones_3, (⟨w_s.sample.reg, w_s.sample.level, w_s.sample.next, w_s.sample.row, w_s.sample.bits, (rng_wrap_u16 ((ratesT (Int.toNat (bAnd .u8 (s.sample.reg 0) 15))) - 1)), w_s.sample.at_⟩ : Smp.ok ({ s.sample with timer := (u16.wrap ((ratesT (Int.toNat (bAnd .u8 (s.sample.reg 0) 15))) - 1)) } : Smp))⟩ : Snd.ok ({ s with sample := ({ s.sample with timer := (u16.wrap ((ratesT (Int.toNat (bAnd .u8 (s.sample.reg 0) 15))) - 1)) } : Smp) } : Snd))).tones_1, (mBit_w ({ s with sample := ({ s.sample with timer := (u16.wrap ((ratesT (Int.toNat (bAnd .u8 (s.sample.reg 0) 15))) - 1)) } : Smp) } : Snd) (⟨w_s.tones_0, w_s.tones_1, w_s.tones_2, w_s.tones_3, (⟨w_s.sample.reg, w_s.sample.level, w_s.sample.next, w_s.sample.row, w_s.sample.bits, (rng_wrap_u16 ((ratesT (Int.toNat (bAnd .u8 (s.sample.reg 0) 15))) - 1)), w_s.sample.at_⟩ : Smp.ok ({ s.sample with timer := (u16.wrap ((ratesT (Int.toNat (bAnd .u8 (s.sample.reg 0) 15))) - 1)) } : Smp))⟩ : Snd.ok ({ s with sample := ({ s.sample with timer := (u16.wrap ((ratesT (Int.toNat (bAnd .u8 (s.sample.reg 0) 15))) - 1)) } : Smp) } : Snd))).tones_2, (mBit_w ({ s with sample := ({ s.sample with timer := (u16.wrap ((ratesT (Int.toNat (bAnd .u8 (s.sample.reg 0) 15))) - 1)) } : Smp) } : Snd) (⟨w_s.tones_0, w_s.tones_1, w_s.tones_2, w_s.tones_3, (⟨w_s.sample.reg, w_s.sample.level, w_s.sample.next, w_s.sample.row, w_s.sample.bits, (rng_wrap_u16 ((ratesT (Int.toNat (bAnd .u8 (s.sample.reg 0) 15))) - 1)), w_s.sample.at_⟩ : Smp.ok ({ s.sample with timer := (u16.wrap ((ratesT (Int.toNat (bAnd .u8 (s.sample.reg 0) 15))) - 1)) } : Smp))⟩ : Snd.ok ({ s with sample := ({ s.sample with timer := (u16.wrap ((ratesT (Int.toNat (bAnd .u8 (s.sample.reg 0) 15))) - 1)) } : Smp) } : Snd))).tones_3, (⟨((mBit_w ({ s with sample := ({ s.sample with timer := (u16.wrap ((ratesT (Int.toNat (bAnd .u8 (s.sample.reg 0) 15))) - 1)) } : Smp) } : Snd) (⟨w_s.tones_0, w_s.tones_1, w_s.tones_2, w_s.tones_3, (⟨w_s.sample.reg, w_s.sample.level, w_s.sample.next, w_s.sample.row, w_s.sample.bits, (rng_wrap_u16 ((ratesT (Int.toNat (bAnd .u8 (s.sample.reg 0) 15))) - 1)), w_s.sample.at_⟩ : Smp.ok ({ s.sample with timer := (u16.wrap ((ratesT (Int.toNat (bAnd .u8 (s.sample.reg 0) 15))) - 1)) } : Smp))⟩ : Snd.ok ({ s with sample := ({ s.sample with timer := (u16.wrap ((ratesT (Int.toNat (bAnd .u8 (s.sample.reg 0) 15))) - 1)) } : Smp) } : Snd))).sample).reg, ((mBit_w ({ s with sample := ({ s.sample with timer := (u16.wrap ((ratesT (Int.toNat (bAnd .u8 (s.sample.reg 0) 15))) - 1)) } : Smp) } : Snd) (⟨w_s.tones_0, w_s.tones_1, w_s.tones_2, w_s.tones_3, (⟨w_s.sample.reg, w_s.sample.level, w_s.sample.next, w_s.sample.row, w_s.sample.bits, (rng_wrap_u16 ((ratesT (Int.toNat (bAnd .u8 (s.sample.reg 0) 15))) - 1)), w_s.sample.at_⟩ : Smp.ok ({ s.sample with timer := (u16.wrap ((ratesT (Int.toNat (bAnd .u8 (s.sample.reg 0) 15))) - 1)) } : Smp))⟩ : Snd.ok ({ s with sample := ({ s.sample with timer := (u16.wrap ((ratesT (Int.toNat (bAnd .u8 (s.sample.reg 0) 15))) - 1)) } : Smp) } : Snd))).sample).level, ((mBit_w ({ s with sample := ({ s.sample with timer := (u16.wrap ((ratesT (Int.toNat (bAnd .u8 (s.sample.reg 0) 15))) - 1)) } : Smp) } : Snd) (⟨w_s.tones_0, w_s.tones_1, w_s.tones_2, w_s.tones_3, (⟨w_s.sample.reg, w_s.sample.level, w_s.sample.next, w_s.sample.row, w_s.sample.bits, (rng_wrap_u16 ((ratesT (Int.toNat (bAnd .u8 (s.sample.reg 0) 15))) - 1)), w_s.sample.at_⟩ : Smp.ok ({ s.sample with timer := (u16.wrap ((ratesT (Int.toNat (bAnd .u8 (s.sample.reg 0) 15))) - 1)) } : Smp))⟩ : Snd.ok ({ s with sample := ({ s.sample with timer := (u16.wrap ((ratesT (Int.toNat (bAnd .u8 (s.sample.reg 0) 15))) - 1)) } : Smp) } : Snd))).sample).next, ((mBit_w ({ s with sample := ({ s.sample with timer := (u16.wrap ((ratesT (Int.toNat (bAnd .u8 (s.sample.reg 0) 15))) - 1)) } : Smp) } : Snd) (⟨w_s.tones_0, w_s.tones_1, w_s.tones_2, w_s.tones_3, (⟨w_s.sample.reg, w_s.sample.level, w_s.sample.next, w_s.sample.row, w_s.sample.bits, (rng_wrap_u16 ((ratesT (Int.toNat (bAnd .u8 (s.sample.reg 0) 15))) - 1)), w_s.sample.at_⟩ : Smp.ok ({ s.sample with timer := (u16.wrap ((ratesT (Int.toNat (bAnd .u8 (s.sample.reg 0) 15))) - 1)) } : Smp))⟩ : Snd.ok ({ s with sample := ({ s.sample with timer := (u16.wrap ((ratesT (Int.toNat (bAnd .u8 (s.sample.reg 0) 15))) - 1)) } : Smp) } : Snd))).sample).next, (by decide : rng 256 8), ((mBit_w ({ s with sample := ({ s.sample with timer := (u16.wrap ((ratesT (Int.toNat (bAnd .u8 (s.sample.reg 0) 15))) - 1)) } : Smp) } : Snd) (⟨w_s.tones_0, w_s.tones_1, w_s.tones_2, w_s.tones_3, (⟨w_s.sample.reg, w_s.sample.level, w_s.sample.next, w_s.sample.row, w_s.sample.bits, (rng_wrap_u16 ((ratesT (Int.toNat (bAnd .u8 (s.sample.reg 0) 15))) - 1)), w_s.sample.at_⟩ : Smp.ok ({ s.sample with timer := (u16.wrap ((ratesT (Int.toNat (bAnd .u8 (s.sample.reg 0) 15))) - 1)) } : Smp))⟩ : Snd.ok ({ s with sample := ({ s.sample with timer := (u16.wrap ((ratesT (Int.toNat (bAnd .u8 (s.sample.reg 0) 15))) - 1)) } : Smp) } : Snd))).sample).timer, ((mBit_w ({ s with sample := ({ s.sample with timer := (u16.wrap ((ratesT (Int.toNat (bAnd .u8 (s.sample.reg 0) 15))) - 1)) } : Smp) } : Snd) (⟨w_s.tones_0, w_s.tones_1, w_s.tones_2, w_s.tones_3, (⟨w_s.sample.reg, w_s.sample.level, w_s.sample.next, w_s.sample.row, w_s.sample.bits, (rng_wrap_u16 ((ratesT (Int.toNat (bAnd .u8 (s.sample.reg 0) 15))) - 1)), w_s.sample.at_⟩ : Smp.ok ({ s.sample with timer := (u16.wrap ((ratesT (Int.toNat (bAnd .u8 (s.sample.reg 0) 15))) - 1)) } : Smp))⟩ : Snd.ok ({ s with sample := ({ s.sample with timer := (u16.wrap ((ratesT (Int.toNat (bAnd .u8 (s.sample.reg 0) 15))) - 1)) } : Smp) } : Snd))).sample).at_⟩ : Smp.ok ({ ((mBit ({ s with sample := ({ s.sample with timer := (u16.wrap ((ratesT (Int.toNat (bAnd .u8 (s.sample.reg 0) 15))) - 1)) } : Smp) } : Snd)).sample) with waits := false, row := ((mBit ({ s with sample := ({ s.sample with timer := (u16.wrap ((ratesT (Int.toNat (bAnd .u8 (s.sample.reg 0) 15))) - 1)) } : Smp) } : Snd)).sample).next, bits := 8, speaks := ((mBit ({ s with sample := ({ s.sample with timer := (u16.wrap ((ratesT (Int.toNat (bAnd .u8 (s.sample.reg 0) 15))) - 1)) } : Smp) } : Snd)).sample).waits } : Smp))⟩ : Snd.ok ({ (mBit ({ s with sample := ({ s.sample with timer := (u16.wrap ((ratesT (Int.toNat (bAnd .u8 (s.sample.reg 0) 15))) - 1)) } : Smp) } : Snd)) with sample := ({ ((mBit ({ s with sample := ({ s.sample with timer := (u16.wrap ((ratesT (Int.toNat (bAnd .u8 (s.sample.reg 0) 15))) - 1)) } : Smp) } : Snd)).sample) with waits := false, row := ((mBit ({ s with sample := ({ s.sample with timer := (u16.wrap ((ratesT (Int.toNat (bAnd .u8 (s.sample.reg 0) 15))) - 1)) } : Smp) } : Snd)).sample).next, bits := 8, speaks := ((mBit ({ s with sample := ({ s.sample with timer := (u16.wrap ((ratesT (Int.toNat (bAnd .u8 (s.sample.reg 0) 15))) - 1)) } : Smp) } : Snd)).sample).waits } : Smp) } : Snd))
      · rw [if_neg (nt c3)]
        exact (⟨(mBit_w ({ s with sample := ({ s.sample with timer := (u16.wrap ((ratesT (Int.toNat (bAnd .u8 (s.sample.reg 0) 15))) - 1)) } : Smp) } : Snd) (⟨w_s.tones_0, w_s.tones_1, w_s.tones_2, w_s.tones_3, (⟨w_s.sample.reg, w_s.sample.level, w_s.sample.next, w_s.sample.row, w_s.sample.bits, (rng_wrap_u16 ((ratesT (Int.toNat (bAnd .u8 (s.sample.reg 0) 15))) - 1)), w_s.sample.at_⟩ : Smp.ok ({ s.sample with timer := (u16.wrap ((ratesT (Int.toNat (bAnd .u8 (s.sample.reg 0) 15))) - 1)) } : Smp))⟩ : Snd.ok ({ s with sample := ({ s.sample with timer := (u16.wrap ((ratesT (Int.toNat (bAnd .u8 (s.sample.reg 0) 15))) - 1)) } : Smp) } : Snd))).tones_0, (mBit_w ({ s with sample := ({ s.sample with timer := (u16.wrap ((ratesT (Int.toNat (bAnd .u8 (s.sample.reg 0) 15))) - 1)) } : Smp) } : Snd) (⟨w_s.tones_0, w_s.tones_1, w_s.tones_2, w_s.tones_3, (⟨w_s.sample.reg, w_s.sample.level, w_s.sample.next, w_s.sample.row, w_s.sample.bits, (rng_wrap_u16 ((ratesT (Int.toNat (bAnd .u8 (s.sample.reg 0) 15))) - 1)), w_s.sample.at_⟩ : Smp.ok ({ s.sample with timer := (u16.wrap ((ratesT (Int.toNat (bAnd .u8 (s.sample.reg 0) 15))) - 1)) } : Smp))⟩ : Snd.ok ({ s with sample := ({ s.sample with timer := (u16.wrap ((ratesT (Int.toNat (bAnd .u8 (s.sample.reg 0) 15))) - 1)) } : Smp) } : Snd))).tones_1, (mBit_w ({ s with sample := ({ s.sample with timer := (u16.wrap ((ratesT (Int.toNat (bAnd .u8 (s.sample.reg 0) 15))) - 1)) } : Smp) } : Snd) (⟨w_s.tones_0, w_s.tones_1, w_s.tones_2, w_s.tones_3, (⟨w_s.sample.reg, w_s.sample.level, w_s.sample.next, w_s.sample.row, w_s.sample.bits, (rng_wrap_u16 ((ratesT (Int.toNat (bAnd .u8 (s.sample.reg 0) 15))) - 1)), w_s.sample.at_⟩ : Smp.ok ({ s.sample with timer := (u16.wrap ((ratesT (Int.toNat (bAnd .u8 (s.sample.reg 0) 15))) - 1)) } : Smp))⟩ : Snd.ok ({ s with sample := ({ s.sample with timer := (u16.wrap ((ratesT (Int.toNat (bAnd .u8 (s.sample.reg 0) 15))) - 1)) } : Smp) } : Snd))).tones_2, (mBit_w ({ s with sample := ({ s.sample with timer := (u16.wrap ((ratesT (Int.toNat (bAnd .u8 (s.sample.reg 0) 15))) - 1)) } : Smp) } : Snd) (⟨w_s.tones_0, w_s.tones_1, w_s.tones_2, w_s.tones_3, (⟨w_s.sample.reg, w_s.sample.level, w_s.sample.next, w_s.sample.row, w_s.sample.bits, (rng_wrap_u16 ((ratesT (Int.toNat (bAnd .u8 (s.sample.reg 0) 15))) - 1)), w_s.sample.at_⟩ : Smp.ok ({ s.sample with timer := (u16.wrap ((ratesT (Int.toNat (bAnd .u8 (s.sample.reg 0) 15))) - 1)) } : Smp))⟩ : Snd.ok ({ s with sample := ({ s.sample with timer := (u16.wrap ((ratesT (Int.toNat (bAnd .u8 (s.sample.reg 0) 15))) - 1)) } : Smp) } : Snd))).tones_3, (⟨((mBit_w ({ s with sample := ({ s.sample with timer := (u16.wrap ((ratesT (Int.toNat (bAnd .u8 (s.sample.reg 0) 15))) - 1)) } : Smp) } : Snd) (⟨w_s.tones_0, w_s.tones_1, w_s.tones_2, w_s.tones_3, (⟨w_s.sample.reg, w_s.sample.level, w_s.sample.next, w_s.sample.row, w_s.sample.bits, (rng_wrap_u16 ((ratesT (Int.toNat (bAnd .u8 (s.sample.reg 0) 15))) - 1)), w_s.sample.at_⟩ : Smp.ok ({ s.sample with timer := (u16.wrap ((ratesT (Int.toNat (bAnd .u8 (s.sample.reg 0) 15))) - 1)) } : Smp))⟩ : Snd.ok ({ s with sample := ({ s.sample with timer := (u16.wrap ((ratesT (Int.toNat (bAnd .u8 (s.sample.reg 0) 15))) - 1)) } : Smp) } : Snd))).sample).reg, ((mBit_w ({ s with sample := ({ s.sample with timer := (u16.wrap ((ratesT (Int.toNat (bAnd .u8 (s.sample.reg 0) 15))) - 1)) } : Smp) } : Snd) (⟨w_s.tones_0, w_s.tones_1, w_s.tones_2, w_s.tones_3, (⟨w_s.sample.reg, w_s.sample.level, w_s.sample.next, w_s.sample.row, w_s.sample.bits, (rng_wrap_u16 ((ratesT (Int.toNat (bAnd .u8 (s.sample.reg 0) 15))) - 1)), w_s.sample.at_⟩ : Smp.ok ({ s.sample with timer := (u16.wrap ((ratesT (Int.toNat (bAnd .u8 (s.sample.reg 0) 15))) - 1)) } : Smp))⟩ : Snd.ok ({ s with sample := ({ s.sample with timer := (u16.wrap ((ratesT (Int.toNat (bAnd .u8 (s.sample.reg 0) 15))) - 1)) } : Smp) } : Snd))).sample).level, ((mBit_w ({ s with sample := ({ s.sample with timer := (u16.wrap ((ratesT (Int.toNat (bAnd .u8 (s.sample.reg 0) 15))) - 1)) } : Smp) } : Snd) (⟨w_s.tones_0, w_s.tones_1, w_s.tones_2, w_s.tones_3, (⟨w_s.sample.reg, w_s.sample.level, w_s.sample.next, w_s.sample.row, w_s.sample.bits, (rng_wrap_u16 ((ratesT (Int.toNat (bAnd .u8 (s.sample.reg 0) 15))) - 1)), w_s.sample.at_⟩ : Smp.ok ({ s.sample with timer := (u16.wrap ((ratesT (Int.toNat (bAnd .u8 (s.sample.reg 0) 15))) - 1)) } : Smp))⟩ : Snd.ok ({ s with sample := ({ s.sample with timer := (u16.wrap ((ratesT (Int.toNat (bAnd .u8 (s.sample.reg 0) 15))) - 1)) } : Smp) } : Snd))).sample).next, ((mBit_w ({ s with sample := ({ s.sample with timer := (u16.wrap ((ratesT (Int.toNat (bAnd .u8 (s.sample.reg 0) 15))) - 1)) } : Smp) } : Snd) (⟨w_s.tones_0, w_s.tones_1, w_s.tones_2, w_s.tones_3, (⟨w_s.sample.reg, w_s.sample.level, w_s.sample.next, w_s.sample.row, w_s.sample.bits, (rng_wrap_u16 ((ratesT (Int.toNat (bAnd .u8 (s.sample.reg 0) 15))) - 1)), w_s.sample.at_⟩ : Smp.ok ({ s.sample with timer := (u16.wrap ((ratesT (Int.toNat (bAnd .u8 (s.sample.reg 0) 15))) - 1)) } : Smp))⟩ : Snd.ok ({ s with sample := ({ s.sample with timer := (u16.wrap ((ratesT (Int.toNat (bAnd .u8 (s.sample.reg 0) 15))) - 1)) } : Smp) } : Snd))).sample).row, (by decide : rng 256 8), ((mBit_w ({ s with sample := ({ s.sample with timer := (u16.wrap ((ratesT (Int.toNat (bAnd .u8 (s.sample.reg 0) 15))) - 1)) } : Smp) } : Snd) (⟨w_s.tones_0, w_s.tones_1, w_s.tones_2, w_s.tones_3, (⟨w_s.sample.reg, w_s.sample.level, w_s.sample.next, w_s.sample.row, w_s.sample.bits, (rng_wrap_u16 ((ratesT (Int.toNat (bAnd .u8 (s.sample.reg 0) 15))) - 1)), w_s.sample.at_⟩ : Smp.ok ({ s.sample with timer := (u16.wrap ((ratesT (Int.toNat (bAnd .u8 (s.sample.reg 0) 15))) - 1)) } : Smp))⟩ : Snd.ok ({ s with sample := ({ s.sample with timer := (u16.wrap ((ratesT (Int.toNat (bAnd .u8 (s.sample.reg 0) 15))) - 1)) } : Smp) } : Snd))).sample).timer, ((mBit_w ({ s with sample := ({ s.sample with timer := (u16.wrap ((ratesT (Int.toNat (bAnd .u8 (s.sample.reg 0) 15))) - 1)) } : Smp) } : Snd) (⟨w_s.tones_0, w_s.tones_1, w_s.tones_2, w_s.tones_3, (⟨w_s.sample.reg, w_s.sample.level, w_s.sample.next, w_s.sample.row, w_s.sample.bits, (rng_wrap_u16 ((ratesT (Int.toNat (bAnd .u8 (s.sample.reg 0) 15))) - 1)), w_s.sample.at_⟩ : Smp.ok ({ s.sample with timer := (u16.wrap ((ratesT (Int.toNat (bAnd .u8 (s.sample.reg 0) 15))) - 1)) } : Smp))⟩ : Snd.ok ({ s with sample := ({ s.sample with timer := (u16.wrap ((ratesT (Int.toNat (bAnd .u8 (s.sample.reg 0) 15))) - 1)) } : Smp) } : Snd))).sample).at_⟩ : Smp.ok ({ ((mBit ({ s with sample := ({ s.sample with timer := (u16.wrap ((ratesT (Int.toNat (bAnd .u8 (s.sample.reg 0) 15))) - 1)) } : Smp) } : Snd)).sample) with bits := 8, speaks := ((mBit ({ s with sample := ({ s.sample with timer := (u16.wrap ((ratesT (Int.toNat (bAnd .u8 (s.sample.reg 0) 15))) - 1)) } : Smp) } : Snd)).sample).waits } : Smp))⟩ : Snd.ok ({ (mBit ({ s with sample := ({ s.sample with timer := (u16.wrap ((ratesT (Int.toNat (bAnd .u8 (s.sample.reg 0) 15))) - 1)) } : Smp) } : Snd)) with sample := ({ ((mBit ({ s with sample := ({ s.sample with timer := (u16.wrap ((ratesT (Int.toNat (bAnd .u8 (s.sample.reg 0) 15))) - 1)) } : Smp) } : Snd)).sample) with bits := 8, speaks := ((mBit ({ s with sample := ({ s.sample with timer := (u16.wrap ((ratesT (Int.toNat (bAnd .u8 (s.sample.reg 0) 15))) - 1)) } : Smp) } : Snd)).sample).waits } : Smp) } : Snd))
def mGive (s : Snd) (b : Int) : Snd :=
  if (!(mAsks s)) = true then
    s
  else
    if ((u16.wrap (s.sample.at_ + 1)) == 0) = true then
      if (decide ((i64.wrap (s.sample.left - 1)) > 0)) = true then
        ({ s with sample := ({ s.sample with next := b, waits := true, at_ := 32768, left := (i64.wrap (s.sample.left - 1)) } : Smp) } : Snd)
      else
        if ((bAnd .u8 (s.sample.reg 0) 64) != 0) = true then
          (mBegin ({ s with sample := ({ s.sample with next := b, waits := true, at_ := 32768, left := (i64.wrap (s.sample.left - 1)) } : Smp) } : Snd))
        else
          if ((bAnd .u8 (s.sample.reg 0) 128) != 0) = true then
            ({ s with sample := ({ s.sample with next := b, waits := true, at_ := 32768, left := (i64.wrap (s.sample.left - 1)), irq := true } : Smp) } : Snd)
          else
            ({ s with sample := ({ s.sample with next := b, waits := true, at_ := 32768, left := (i64.wrap (s.sample.left - 1)) } : Smp) } : Snd)
    else
      if (decide ((i64.wrap (s.sample.left - 1)) > 0)) = true then
        ({ s with sample := ({ s.sample with next := b, waits := true, at_ := (u16.wrap (s.sample.at_ + 1)), left := (i64.wrap (s.sample.left - 1)) } : Smp) } : Snd)
      else
        if ((bAnd .u8 (s.sample.reg 0) 64) != 0) = true then
          (mBegin ({ s with sample := ({ s.sample with next := b, waits := true, at_ := (u16.wrap (s.sample.at_ + 1)), left := (i64.wrap (s.sample.left - 1)) } : Smp) } : Snd))
        else
          if ((bAnd .u8 (s.sample.reg 0) 128) != 0) = true then
            ({ s with sample := ({ s.sample with next := b, waits := true, at_ := (u16.wrap (s.sample.at_ + 1)), left := (i64.wrap (s.sample.left - 1)), irq := true } : Smp) } : Snd)
          else
            ({ s with sample := ({ s.sample with next := b, waits := true, at_ := (u16.wrap (s.sample.at_ + 1)), left := (i64.wrap (s.sample.left - 1)) } : Smp) } : Snd)
theorem mGive_ok (s : Snd) (b : Int) : FnSpec Tryd.prog 38 1005 [.pointer (some ⟨1000, 4, none⟩), .int .u8 b] (Snd.H0 s) (.tuple ⟨[]⟩) (Snd.H0 (mGive s b)) := by
  unfold mGive
  rcases bt (!(mAsks s)) with c1 | c1
  · rw [if_pos c1]
    exact fn_of_x hG hM Tryd.func38 (by kernel_rfl) (by kernel_rfl) 400 [.callr [(1000, 1000), (1001, 1001), (1002, 1002), (1003, 1003), (1004, 1004)] [1000, 1001, 1002, 1003, 1004] [] 1005 (.bool (mAsks s)) [], .yes] (J (mAsks_ok s) (J c1 trivial)) (by kernel_rfl)
  · rw [if_neg (nt c1)]
    rcases bt ((u16.wrap (s.sample.at_ + 1)) == 0) with c2 | c2
    · rw [if_pos c2]
      rcases bt (decide ((i64.wrap (s.sample.left - 1)) > 0)) with c3 | c3
      · rw [if_pos c3]
        exact fn_of_x hG hM Tryd.func38 (by kernel_rfl) (by kernel_rfl) 400 [.callr [(1000, 1000), (1001, 1001), (1002, 1002), (1003, 1003), (1004, 1004)] [1000, 1001, 1002, 1003, 1004] [] 1005 (.bool (mAsks s)) [], .no, .yes, .yes] (J (mAsks_ok s) (J c1 (J c2 (J c3 trivial)))) (by kernel_rfl)
      · rw [if_neg (nt c3)]
        rcases bt ((bAnd .u8 (s.sample.reg 0) 64) != 0) with c4 | c4
        · rw [if_pos c4]
          exact fn_of_x hG hM Tryd.func38 (by kernel_rfl) (by kernel_rfl) 400 [.callr [(1000, 1000), (1001, 1001), (1002, 1002), (1003, 1003), (1004, 1004)] [1000, 1001, 1002, 1003, 1004] [] 1005 (.bool (mAsks s)) [], .no, .yes, .no, .lit 0, .yes, .call [(1000, 1000), (1001, 1001), (1002, 1002), (1003, 1003), (1004, 1004)] [] 1005 (.tuple ⟨[]⟩) (Snd.H0 (mBegin ({ s with sample := ({ s.sample with next := b, waits := true, at_ := 32768, left := (i64.wrap (s.sample.left - 1)) } : Smp) } : Snd)))] (J (mAsks_ok s) (J c1 (J c2 (J c3 (J (Eq.refl (0 : Int)) (J (by decide : 0 < 4) (J c4 (J (mBegin_ok ({ s with sample := ({ s.sample with next := b, waits := true, at_ := 32768, left := (i64.wrap (s.sample.left - 1)) } : Smp) } : Snd)) trivial)))))))) (by kernel_rfl)
        · rw [if_neg (nt c4)]
          rcases bt ((bAnd .u8 (s.sample.reg 0) 128) != 0) with c5 | c5
          · rw [if_pos c5]
            exact fn_of_x hG hM Tryd.func38 (by kernel_rfl) (by kernel_rfl) 400 [.callr [(1000, 1000), (1001, 1001), (1002, 1002), (1003, 1003), (1004, 1004)] [1000, 1001, 1002, 1003, 1004] [] 1005 (.bool (mAsks s)) [], .no, .yes, .no, .lit 0, .no, .lit 0, .yes] (J (mAsks_ok s) (J c1 (J c2 (J c3 (J (Eq.refl (0 : Int)) (J (by decide : 0 < 4) (J c4 (J (Eq.refl (0 : Int)) (J (by decide : 0 < 4) (J c5 trivial)))))))))) (by kernel_rfl)
          · rw [if_neg (nt c5)]
            exact fn_of_x hG hM Tryd.func38 (by kernel_rfl) (by kernel_rfl) 400 [.callr [(1000, 1000), (1001, 1001), (1002, 1002), (1003, 1003), (1004, 1004)] [1000, 1001, 1002, 1003, 1004] [] 1005 (.bool (mAsks s)) [], .no, .yes, .no, .lit 0, .no, .lit 0, .no] (J (mAsks_ok s) (J c1 (J c2 (J c3 (J (Eq.refl (0 : Int)) (J (by decide : 0 < 4) (J c4 (J (Eq.refl (0 : Int)) (J (by decide : 0 < 4) (J c5 trivial)))))))))) (by kernel_rfl)
    · rw [if_neg (nt c2)]
      rcases bt (decide ((i64.wrap (s.sample.left - 1)) > 0)) with c3 | c3
      · rw [if_pos c3]
        exact fn_of_x hG hM Tryd.func38 (by kernel_rfl) (by kernel_rfl) 400 [.callr [(1000, 1000), (1001, 1001), (1002, 1002), (1003, 1003), (1004, 1004)] [1000, 1001, 1002, 1003, 1004] [] 1005 (.bool (mAsks s)) [], .no, .no, .yes] (J (mAsks_ok s) (J c1 (J c2 (J c3 trivial)))) (by kernel_rfl)
      · rw [if_neg (nt c3)]
        rcases bt ((bAnd .u8 (s.sample.reg 0) 64) != 0) with c4 | c4
        · rw [if_pos c4]
          exact fn_of_x hG hM Tryd.func38 (by kernel_rfl) (by kernel_rfl) 400 [.callr [(1000, 1000), (1001, 1001), (1002, 1002), (1003, 1003), (1004, 1004)] [1000, 1001, 1002, 1003, 1004] [] 1005 (.bool (mAsks s)) [], .no, .no, .no, .lit 0, .yes, .call [(1000, 1000), (1001, 1001), (1002, 1002), (1003, 1003), (1004, 1004)] [] 1005 (.tuple ⟨[]⟩) (Snd.H0 (mBegin ({ s with sample := ({ s.sample with next := b, waits := true, at_ := (u16.wrap (s.sample.at_ + 1)), left := (i64.wrap (s.sample.left - 1)) } : Smp) } : Snd)))] (J (mAsks_ok s) (J c1 (J c2 (J c3 (J (Eq.refl (0 : Int)) (J (by decide : 0 < 4) (J c4 (J (mBegin_ok ({ s with sample := ({ s.sample with next := b, waits := true, at_ := (u16.wrap (s.sample.at_ + 1)), left := (i64.wrap (s.sample.left - 1)) } : Smp) } : Snd)) trivial)))))))) (by kernel_rfl)
        · rw [if_neg (nt c4)]
          rcases bt ((bAnd .u8 (s.sample.reg 0) 128) != 0) with c5 | c5
          · rw [if_pos c5]
            exact fn_of_x hG hM Tryd.func38 (by kernel_rfl) (by kernel_rfl) 400 [.callr [(1000, 1000), (1001, 1001), (1002, 1002), (1003, 1003), (1004, 1004)] [1000, 1001, 1002, 1003, 1004] [] 1005 (.bool (mAsks s)) [], .no, .no, .no, .lit 0, .no, .lit 0, .yes] (J (mAsks_ok s) (J c1 (J c2 (J c3 (J (Eq.refl (0 : Int)) (J (by decide : 0 < 4) (J c4 (J (Eq.refl (0 : Int)) (J (by decide : 0 < 4) (J c5 trivial)))))))))) (by kernel_rfl)
          · rw [if_neg (nt c5)]
            exact fn_of_x hG hM Tryd.func38 (by kernel_rfl) (by kernel_rfl) 400 [.callr [(1000, 1000), (1001, 1001), (1002, 1002), (1003, 1003), (1004, 1004)] [1000, 1001, 1002, 1003, 1004] [] 1005 (.bool (mAsks s)) [], .no, .no, .no, .lit 0, .no, .lit 0, .no] (J (mAsks_ok s) (J c1 (J c2 (J c3 (J (Eq.refl (0 : Int)) (J (by decide : 0 < 4) (J c4 (J (Eq.refl (0 : Int)) (J (by decide : 0 < 4) (J c5 trivial)))))))))) (by kernel_rfl)
theorem mGive_w (s : Snd) (b : Int) (w_s : Snd.ok s) (w_b : rng 256 b) : Snd.ok (mGive s b) := by
  unfold mGive
  rcases bt (!(mAsks s)) with c1 | c1
  · rw [if_pos c1]
    exact w_s
  · rw [if_neg (nt c1)]
    rcases bt ((u16.wrap (s.sample.at_ + 1)) == 0) with c2 | c2
    · rw [if_pos c2]
      rcases bt (decide ((i64.wrap (s.sample.left - 1)) > 0)) with c3 | c3
      · rw [if_pos c3]
        exact (⟨w_s.tones_0, w_s.tones_1, w_s.tones_2, w_s.tones_3, (⟨w_s.sample.reg, w_s.sample.level, w_b, w_s.sample.row, w_s.sample.bits, w_s.sample.timer, (by decide : rng 65536 32768)⟩ : Smp.ok ({ s.sample with next := b, waits := true, at_ := 32768, left := (i64.wrap (s.sample.left - 1)) } : Smp))⟩ : Snd.ok ({ s with sample := ({ s.sample with next := b, waits := true, at_ := 32768, left := (i64.wrap (s.sample.left - 1)) } : Smp) } : Snd))
      · rw [if_neg (nt c3)]
        rcases bt ((bAnd .u8 (s.sample.reg 0) 64) != 0) with c4 | c4
        · rw [if_pos c4]
          exact (mBegin_w ({ s with sample := ({ s.sample with next := b, waits := true, at_ := 32768, left := (i64.wrap (s.sample.left - 1)) } : Smp) } : Snd) (⟨w_s.tones_0, w_s.tones_1, w_s.tones_2, w_s.tones_3, (⟨w_s.sample.reg, w_s.sample.level, w_b, w_s.sample.row, w_s.sample.bits, w_s.sample.timer, (by decide : rng 65536 32768)⟩ : Smp.ok ({ s.sample with next := b, waits := true, at_ := 32768, left := (i64.wrap (s.sample.left - 1)) } : Smp))⟩ : Snd.ok ({ s with sample := ({ s.sample with next := b, waits := true, at_ := 32768, left := (i64.wrap (s.sample.left - 1)) } : Smp) } : Snd)))
        · rw [if_neg (nt c4)]
          rcases bt ((bAnd .u8 (s.sample.reg 0) 128) != 0) with c5 | c5
          · rw [if_pos c5]
            exact (⟨w_s.tones_0, w_s.tones_1, w_s.tones_2, w_s.tones_3, (⟨w_s.sample.reg, w_s.sample.level, w_b, w_s.sample.row, w_s.sample.bits, w_s.sample.timer, (by decide : rng 65536 32768)⟩ : Smp.ok ({ s.sample with next := b, waits := true, at_ := 32768, left := (i64.wrap (s.sample.left - 1)), irq := true } : Smp))⟩ : Snd.ok ({ s with sample := ({ s.sample with next := b, waits := true, at_ := 32768, left := (i64.wrap (s.sample.left - 1)), irq := true } : Smp) } : Snd))
          · rw [if_neg (nt c5)]
            exact (⟨w_s.tones_0, w_s.tones_1, w_s.tones_2, w_s.tones_3, (⟨w_s.sample.reg, w_s.sample.level, w_b, w_s.sample.row, w_s.sample.bits, w_s.sample.timer, (by decide : rng 65536 32768)⟩ : Smp.ok ({ s.sample with next := b, waits := true, at_ := 32768, left := (i64.wrap (s.sample.left - 1)) } : Smp))⟩ : Snd.ok ({ s with sample := ({ s.sample with next := b, waits := true, at_ := 32768, left := (i64.wrap (s.sample.left - 1)) } : Smp) } : Snd))
    · rw [if_neg (nt c2)]
      rcases bt (decide ((i64.wrap (s.sample.left - 1)) > 0)) with c3 | c3
      · rw [if_pos c3]
        exact (⟨w_s.tones_0, w_s.tones_1, w_s.tones_2, w_s.tones_3, (⟨w_s.sample.reg, w_s.sample.level, w_b, w_s.sample.row, w_s.sample.bits, w_s.sample.timer, (rng_wrap_u16 (s.sample.at_ + 1))⟩ : Smp.ok ({ s.sample with next := b, waits := true, at_ := (u16.wrap (s.sample.at_ + 1)), left := (i64.wrap (s.sample.left - 1)) } : Smp))⟩ : Snd.ok ({ s with sample := ({ s.sample with next := b, waits := true, at_ := (u16.wrap (s.sample.at_ + 1)), left := (i64.wrap (s.sample.left - 1)) } : Smp) } : Snd))
      · rw [if_neg (nt c3)]
        rcases bt ((bAnd .u8 (s.sample.reg 0) 64) != 0) with c4 | c4
        · rw [if_pos c4]
          exact (mBegin_w ({ s with sample := ({ s.sample with next := b, waits := true, at_ := (u16.wrap (s.sample.at_ + 1)), left := (i64.wrap (s.sample.left - 1)) } : Smp) } : Snd) (⟨w_s.tones_0, w_s.tones_1, w_s.tones_2, w_s.tones_3, (⟨w_s.sample.reg, w_s.sample.level, w_b, w_s.sample.row, w_s.sample.bits, w_s.sample.timer, (rng_wrap_u16 (s.sample.at_ + 1))⟩ : Smp.ok ({ s.sample with next := b, waits := true, at_ := (u16.wrap (s.sample.at_ + 1)), left := (i64.wrap (s.sample.left - 1)) } : Smp))⟩ : Snd.ok ({ s with sample := ({ s.sample with next := b, waits := true, at_ := (u16.wrap (s.sample.at_ + 1)), left := (i64.wrap (s.sample.left - 1)) } : Smp) } : Snd)))
        · rw [if_neg (nt c4)]
          rcases bt ((bAnd .u8 (s.sample.reg 0) 128) != 0) with c5 | c5
          · rw [if_pos c5]
            exact (⟨w_s.tones_0, w_s.tones_1, w_s.tones_2, w_s.tones_3, (⟨w_s.sample.reg, w_s.sample.level, w_b, w_s.sample.row, w_s.sample.bits, w_s.sample.timer, (rng_wrap_u16 (s.sample.at_ + 1))⟩ : Smp.ok ({ s.sample with next := b, waits := true, at_ := (u16.wrap (s.sample.at_ + 1)), left := (i64.wrap (s.sample.left - 1)), irq := true } : Smp))⟩ : Snd.ok ({ s with sample := ({ s.sample with next := b, waits := true, at_ := (u16.wrap (s.sample.at_ + 1)), left := (i64.wrap (s.sample.left - 1)), irq := true } : Smp) } : Snd))
          · rw [if_neg (nt c5)]
            exact (⟨w_s.tones_0, w_s.tones_1, w_s.tones_2, w_s.tones_3, (⟨w_s.sample.reg, w_s.sample.level, w_b, w_s.sample.row, w_s.sample.bits, w_s.sample.timer, (rng_wrap_u16 (s.sample.at_ + 1))⟩ : Smp.ok ({ s.sample with next := b, waits := true, at_ := (u16.wrap (s.sample.at_ + 1)), left := (i64.wrap (s.sample.left - 1)) } : Smp))⟩ : Snd.ok ({ s with sample := ({ s.sample with next := b, waits := true, at_ := (u16.wrap (s.sample.at_ + 1)), left := (i64.wrap (s.sample.left - 1)) } : Smp) } : Snd))
def mEnable (s : Snd) (on : Bool) : Snd :=
  if (!on) = true then
    ({ s with sample := ({ s.sample with left := 0, irq := false } : Smp) } : Snd)
  else
    if (s.sample.left == 0) = true then
      (mBegin ({ s with sample := ({ s.sample with irq := false } : Smp) } : Snd))
    else
      ({ s with sample := ({ s.sample with irq := false } : Smp) } : Snd)
theorem mEnable_ok (s : Snd) (on : Bool) : FnSpec Tryd.prog 32 1005 [.pointer (some ⟨1000, 4, none⟩), .bool on] (Snd.H0 s) (.tuple ⟨[]⟩) (Snd.H0 (mEnable s on)) := by
  unfold mEnable
  rcases bt (!on) with c1 | c1
  · rw [if_pos c1]
    exact fn_of_x hG hM Tryd.func32 (by kernel_rfl) (by kernel_rfl) 400 [.yes] (J c1 trivial) (by kernel_rfl)
  · rw [if_neg (nt c1)]
    rcases bt (s.sample.left == 0) with c2 | c2
    · rw [if_pos c2]
      exact fn_of_x hG hM Tryd.func32 (by kernel_rfl) (by kernel_rfl) 400 [.no, .yes, .call [(1000, 1000), (1001, 1001), (1002, 1002), (1003, 1003), (1004, 1004)] [] 1005 (.tuple ⟨[]⟩) (Snd.H0 (mBegin ({ s with sample := ({ s.sample with irq := false } : Smp) } : Snd)))] (J c1 (J c2 (J (mBegin_ok ({ s with sample := ({ s.sample with irq := false } : Smp) } : Snd)) trivial))) (by kernel_rfl)
    · rw [if_neg (nt c2)]
      exact fn_of_x hG hM Tryd.func32 (by kernel_rfl) (by kernel_rfl) 400 [.no, .no] (J c1 (J c2 trivial)) (by kernel_rfl)
theorem mEnable_w (s : Snd) (on : Bool) (w_s : Snd.ok s) : Snd.ok (mEnable s on) := by
  unfold mEnable
  rcases bt (!on) with c1 | c1
  · rw [if_pos c1]
    exact (⟨w_s.tones_0, w_s.tones_1, w_s.tones_2, w_s.tones_3, (⟨w_s.sample.reg, w_s.sample.level, w_s.sample.next, w_s.sample.row, w_s.sample.bits, w_s.sample.timer, w_s.sample.at_⟩ : Smp.ok ({ s.sample with left := 0, irq := false } : Smp))⟩ : Snd.ok ({ s with sample := ({ s.sample with left := 0, irq := false } : Smp) } : Snd))
  · rw [if_neg (nt c1)]
    rcases bt (s.sample.left == 0) with c2 | c2
    · rw [if_pos c2]
      exact (mBegin_w ({ s with sample := ({ s.sample with irq := false } : Smp) } : Snd) (⟨w_s.tones_0, w_s.tones_1, w_s.tones_2, w_s.tones_3, (⟨w_s.sample.reg, w_s.sample.level, w_s.sample.next, w_s.sample.row, w_s.sample.bits, w_s.sample.timer, w_s.sample.at_⟩ : Smp.ok ({ s.sample with irq := false } : Smp))⟩ : Snd.ok ({ s with sample := ({ s.sample with irq := false } : Smp) } : Snd)))
    · rw [if_neg (nt c2)]
      exact (⟨w_s.tones_0, w_s.tones_1, w_s.tones_2, w_s.tones_3, (⟨w_s.sample.reg, w_s.sample.level, w_s.sample.next, w_s.sample.row, w_s.sample.bits, w_s.sample.timer, w_s.sample.at_⟩ : Smp.ok ({ s.sample with irq := false } : Smp))⟩ : Snd.ok ({ s with sample := ({ s.sample with irq := false } : Smp) } : Snd))
def mPut_0 (s : Snd) (b : Int) : Snd :=
  if s.sample.irq = true then
    ({ s with sample := ({ s.sample with reg := (upd s.sample.reg 0 b), irq := ((bAnd .u8 b 128) != 0) } : Smp) } : Snd)
  else
    ({ s with sample := ({ s.sample with reg := (upd s.sample.reg 0 b), irq := false } : Smp) } : Snd)
theorem mPut_0_ok (s : Snd) (b : Int) : FnSpec Tryd.prog 30 1005 [.pointer (some ⟨1000, 4, none⟩), .int .u8 0, .int .u8 b] (Snd.H0 s) (.tuple ⟨[]⟩) (Snd.H0 (mPut_0 s b)) := by
  unfold mPut_0
  rcases bt s.sample.irq with c1 | c1
  · rw [if_pos c1]
    exact fn_of_x hG hM Tryd.func30 (by kernel_rfl) (by kernel_rfl) 400 [.lit 0, .yes, .yes, .yes, .yes, .yes] (J (Eq.refl (0 : Int)) (J (by decide : 0 < 4) (J T1 (J c1 (J c1 (J c1 (J c1 trivial))))))) (by kernel_rfl)
  · rw [if_neg (nt c1)]
    exact fn_of_x hG hM Tryd.func30 (by kernel_rfl) (by kernel_rfl) 400 [.lit 0, .yes, .no, .no, .no, .no] (J (Eq.refl (0 : Int)) (J (by decide : 0 < 4) (J T1 (J c1 (J c1 (J c1 (J c1 trivial))))))) (by kernel_rfl)
theorem mPut_0_w (s : Snd) (b : Int) (w_s : Snd.ok s) (w_b : rng 256 b) : Snd.ok (mPut_0 s b) := by
  unfold mPut_0
  rcases bt s.sample.irq with c1 | c1
  · rw [if_pos c1]
    exact (⟨w_s.tones_0, w_s.tones_1, w_s.tones_2, w_s.tones_3, (⟨(rng_upd w_s.sample.reg 0 w_b), w_s.sample.level, w_s.sample.next, w_s.sample.row, w_s.sample.bits, w_s.sample.timer, w_s.sample.at_⟩ : Smp.ok ({ s.sample with reg := (upd s.sample.reg 0 b), irq := ((bAnd .u8 b 128) != 0) } : Smp))⟩ : Snd.ok ({ s with sample := ({ s.sample with reg := (upd s.sample.reg 0 b), irq := ((bAnd .u8 b 128) != 0) } : Smp) } : Snd))
  · rw [if_neg (nt c1)]
    exact (⟨w_s.tones_0, w_s.tones_1, w_s.tones_2, w_s.tones_3, (⟨(rng_upd w_s.sample.reg 0 w_b), w_s.sample.level, w_s.sample.next, w_s.sample.row, w_s.sample.bits, w_s.sample.timer, w_s.sample.at_⟩ : Smp.ok ({ s.sample with reg := (upd s.sample.reg 0 b), irq := false } : Smp))⟩ : Snd.ok ({ s with sample := ({ s.sample with reg := (upd s.sample.reg 0 b), irq := false } : Smp) } : Snd))
def mPut_1 (s : Snd) (b : Int) : Snd :=
  ({ s with sample := ({ s.sample with reg := (upd s.sample.reg 1 b), level := (bAnd .u8 b 127) } : Smp) } : Snd)
theorem mPut_1_ok (s : Snd) (b : Int) : FnSpec Tryd.prog 30 1005 [.pointer (some ⟨1000, 4, none⟩), .int .u8 1, .int .u8 b] (Snd.H0 s) (.tuple ⟨[]⟩) (Snd.H0 (mPut_1 s b)) := by
  unfold mPut_1
  exact fn_of_x hG hM Tryd.func30 (by kernel_rfl) (by kernel_rfl) 400 [.lit 1, .no, .yes] (J (Eq.refl (1 : Int)) (J (by decide : 1 < 4) (J T0 (J T1 trivial)))) (by kernel_rfl)
theorem mPut_1_w (s : Snd) (b : Int) (w_s : Snd.ok s) (w_b : rng 256 b) : Snd.ok (mPut_1 s b) := by
  unfold mPut_1
  exact (⟨w_s.tones_0, w_s.tones_1, w_s.tones_2, w_s.tones_3, (⟨(rng_upd w_s.sample.reg 1 w_b), (rng_bAnd_u8 b 127), w_s.sample.next, w_s.sample.row, w_s.sample.bits, w_s.sample.timer, w_s.sample.at_⟩ : Smp.ok ({ s.sample with reg := (upd s.sample.reg 1 b), level := (bAnd .u8 b 127) } : Smp))⟩ : Snd.ok ({ s with sample := ({ s.sample with reg := (upd s.sample.reg 1 b), level := (bAnd .u8 b 127) } : Smp) } : Snd))
def mPut_2 (s : Snd) (b : Int) : Snd :=
  ({ s with sample := ({ s.sample with reg := (upd s.sample.reg 2 b) } : Smp) } : Snd)
theorem mPut_2_ok (s : Snd) (b : Int) : FnSpec Tryd.prog 30 1005 [.pointer (some ⟨1000, 4, none⟩), .int .u8 2, .int .u8 b] (Snd.H0 s) (.tuple ⟨[]⟩) (Snd.H0 (mPut_2 s b)) := by
  unfold mPut_2
  exact fn_of_x hG hM Tryd.func30 (by kernel_rfl) (by kernel_rfl) 400 [.lit 2, .no, .no] (J (Eq.refl (2 : Int)) (J (by decide : 2 < 4) (J T0 (J T0 trivial)))) (by kernel_rfl)
theorem mPut_2_w (s : Snd) (b : Int) (w_s : Snd.ok s) (w_b : rng 256 b) : Snd.ok (mPut_2 s b) := by
  unfold mPut_2
  exact (⟨w_s.tones_0, w_s.tones_1, w_s.tones_2, w_s.tones_3, (⟨(rng_upd w_s.sample.reg 2 w_b), w_s.sample.level, w_s.sample.next, w_s.sample.row, w_s.sample.bits, w_s.sample.timer, w_s.sample.at_⟩ : Smp.ok ({ s.sample with reg := (upd s.sample.reg 2 b) } : Smp))⟩ : Snd.ok ({ s with sample := ({ s.sample with reg := (upd s.sample.reg 2 b) } : Smp) } : Snd))
def mPut_3 (s : Snd) (b : Int) : Snd :=
  ({ s with sample := ({ s.sample with reg := (upd s.sample.reg 3 b) } : Smp) } : Snd)
theorem mPut_3_ok (s : Snd) (b : Int) : FnSpec Tryd.prog 30 1005 [.pointer (some ⟨1000, 4, none⟩), .int .u8 3, .int .u8 b] (Snd.H0 s) (.tuple ⟨[]⟩) (Snd.H0 (mPut_3 s b)) := by
  unfold mPut_3
  exact fn_of_x hG hM Tryd.func30 (by kernel_rfl) (by kernel_rfl) 400 [.lit 3, .no, .no] (J (Eq.refl (3 : Int)) (J (by decide : 3 < 4) (J T0 (J T0 trivial)))) (by kernel_rfl)
theorem mPut_3_w (s : Snd) (b : Int) (w_s : Snd.ok s) (w_b : rng 256 b) : Snd.ok (mPut_3 s b) := by
  unfold mPut_3
  exact (⟨w_s.tones_0, w_s.tones_1, w_s.tones_2, w_s.tones_3, (⟨(rng_upd w_s.sample.reg 3 w_b), w_s.sample.level, w_s.sample.next, w_s.sample.row, w_s.sample.bits, w_s.sample.timer, w_s.sample.at_⟩ : Smp.ok ({ s.sample with reg := (upd s.sample.reg 3 b) } : Smp))⟩ : Snd.ok ({ s with sample := ({ s.sample with reg := (upd s.sample.reg 3 b) } : Smp) } : Snd))
def sNew  : Snd :=
  ({ tones_0 := tNew_0, tones_1 := tNew_1, tones_2 := tNew_2, tones_3 := tNew_3, sample := ({ reg := (fun j => List.getD [0, 0, 0, 0] j 0), level := 0, next := 0, waits := false, row := 0, bits := 8, speaks := false, timer := 0, at_ := 0, left := 0, irq := false } : Smp), count := 0, manner := 0, bars := false, irq := false, even := false } : Snd)
theorem sNew_ok  : FnSpec Tryd.prog 11 1000 [] [tb0] (.pointer (some ⟨1000, 0, none⟩)) (Snd.H0 sNew) := by
  unfold sNew
  exact fn_of_x hG hM Tryd.func11 (by kernel_rfl) (by kernel_rfl) 400 [.group [1, 1, 1, 1, 4, 1, 1, 1, 1, 1, 1, 1, 1, 1, 1, 1, 1, 1, 1, 1], .unroll, .yes, .call [] [(1000, 1001)] 1000 (.pointer (some ⟨1000, 0, none⟩)) [(1000, Tone.blk tNew_0)], .lit 0, .unroll, .yes, .call [] [(1000, 1002)] 1000 (.pointer (some ⟨1000, 0, none⟩)) [(1000, Tone.blk tNew_1)], .lit 1, .unroll, .yes, .call [] [(1000, 1003)] 1000 (.pointer (some ⟨1000, 0, none⟩)) [(1000, Tone.blk tNew_2)], .lit 2, .unroll, .yes, .call [(0, 0)] [(1000, 1004)] 1000 (.pointer (some ⟨1000, 0, none⟩)) [(1000, Tone.blk tNew_3)], .lit 3, .unroll, .no] (J T1 (J (tNew_0_ok) (J (Eq.refl (0 : Int)) (J (by decide : 0 < 4) (J T1 (J (tNew_1_ok) (J (Eq.refl (1 : Int)) (J (by decide : 1 < 4) (J T1 (J (tNew_2_ok) (J (Eq.refl (2 : Int)) (J (by decide : 2 < 4) (J T1 (J (tNew_3_ok) (J (Eq.refl (3 : Int)) (J (by decide : 3 < 4) (J T0 trivial))))))))))))))))) (by kernel_rfl)
theorem sNew_w  : Snd.ok sNew := by
  unfold sNew
  exact (⟨(tNew_0_w), (tNew_1_w), (tNew_2_w), (tNew_3_w), (⟨(rng_list (n := 256) (by decide) [0, 0, 0, 0] ⟨(by decide : rng 256 0), ⟨(by decide : rng 256 0), ⟨(by decide : rng 256 0), ⟨(by decide : rng 256 0), trivial⟩⟩⟩⟩), (by decide : rng 256 0), (by decide : rng 256 0), (by decide : rng 256 0), (by decide : rng 256 8), (by decide : rng 65536 0), (by decide : rng 65536 0)⟩ : Smp.ok ({ reg := (fun j => List.getD [0, 0, 0, 0] j 0), level := 0, next := 0, waits := false, row := 0, bits := 8, speaks := false, timer := 0, at_ := 0, left := 0, irq := false } : Smp))⟩ : Snd.ok ({ tones_0 := tNew_0, tones_1 := tNew_1, tones_2 := tNew_2, tones_3 := tNew_3, sample := ({ reg := (fun j => List.getD [0, 0, 0, 0] j 0), level := 0, next := 0, waits := false, row := 0, bits := 8, speaks := false, timer := 0, at_ := 0, left := 0, irq := false } : Smp), count := 0, manner := 0, bars := false, irq := false, even := false } : Snd))
end Go.Proofs.YtgpcfjokmonlgaaDoor
namespace Go.Proofs.YtgpcfjokmonlgaaDoor
open Go VX
open Go.IntKind (i64 u8 u16)
set_option linter.unusedVariables false
set_option linter.unusedSimpArgs false
set_option maxRecDepth 100000
def sAllQ (s : Snd) : Snd :=
  ({ s with tones_0 := (tQuarter s.tones_0), tones_1 := (tQuarter s.tones_1), tones_2 := (tQuarter s.tones_2), tones_3 := (tQuarter s.tones_3) } : Snd)
theorem sAllQ_ok (s : Snd) : FnSpec Tryd.prog 56 1005 [.pointer (some ⟨1000, 0, none⟩), .func (.func 57) ⟨[]⟩ ⟨[]⟩] (Snd.H0 s) (.tuple ⟨[]⟩) (Snd.H0 (sAllQ s)) := by
  unfold sAllQ
  exact fn_of_x hG hM Tryd.func56 (by kernel_rfl) (by kernel_rfl) 400 [.unroll, .yes, .lit 0, .call [(1001, 1000)] [] 1001 (.tuple ⟨[]⟩) [(1000, Tone.blk (tQuarter s.tones_0))], .unroll, .yes, .lit 1, .call [(1002, 1000)] [] 1001 (.tuple ⟨[]⟩) [(1000, Tone.blk (tQuarter s.tones_1))], .unroll, .yes, .lit 2, .call [(1003, 1000)] [] 1001 (.tuple ⟨[]⟩) [(1000, Tone.blk (tQuarter s.tones_2))], .unroll, .yes, .lit 3, .call [(1004, 1000)] [] 1001 (.tuple ⟨[]⟩) [(1000, Tone.blk (tQuarter s.tones_3))], .unroll, .no] (J T1 (J (Eq.refl (0 : Int)) (J (by decide : 0 < 4) (J (tQuarter_ok s.tones_0) (J T1 (J (Eq.refl (1 : Int)) (J (by decide : 1 < 4) (J (tQuarter_ok s.tones_1) (J T1 (J (Eq.refl (2 : Int)) (J (by decide : 2 < 4) (J (tQuarter_ok s.tones_2) (J T1 (J (Eq.refl (3 : Int)) (J (by decide : 3 < 4) (J (tQuarter_ok s.tones_3) (J T0 trivial))))))))))))))))) (by kernel_rfl)
theorem sAllQ_w (s : Snd) (w_s : Snd.ok s) : Snd.ok (sAllQ s) := by
  unfold sAllQ
  exact (⟨(tQuarter_w s.tones_0 w_s.tones_0), (tQuarter_w s.tones_1 w_s.tones_1), (tQuarter_w s.tones_2 w_s.tones_2), (tQuarter_w s.tones_3 w_s.tones_3), w_s.sample⟩ : Snd.ok ({ s with tones_0 := (tQuarter s.tones_0), tones_1 := (tQuarter s.tones_1), tones_2 := (tQuarter s.tones_2), tones_3 := (tQuarter s.tones_3) } : Snd))
def sAllH (s : Snd) : Snd :=
  ({ s with tones_0 := (tHalf s.tones_0), tones_1 := (tHalf s.tones_1), tones_2 := (tHalf s.tones_2), tones_3 := (tHalf s.tones_3) } : Snd)
theorem sAllH_ok (s : Snd) : FnSpec Tryd.prog 56 1005 [.pointer (some ⟨1000, 0, none⟩), .func (.func 58) ⟨[]⟩ ⟨[]⟩] (Snd.H0 s) (.tuple ⟨[]⟩) (Snd.H0 (sAllH s)) := by
  unfold sAllH
  exact fn_of_x hG hM Tryd.func56 (by kernel_rfl) (by kernel_rfl) 400 [.unroll, .yes, .lit 0, .call [(1001, 1000)] [] 1001 (.tuple ⟨[]⟩) [(1000, Tone.blk (tHalf s.tones_0))], .unroll, .yes, .lit 1, .call [(1002, 1000)] [] 1001 (.tuple ⟨[]⟩) [(1000, Tone.blk (tHalf s.tones_1))], .unroll, .yes, .lit 2, .call [(1003, 1000)] [] 1001 (.tuple ⟨[]⟩) [(1000, Tone.blk (tHalf s.tones_2))], .unroll, .yes, .lit 3, .call [(1004, 1000)] [] 1001 (.tuple ⟨[]⟩) [(1000, Tone.blk (tHalf s.tones_3))], .unroll, .no] (J T1 (J (Eq.refl (0 : Int)) (J (by decide : 0 < 4) (J (tHalf_ok s.tones_0) (J T1 (J (Eq.refl (1 : Int)) (J (by decide : 1 < 4) (J (tHalf_ok s.tones_1) (J T1 (J (Eq.refl (2 : Int)) (J (by decide : 2 < 4) (J (tHalf_ok s.tones_2) (J T1 (J (Eq.refl (3 : Int)) (J (by decide : 3 < 4) (J (tHalf_ok s.tones_3) (J T0 trivial))))))))))))))))) (by kernel_rfl)
theorem sAllH_w (s : Snd) (w_s : Snd.ok s) : Snd.ok (sAllH s) := by
  unfold sAllH
  exact (⟨(tHalf_w s.tones_0 w_s.tones_0), (tHalf_w s.tones_1 w_s.tones_1), (tHalf_w s.tones_2 w_s.tones_2), (tHalf_w s.tones_3 w_s.tones_3), w_s.sample⟩ : Snd.ok ({ s with tones_0 := (tHalf s.tones_0), tones_1 := (tHalf s.tones_1), tones_2 := (tHalf s.tones_2), tones_3 := (tHalf s.tones_3) } : Snd))
def sRestart (s : Snd) (b : Int) : Snd :=
  if s.irq = true then
    if ((bAnd .u8 b 128) != 0) = true then
      ({ tones_0 := (tHalf (tQuarter s.tones_0)), tones_1 := (tHalf (tQuarter s.tones_1)), tones_2 := (tHalf (tQuarter s.tones_2)), tones_3 := (tHalf (tQuarter s.tones_3)), sample := s.sample, count := 0, manner := 1, bars := ((bAnd .u8 b 64) != 0), irq := (!((bAnd .u8 b 64) != 0)), even := s.even } : Snd)
    else
      ({ s with count := 0, manner := 0, bars := ((bAnd .u8 b 64) != 0), irq := (!((bAnd .u8 b 64) != 0)) } : Snd)
  else
    if ((bAnd .u8 b 128) != 0) = true then
      ({ tones_0 := (tHalf (tQuarter s.tones_0)), tones_1 := (tHalf (tQuarter s.tones_1)), tones_2 := (tHalf (tQuarter s.tones_2)), tones_3 := (tHalf (tQuarter s.tones_3)), sample := s.sample, count := 0, manner := 1, bars := ((bAnd .u8 b 64) != 0), irq := false, even := s.even } : Snd)
    else
      ({ s with count := 0, manner := 0, bars := ((bAnd .u8 b 64) != 0), irq := false } : Snd)
theorem sRestart_ok (s : Snd) (b : Int) : FnSpec Tryd.prog 33 1005 [.pointer (some ⟨1000, 0, none⟩), .int .u8 b] (Snd.H0 s) (.tuple ⟨[]⟩) (Snd.H0 (sRestart s b)) := by
  unfold sRestart
  rcases bt s.irq with c1 | c1
  · rw [if_pos c1]
    rcases bt ((bAnd .u8 b 128) != 0) with c2 | c2
    · rw [if_pos c2]
      exact fn_of_x hG hM Tryd.func33 (by kernel_rfl) (by kernel_rfl) 400 [.yes, .yes, .yes, .yes, .yes, .yes, .yes, .call [(1000, 1000), (1001, 1001), (1002, 1002), (1003, 1003), (1004, 1004)] [] 1005 (.tuple ⟨[]⟩) (Snd.H0 ({ tones_0 := (tQuarter s.tones_0), tones_1 := (tQuarter s.tones_1), tones_2 := (tQuarter s.tones_2), tones_3 := (tQuarter s.tones_3), sample := s.sample, count := 0, manner := 1, bars := ((bAnd .u8 b 64) != 0), irq := (!((bAnd .u8 b 64) != 0)), even := s.even } : Snd)), .call [(1000, 1000), (1001, 1001), (1002, 1002), (1003, 1003), (1004, 1004)] [] 1005 (.tuple ⟨[]⟩) (Snd.H0 ({ tones_0 := (tHalf (tQuarter s.tones_0)), tones_1 := (tHalf (tQuarter s.tones_1)), tones_2 := (tHalf (tQuarter s.tones_2)), tones_3 := (tHalf (tQuarter s.tones_3)), sample := s.sample, count := 0, manner := 1, bars := ((bAnd .u8 b 64) != 0), irq := (!((bAnd .u8 b 64) != 0)), even := s.even } : Snd))] (J c1 (J c1 (J c1 (J c1 (J c1 (J c1 (J c2 (J (sAllQ_ok ({ s with count := 0, manner := 1, bars := ((bAnd .u8 b 64) != 0), irq := (!((bAnd .u8 b 64) != 0)) } : Snd)) (J (sAllH_ok ({ tones_0 := (tQuarter s.tones_0), tones_1 := (tQuarter s.tones_1), tones_2 := (tQuarter s.tones_2), tones_3 := (tQuarter s.tones_3), sample := s.sample, count := 0, manner := 1, bars := ((bAnd .u8 b 64) != 0), irq := (!((bAnd .u8 b 64) != 0)), even := s.even } : Snd)) trivial))))))))) (by kernel_rfl)
    · rw [if_neg (nt c2)]
      exact fn_of_x hG hM Tryd.func33 (by kernel_rfl) (by kernel_rfl) 400 [.yes, .yes, .yes, .yes, .yes, .yes, .no] (J c1 (J c1 (J c1 (J c1 (J c1 (J c1 (J c2 trivial))))))) (by kernel_rfl)
  · rw [if_neg (nt c1)]
    rcases bt ((bAnd .u8 b 128) != 0) with c2 | c2
    · rw [if_pos c2]
      exact fn_of_x hG hM Tryd.func33 (by kernel_rfl) (by kernel_rfl) 400 [.no, .no, .no, .no, .no, .no, .yes, .call [(1000, 1000), (1001, 1001), (1002, 1002), (1003, 1003), (1004, 1004)] [] 1005 (.tuple ⟨[]⟩) (Snd.H0 ({ tones_0 := (tQuarter s.tones_0), tones_1 := (tQuarter s.tones_1), tones_2 := (tQuarter s.tones_2), tones_3 := (tQuarter s.tones_3), sample := s.sample, count := 0, manner := 1, bars := ((bAnd .u8 b 64) != 0), irq := false, even := s.even } : Snd)), .call [(1000, 1000), (1001, 1001), (1002, 1002), (1003, 1003), (1004, 1004)] [] 1005 (.tuple ⟨[]⟩) (Snd.H0 ({ tones_0 := (tHalf (tQuarter s.tones_0)), tones_1 := (tHalf (tQuarter s.tones_1)), tones_2 := (tHalf (tQuarter s.tones_2)), tones_3 := (tHalf (tQuarter s.tones_3)), sample := s.sample, count := 0, manner := 1, bars := ((bAnd .u8 b 64) != 0), irq := false, even := s.even } : Snd))] (J c1 (J c1 (J c1 (J c1 (J c1 (J c1 (J c2 (J (sAllQ_ok ({ s with count := 0, manner := 1, bars := ((bAnd .u8 b 64) != 0), irq := false } : Snd)) (J (sAllH_ok ({ tones_0 := (tQuarter s.tones_0), tones_1 := (tQuarter s.tones_1), tones_2 := (tQuarter s.tones_2), tones_3 := (tQuarter s.tones_3), sample := s.sample, count := 0, manner := 1, bars := ((bAnd .u8 b 64) != 0), irq := false, even := s.even } : Snd)) trivial))))))))) (by kernel_rfl)
    · rw [if_neg (nt c2)]
      exact fn_of_x hG hM Tryd.func33 (by kernel_rfl) (by kernel_rfl) 400 [.no, .no, .no, .no, .no, .no, .no] (J c1 (J c1 (J c1 (J c1 (J c1 (J c1 (J c2 trivial))))))) (by kernel_rfl)
theorem sRestart_w (s : Snd) (b : Int) (w_s : Snd.ok s) (w_b : rng 256 b) : Snd.ok (sRestart s b) := by
  unfold sRestart
  rcases bt s.irq with c1 | c1
  · rw [if_pos c1]
    rcases bt ((bAnd .u8 b 128) != 0) with c2 | c2
    · rw [if_pos c2]
      exact (⟨(tHalf_w (tQuarter s.tones_0) (tQuarter_w s.tones_0 w_s.tones_0)), (tHalf_w (tQuarter s.tones_1) (tQuarter_w s.tones_1 w_s.tones_1)), (tHalf_w (tQuarter s.tones_2) (tQuarter_w s.tones_2 w_s.tones_2)), (tHalf_w (tQuarter s.tones_3) (tQuarter_w s.tones_3 w_s.tones_3)), w_s.sample⟩ : Snd.ok ({ tones_0 := (tHalf (tQuarter s.tones_0)), tones_1 := (tHalf (tQuarter s.tones_1)), tones_2 := (tHalf (tQuarter s.tones_2)), tones_3 := (tHalf (tQuarter s.tones_3)), sample := s.sample, count := 0, manner := 1, bars := ((bAnd .u8 b 64) != 0), irq := (!((bAnd .u8 b 64) != 0)), even := s.even } : Snd))
    · rw [if_neg (nt c2)]
      exact (⟨w_s.tones_0, w_s.tones_1, w_s.tones_2, w_s.tones_3, w_s.sample⟩ : Snd.ok ({ s with count := 0, manner := 0, bars := ((bAnd .u8 b 64) != 0), irq := (!((bAnd .u8 b 64) != 0)) } : Snd))
  · rw [if_neg (nt c1)]
    rcases bt ((bAnd .u8 b 128) != 0) with c2 | c2
    · rw [if_pos c2]
      exact (⟨(tHalf_w (tQuarter s.tones_0) (tQuarter_w s.tones_0 w_s.tones_0)), (tHalf_w (tQuarter s.tones_1) (tQuarter_w s.tones_1 w_s.tones_1)), (tHalf_w (tQuarter s.tones_2) (tQuarter_w s.tones_2 w_s.tones_2)), (tHalf_w (tQuarter s.tones_3) (tQuarter_w s.tones_3 w_s.tones_3)), w_s.sample⟩ : Snd.ok ({ tones_0 := (tHalf (tQuarter s.tones_0)), tones_1 := (tHalf (tQuarter s.tones_1)), tones_2 := (tHalf (tQuarter s.tones_2)), tones_3 := (tHalf (tQuarter s.tones_3)), sample := s.sample, count := 0, manner := 1, bars := ((bAnd .u8 b 64) != 0), irq := false, even := s.even } : Snd))
    · rw [if_neg (nt c2)]
      exact (⟨w_s.tones_0, w_s.tones_1, w_s.tones_2, w_s.tones_3, w_s.sample⟩ : Snd.ok ({ s with count := 0, manner := 0, bars := ((bAnd .u8 b 64) != 0), irq := false } : Snd))
def sIRQ (s : Snd) : Bool :=
  if s.irq = true then
    true
  else
    s.sample.irq
theorem sIRQ_ok (s : Snd) : FnSpec Tryd.prog 16 1005 [.pointer (some ⟨1000, 0, none⟩)] (Snd.HL 1000 1001 1002 1003 1004 s) (.bool (sIRQ s)) [] := by
  unfold sIRQ
  rcases bt s.irq with c1 | c1
  · rw [if_pos c1]
    exact fn_of_x hG hM Tryd.func16 (by kernel_rfl) (by kernel_rfl) 400 [.yes, .yes, .yes, .yes, .yes, .yes, .yes, .yes, .yes, .yes, .yes, .yes, .yes] (J T1 (J T1 (J T1 (J T1 (J T1 (J c1 (J c1 (J c1 (J c1 (J c1 (J T1 (J c1 (J T1 trivial))))))))))))) (by kernel_rfl)
  · rw [if_neg (nt c1)]
    exact fn_of_x hG hM Tryd.func16 (by kernel_rfl) (by kernel_rfl) 400 [.yes, .yes, .yes, .yes, .yes, .no, .no, .no, .no, .no, .yes, .no, .yes] (J T1 (J T1 (J T1 (J T1 (J T1 (J c1 (J c1 (J c1 (J c1 (J c1 (J T1 (J c1 (J T1 trivial))))))))))))) (by kernel_rfl)
def sAsks (s : Snd) : Int × Bool :=
  if (!(mAsks s)) = true then
    (0, false)
  else
    (s.sample.at_, true)
theorem sAsks_ok (s : Snd) : FnSpec Tryd.prog 26 1005 [.pointer (some ⟨1000, 0, none⟩)] (Snd.HL 1000 1001 1002 1003 1004 s) (.tuple ⟨[.int .u16 ((sAsks s).1), .bool ((sAsks s).2)]⟩) [] := by
  unfold sAsks
  rcases bt (!(mAsks s)) with c1 | c1
  · rw [if_pos c1]
    exact fn_of_x hG hM Tryd.func26 (by kernel_rfl) (by kernel_rfl) 400 [.no, .no, .no, .no, .call [(1000, 1000), (1001, 1001), (1002, 1002), (1003, 1003), (1004, 1004)] [] 1005 (.bool (mAsks s)) [], .no, .no, .yes] (J T0 (J T0 (J T0 (J T0 (J (mAsks_ok s) (J T0 (J T0 (J c1 trivial)))))))) (by kernel_rfl)
  · rw [if_neg (nt c1)]
    exact fn_of_x hG hM Tryd.func26 (by kernel_rfl) (by kernel_rfl) 400 [.no, .no, .no, .no, .call [(1000, 1000), (1001, 1001), (1002, 1002), (1003, 1003), (1004, 1004)] [] 1005 (.bool (mAsks s)) [], .no, .no, .no] (J T0 (J T0 (J T0 (J T0 (J (mAsks_ok s) (J T0 (J T0 (J c1 trivial)))))))) (by kernel_rfl)
def sGive (s : Snd) (b : Int) : Snd :=
  (mGive s b)
theorem sGive_ok (s : Snd) (b : Int) : FnSpec Tryd.prog 17 1005 [.pointer (some ⟨1000, 0, none⟩), .int .u8 b] (Snd.H0 s) (.tuple ⟨[]⟩) (Snd.H0 (sGive s b)) := by
  unfold sGive
  exact fn_of_x hG hM Tryd.func17 (by kernel_rfl) (by kernel_rfl) 400 [.yes, .call [(1000, 1000), (1001, 1001), (1002, 1002), (1003, 1003), (1004, 1004)] [] 1005 (.tuple ⟨[]⟩) (Snd.H0 (mGive s b))] (J T1 (J (mGive_ok s b) trivial)) (by kernel_rfl)
theorem sGive_w (s : Snd) (b : Int) (w_s : Snd.ok s) (w_b : rng 256 b) : Snd.ok (sGive s b) := by
  unfold sGive
  exact (mGive_w s b w_s w_b)
inductive sGet_L1 (s : Snd) (xd : Int × Int) : (Int × Int) ⊕ (Int × Int) → Prop
  | p1 (d1 : (decide (xd.1 < 8)) = true) (w1d : 0 ≤ xd.1) (d2 : (List.getD ([(tLive s.tones_0), (tLive s.tones_1), (tLive s.tones_2), (tLive s.tones_3), (decide (s.sample.left > 0)), false, s.irq, s.sample.irq] : List Bool) (Int.toNat xd.1) false) = true) : sGet_L1 s xd (.inl ((i64.wrap (xd.1 + 1)), (bOr .u8 xd.2 (bShl .u8 1 xd.1))))
  | p2 (d1 : (decide (xd.1 < 8)) = true) (w1d : 0 ≤ xd.1) (d2 : (List.getD ([(tLive s.tones_0), (tLive s.tones_1), (tLive s.tones_2), (tLive s.tones_3), (decide (s.sample.left > 0)), false, s.irq, s.sample.irq] : List Bool) (Int.toNat xd.1) false) = false) : sGet_L1 s xd (.inl ((i64.wrap (xd.1 + 1)), xd.2))
  | p3 (d1 : (decide (xd.1 < 8)) = false) : sGet_L1 s xd (.inr (xd.1, xd.2))
def sGet_L1_T (s : Snd) (xd : Int × Int) : Tm := [(0, .pointer (some ⟨1000, 0, none⟩)), (2, .int .u8 0), (3, .int .u8 xd.2), (47, .slice (some ⟨1005, 0, none⟩) 8 1), (48, .int .i64 8), (49, .int .i64 xd.1)]
def sGet_L1_H (s : Snd) (xd : Int × Int) : Heap := [(1005, ⟨[.one (.bool (tLive s.tones_0)), .one (.bool (tLive s.tones_1)), .one (.bool (tLive s.tones_2)), .one (.bool (tLive s.tones_3)), .one (.bool (decide (s.sample.left > 0))), .one (.bool false), .one (.bool s.irq), .one (.bool s.sample.irq)], 4, false⟩)]
def sGet_L1_T1 (s : Snd) (r : Int × Int) : Tm := sGet_L1_T s r
def sGet_L1_H1 (s : Snd) (r : Int × Int) : Heap := sGet_L1_H s r
def sGet_L1_ex (_ : Int × Int) : Ex := .exit 0
theorem sGet_L1_p1 (s : Snd) (xd : Int × Int) (d1 : (decide (xd.1 < 8)) = true) (w1d : 0 ≤ xd.1) (d2 : (List.getD ([(tLive s.tones_0), (tLive s.tones_1), (tLive s.tones_2), (tLive s.tones_3), (decide (s.sample.left > 0)), false, s.irq, s.sample.irq] : List Bool) (Int.toNat xd.1) false) = true) : Runs Tryd.prog 64 (bodyOf Tryd.f14 [1, 1, 1, 0, 1, 0, 0]) (sGet_L1_T s xd) (sGet_L1_H s xd) 1006 .normal (sGet_L1_T s ((i64.wrap (xd.1 + 1)), (bOr .u8 xd.2 (bShl .u8 1 xd.1)))) (sGet_L1_H s ((i64.wrap (xd.1 + 1)), (bOr .u8 xd.2 (bShl .u8 1 xd.1)))) 1006 := by
  have o1 : 0 ≤ xd.1 ∧ xd.1 < ((8 : Nat) : Int) := by first | decide | omega | (simp only [decide_eq_true_eq, decide_eq_false_iff_not, rng, IntKind.wrap_i64, IntKind.wrap_u8, IntKind.wrap_u16] at *; omega)
  have o2 : (Int.toNat xd.1) < 8 := by first | decide | omega | (simp only [decide_eq_true_eq, decide_eq_false_iff_not, rng, IntKind.wrap_i64, IntKind.wrap_u8, IntKind.wrap_u16] at *; omega)
  exact runs_of_x hG hM 400 [.yes, .sym, .among 8, .yes] (J d1 (J o1 (J o2 (J d2 (J w1d trivial))))) (by kernel_rfl)
theorem sGet_L1_p2 (s : Snd) (xd : Int × Int) (d1 : (decide (xd.1 < 8)) = true) (w1d : 0 ≤ xd.1) (d2 : (List.getD ([(tLive s.tones_0), (tLive s.tones_1), (tLive s.tones_2), (tLive s.tones_3), (decide (s.sample.left > 0)), false, s.irq, s.sample.irq] : List Bool) (Int.toNat xd.1) false) = false) : Runs Tryd.prog 64 (bodyOf Tryd.f14 [1, 1, 1, 0, 1, 0, 0]) (sGet_L1_T s xd) (sGet_L1_H s xd) 1006 .normal (sGet_L1_T s ((i64.wrap (xd.1 + 1)), xd.2)) (sGet_L1_H s ((i64.wrap (xd.1 + 1)), xd.2)) 1006 := by
  have o1 : 0 ≤ xd.1 ∧ xd.1 < ((8 : Nat) : Int) := by first | decide | omega | (simp only [decide_eq_true_eq, decide_eq_false_iff_not, rng, IntKind.wrap_i64, IntKind.wrap_u8, IntKind.wrap_u16] at *; omega)
  have o2 : (Int.toNat xd.1) < 8 := by first | decide | omega | (simp only [decide_eq_true_eq, decide_eq_false_iff_not, rng, IntKind.wrap_i64, IntKind.wrap_u8, IntKind.wrap_u16] at *; omega)
  exact runs_of_x hG hM 400 [.yes, .sym, .among 8, .no] (J d1 (J o1 (J o2 (J d2 trivial)))) (by kernel_rfl)
theorem sGet_L1_p3 (s : Snd) (xd : Int × Int) (d1 : (decide (xd.1 < 8)) = false) : Runs Tryd.prog 64 (bodyOf Tryd.f14 [1, 1, 1, 0, 1, 0, 0]) (sGet_L1_T s xd) (sGet_L1_H s xd) 1006 (.exit 0) (sGet_L1_T1 s (xd.1, xd.2)) (sGet_L1_H1 s (xd.1, xd.2)) 1006 := by
  exact runs_of_x hG hM 400 [.no] (J d1 trivial) (by kernel_rfl)
theorem sGet_L1_runs (s : Snd) (x_ : Int × Int) (y_ : Int × Int) (h_ : LoopR (sGet_L1 s) x_ y_) : Runs Tryd.prog 64 (.block 0 (.loop (bodyOf Tryd.f14 [1, 1, 1, 0, 1, 0, 0]))) (sGet_L1_T s x_) (sGet_L1_H s x_) 1006 (outOf 0 (sGet_L1_ex y_)) (sGet_L1_T1 s y_) (sGet_L1_H1 s y_) 1006 := by
  refine block_loop (sGet_L1 s) (sGet_L1_T s) (sGet_L1_H s) sGet_L1_ex (sGet_L1_T1 s) (sGet_L1_H1 s) ?_ ?_ ?_ x_ y_ h_
  · intro r hr; cases hr
  · intro xd y_ hx
    cases hx with
    | p1 d1 w1d d2 => exact sGet_L1_p1 s xd d1 w1d d2
    | p2 d1 w1d d2 => exact sGet_L1_p2 s xd d1 w1d d2
  · intro xd y_ hx
    cases hx with
    | p3 d1 => exact sGet_L1_p3 s xd d1
theorem sGet_p1 (s : Snd) (r1 : Int × Int) (l1 : LoopR (sGet_L1 s) (0, 0) r1) : FnSpec Tryd.prog 14 1005 [.pointer (some ⟨1000, 0, none⟩)] (Snd.H0 s) (.int .u8 r1.2) (Snd.H0 ({ s with irq := false } : Snd)) := by
  exact fn_of_x hG hM Tryd.func14 (by kernel_rfl) (by kernel_rfl) 400 [.no, .lit 0, .callr [(1001, 1000)] [1001] [] 1001 (.bool (tLive s.tones_0)) [], .lit 1, .callr [(1002, 1000)] [1002] [] 1001 (.bool (tLive s.tones_1)) [], .lit 2, .callr [(1003, 1000)] [1003] [] 1001 (.bool (tLive s.tones_2)) [], .lit 3, .callr [(1004, 1000)] [1004] [] 1001 (.bool (tLive s.tones_3)) [], .segk 1 0 [0, 2, 3, 47, 48, 49] [1005] .normal (sGet_L1_T1 s r1) (sGet_L1_H1 s r1) 1006] (J T0 (J (Eq.refl (0 : Int)) (J (by decide : 0 < 4) (J (tLive_ok s.tones_0) (J (Eq.refl (1 : Int)) (J (by decide : 1 < 4) (J (tLive_ok s.tones_1) (J (Eq.refl (2 : Int)) (J (by decide : 2 < 4) (J (tLive_ok s.tones_2) (J (Eq.refl (3 : Int)) (J (by decide : 3 < 4) (J (tLive_ok s.tones_3) (J (sGet_L1_runs s (0, 0) r1 l1) trivial)))))))))))))) (by kernel_rfl)
def sOut1_0 (s : Snd) : Int :=
  (i64.wrap (tOut s.tones_0))
theorem sOut1_0_ok (s : Snd) (w_s : Snd.ok s) : FnSpec Tryd.prog 39 1006 [.int .i64 0, .pointer (some ⟨1005, 0, none⟩)] ([tb3] ++ (Snd.HL 1000 1001 1002 1003 1004 s) ++ [(1005, ⟨[.one (.pointer (some ⟨1000, 0, none⟩))], 23, true⟩)]) (.int .i64 (sOut1_0 s)) [] := by
  unfold sOut1_0
  exact fn_of_x hG hM Tryd.func39 (by kernel_rfl) (by kernel_rfl) 400 [.lit 0, .call [(3, 3), (1001, 1000)] [] 1001 (.int .u8 (tOut s.tones_0)) []] (J (Eq.refl (0 : Int)) (J (by decide : 0 < 4) (J (tOut_ok s.tones_0 w_s.tones_0) trivial))) (by kernel_rfl)
def sOut1_1 (s : Snd) : Int :=
  (i64.wrap (tOut s.tones_1))
theorem sOut1_1_ok (s : Snd) (w_s : Snd.ok s) : FnSpec Tryd.prog 39 1006 [.int .i64 1, .pointer (some ⟨1005, 0, none⟩)] ([tb3] ++ (Snd.HL 1000 1001 1002 1003 1004 s) ++ [(1005, ⟨[.one (.pointer (some ⟨1000, 0, none⟩))], 23, true⟩)]) (.int .i64 (sOut1_1 s)) [] := by
  unfold sOut1_1
  exact fn_of_x hG hM Tryd.func39 (by kernel_rfl) (by kernel_rfl) 400 [.lit 1, .call [(3, 3), (1002, 1000)] [] 1001 (.int .u8 (tOut s.tones_1)) []] (J (Eq.refl (1 : Int)) (J (by decide : 1 < 4) (J (tOut_ok s.tones_1 w_s.tones_1) trivial))) (by kernel_rfl)
def sOut1_2 (s : Snd) : Int :=
  (i64.wrap (tOut s.tones_2))
theorem sOut1_2_ok (s : Snd) (w_s : Snd.ok s) : FnSpec Tryd.prog 39 1006 [.int .i64 2, .pointer (some ⟨1005, 0, none⟩)] ([tb3] ++ (Snd.HL 1000 1001 1002 1003 1004 s) ++ [(1005, ⟨[.one (.pointer (some ⟨1000, 0, none⟩))], 23, true⟩)]) (.int .i64 (sOut1_2 s)) [] := by
  unfold sOut1_2
  exact fn_of_x hG hM Tryd.func39 (by kernel_rfl) (by kernel_rfl) 400 [.lit 2, .call [(3, 3), (1003, 1000)] [] 1001 (.int .u8 (tOut s.tones_2)) []] (J (Eq.refl (2 : Int)) (J (by decide : 2 < 4) (J (tOut_ok s.tones_2 w_s.tones_2) trivial))) (by kernel_rfl)
def sOut1_3 (s : Snd) : Int :=
  (i64.wrap (tOut s.tones_3))
theorem sOut1_3_ok (s : Snd) (w_s : Snd.ok s) : FnSpec Tryd.prog 39 1006 [.int .i64 3, .pointer (some ⟨1005, 0, none⟩)] ([tb3] ++ (Snd.HL 1000 1001 1002 1003 1004 s) ++ [(1005, ⟨[.one (.pointer (some ⟨1000, 0, none⟩))], 23, true⟩)]) (.int .i64 (sOut1_3 s)) [] := by
  unfold sOut1_3
  exact fn_of_x hG hM Tryd.func39 (by kernel_rfl) (by kernel_rfl) 400 [.lit 3, .call [(3, 3), (1004, 1000)] [] 1001 (.int .u8 (tOut s.tones_3)) []] (J (Eq.refl (3 : Int)) (J (by decide : 3 < 4) (J (tOut_ok s.tones_3 w_s.tones_3) trivial))) (by kernel_rfl)
end Go.Proofs.YtgpcfjokmonlgaaDoor
namespace Go.Proofs.YtgpcfjokmonlgaaDoor
open Go VX
open Go.IntKind (i64 u8 u16)
set_option linter.unusedVariables false
set_option linter.unusedSimpArgs false
set_option maxRecDepth 100000
def sOut (s : Snd) : Int :=
  (i64.wrap ((i64.wrap ((i64.wrap ((i64.wrap (752 * (i64.wrap ((sOut1_0 s) + (sOut1_1 s))))) + (i64.wrap (851 * (sOut1_2 s))))) + (i64.wrap (494 * (sOut1_3 s))))) + (i64.wrap (335 * (i64.wrap s.sample.level)))))
theorem sOut_ok (s : Snd) (w_s : Snd.ok s) : FnSpec Tryd.prog 18 1005 [.pointer (some ⟨1000, 0, none⟩)] ([tb3] ++ (Snd.HL 1000 1001 1002 1003 1004 s)) (.int .i64 (sOut s)) [] := by
  unfold sOut
  exact fn_of_x hG hM Tryd.func18 (by kernel_rfl) (by kernel_rfl) 400 [.no, .callr [(3, 3), (1000, 1000), (1001, 1001), (1002, 1002), (1003, 1003), (1004, 1004), (1005, 1005)] [1005] [] 1006 (.int .i64 (sOut1_0 s)) [], .callr [(3, 3), (1000, 1000), (1001, 1001), (1002, 1002), (1003, 1003), (1004, 1004), (1005, 1005)] [1005] [] 1006 (.int .i64 (sOut1_1 s)) [], .callr [(3, 3), (1000, 1000), (1001, 1001), (1002, 1002), (1003, 1003), (1004, 1004), (1005, 1005)] [1005] [] 1006 (.int .i64 (sOut1_2 s)) [], .callr [(3, 3), (1000, 1000), (1001, 1001), (1002, 1002), (1003, 1003), (1004, 1004), (1005, 1005)] [1005] [] 1006 (.int .i64 (sOut1_3 s)) []] (J T0 (J (sOut1_0_ok s w_s) (J (sOut1_1_ok s w_s) (J (sOut1_2_ok s w_s) (J (sOut1_3_ok s w_s) trivial))))) (by kernel_rfl)
end Go.Proofs.YtgpcfjokmonlgaaDoor
