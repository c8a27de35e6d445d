/-
  The functions of layer 12, of the program. Written by gen_sound.py. No condition.
-/
import Derived.Test.YtgpcfjokmonlgaaDoorSA
namespace Go.Proofs.YtgpcfjokmonlgaaDoor
open Go VX
set_option linter.unusedVariables false
set_option linter.unusedSimpArgs false
set_option maxRecDepth 100000

structure Smp where
  reg : Nat → Int
  level : Int
  next : Int
  waits : Bool
  row : Int
  bits : Int
  speaks : Bool
  timer : Int
  at_ : Int
  left : Int
  irq : Bool
def Smp.enc (s : Smp) : Value := .agg ⟨[.int .u8 (s.reg 0), .int .u8 (s.reg 1), .int .u8 (s.reg 2), .int .u8 (s.reg 3), .int .u8 s.level, .int .u8 s.next, .bool s.waits, .int .u8 s.row, .int .u8 s.bits, .bool s.speaks, .int .u16 s.timer, .int .u16 s.at_, .int .i64 s.left, .bool s.irq]⟩
def Smp.blk (s : Smp) : Blk := ⟨[.ints .u8 4 s.reg, .one (.int .u8 s.level), .one (.int .u8 s.next), .one (.bool s.waits), .one (.int .u8 s.row), .one (.int .u8 s.bits), .one (.bool s.speaks), .one (.int .u16 s.timer), .one (.int .u16 s.at_), .one (.int .i64 s.left), .one (.bool s.irq)], 62, false⟩
def Smp.cells (s : Smp) : List Value := [.int .u8 (s.reg 0), .int .u8 (s.reg 1), .int .u8 (s.reg 2), .int .u8 (s.reg 3), .int .u8 s.level, .int .u8 s.next, .bool s.waits, .int .u8 s.row, .int .u8 s.bits, .bool s.speaks, .int .u16 s.timer, .int .u16 s.at_, .int .i64 s.left, .bool s.irq]
structure Smp.ok (s : Smp) : Prop where
  reg : ∀ j, rng 256 (s.reg j)
  level : rng 256 s.level
  next : rng 256 s.next
  row : rng 256 s.row
  bits : rng 256 s.bits
  timer : rng 65536 s.timer
  at_ : rng 65536 s.at_

structure Snd where
  tones_0 : Tone
  tones_1 : Tone
  tones_2 : Tone
  tones_3 : Tone
  sample : Smp
  count : Int
  manner : Int
  bars : Bool
  irq : Bool
  even : Bool
def Snd.blk (p0 p1 p2 p3 : Nat) (s : Snd) : Blk := ⟨[.one (.pointer (some ⟨p0, 0, none⟩)), .one (.pointer (some ⟨p1, 0, none⟩)), .one (.pointer (some ⟨p2, 0, none⟩)), .one (.pointer (some ⟨p3, 0, none⟩)), .ints .u8 4 s.sample.reg, .one (.int .u8 s.sample.level), .one (.int .u8 s.sample.next), .one (.bool s.sample.waits), .one (.int .u8 s.sample.row), .one (.int .u8 s.sample.bits), .one (.bool s.sample.speaks), .one (.int .u16 s.sample.timer), .one (.int .u16 s.sample.at_), .one (.int .i64 s.sample.left), .one (.bool s.sample.irq), .one (.int .i64 s.count), .one (.int .i64 s.manner), .one (.bool s.bars), .one (.bool s.irq), .one (.bool s.even)], 66, false⟩
def Snd.H (p p0 p1 p2 p3 : Nat) (s : Snd) : Heap := [(p, Snd.blk p0 p1 p2 p3 s), (p0, Tone.blk s.tones_0), (p1, Tone.blk s.tones_1), (p2, Tone.blk s.tones_2), (p3, Tone.blk s.tones_3)]
def Snd.HL (p p0 p1 p2 p3 : Nat) (s : Snd) : Heap := [(p, (Snd.blk p0 p1 p2 p3 s).lend), (p0, (Tone.blk s.tones_0).lend), (p1, (Tone.blk s.tones_1).lend), (p2, (Tone.blk s.tones_2).lend), (p3, (Tone.blk s.tones_3).lend)]
structure Snd.ok (s : Snd) : Prop where
  tones_0 : Tone.ok s.tones_0
  tones_1 : Tone.ok s.tones_1
  tones_2 : Tone.ok s.tones_2
  tones_3 : Tone.ok s.tones_3
  sample : Smp.ok s.sample

structure Act where
  Do : Int
  At : Int
  B : Int
  N : Int
def Act.enc (s : Act) : Value := .agg ⟨[.int .u8 s.Do, .int .u16 s.At, .int .u8 s.B, .int .u16 s.N]⟩
def Act.blk (s : Act) : Blk := ⟨[.one (.int .u8 s.Do), .one (.int .u16 s.At), .one (.int .u8 s.B), .one (.int .u16 s.N)], 34, false⟩
def Act.cells (s : Act) : List Value := [.int .u8 s.Do, .int .u16 s.At, .int .u8 s.B, .int .u16 s.N]
structure Act.ok (s : Act) : Prop where
  Do : rng 256 s.Do
  At : rng 65536 s.At
  B : rng 256 s.B
  N : rng 65536 s.N

/-- (*kotatsu/sound.sample).begin -/
def mBegin (s : Snd) : Snd :=
  ({ s with sample := ({ s.sample with at_ := (IntKind.u16.wrap (49152 + (IntKind.u16.wrap (64 * (IntKind.u16.wrap (s.sample.reg 2)))))), left := (IntKind.i64.wrap ((IntKind.i64.wrap (16 * (IntKind.i64.wrap (s.sample.reg 3)))) + 1)) } : Smp) } : Snd)
theorem mBegin_p1 (s : Snd) : FnSpec Tryd.prog 55 1005 [.pointer (some ⟨1000, 4, none⟩)] (Snd.H 1000 1001 1002 1003 1004 s) (.tuple ⟨[]⟩) (Snd.H 1000 1001 1002 1003 1004 ({ s with sample := ({ s.sample with at_ := (IntKind.u16.wrap (49152 + (IntKind.u16.wrap (64 * (IntKind.u16.wrap (s.sample.reg 2)))))), left := (IntKind.i64.wrap ((IntKind.i64.wrap (16 * (IntKind.i64.wrap (s.sample.reg 3)))) + 1)) } : Smp) } : Snd)) := by
  exact fn_of_x hG hM Tryd.func55 (by kernel_rfl) (by kernel_rfl) 400 [.lit 2, .lit 3] (J (Eq.refl (2 : Int)) (J (by decide : 2 < 4) (J (Eq.refl (3 : Int)) (J (by decide : 3 < 4) trivial)))) (by kernel_rfl)
theorem mBegin_ok (s : Snd) : FnSpec Tryd.prog 55 1005 [.pointer (some ⟨1000, 4, none⟩)] (Snd.H 1000 1001 1002 1003 1004 s) (.tuple ⟨[]⟩) (Snd.H 1000 1001 1002 1003 1004 (mBegin s)) := by
  exact mBegin_p1 s

theorem mBegin_w (s : Snd) (w_s : Snd.ok s) : Snd.ok (mBegin s) := by
  rw [mBegin]
  exact (⟨w_s.tones_0, w_s.tones_1, w_s.tones_2, w_s.tones_3, (⟨w_s.sample.reg, w_s.sample.level, w_s.sample.next, w_s.sample.row, w_s.sample.bits, w_s.sample.timer, (rng_wrap_u16 (49152 + (IntKind.u16.wrap (64 * (IntKind.u16.wrap (s.sample.reg 2))))))⟩ : Smp.ok ({ s.sample with at_ := (IntKind.u16.wrap (49152 + (IntKind.u16.wrap (64 * (IntKind.u16.wrap (s.sample.reg 2)))))), left := (IntKind.i64.wrap ((IntKind.i64.wrap (16 * (IntKind.i64.wrap (s.sample.reg 3)))) + 1)) } : Smp))⟩ : Snd.ok ({ s with sample := ({ s.sample with at_ := (IntKind.u16.wrap (49152 + (IntKind.u16.wrap (64 * (IntKind.u16.wrap (s.sample.reg 2)))))), left := (IntKind.i64.wrap ((IntKind.i64.wrap (16 * (IntKind.i64.wrap (s.sample.reg 3)))) + 1)) } : Smp) } : Snd))

/-- (*kotatsu/sound.sample).bit -/
def mBit (s : Snd) : Snd :=
  if (!s.sample.speaks) = true then
    s
  else
    if (((bAnd .u8 s.sample.row 1) : Int) != 0) = true then
      if (decide ((s.sample.level : Int) ≤ 125)) = true then
        ({ s with sample := ({ s.sample with level := (IntKind.u8.wrap (s.sample.level + 2)), row := (bShr .u8 s.sample.row 1) } : Smp) } : Snd)
      else
        if (!(((bAnd .u8 s.sample.row 1) : Int) != 0)) = true then
          if (decide ((s.sample.level : Int) ≥ 2)) = true then
            ({ s with sample := ({ s.sample with level := (IntKind.u8.wrap (s.sample.level - 2)), row := (bShr .u8 s.sample.row 1) } : Smp) } : Snd)
          else
            ({ s with sample := ({ s.sample with row := (bShr .u8 s.sample.row 1) } : Smp) } : Snd)
        else
          ({ s with sample := ({ s.sample with row := (bShr .u8 s.sample.row 1) } : Smp) } : Snd)
    else
      if (!(((bAnd .u8 s.sample.row 1) : Int) != 0)) = true then
        if (decide ((s.sample.level : Int) ≥ 2)) = true then
          ({ s with sample := ({ s.sample with level := (IntKind.u8.wrap (s.sample.level - 2)), row := (bShr .u8 s.sample.row 1) } : Smp) } : Snd)
        else
          ({ s with sample := ({ s.sample with row := (bShr .u8 s.sample.row 1) } : Smp) } : Snd)
      else
        ({ s with sample := ({ s.sample with row := (bShr .u8 s.sample.row 1) } : Smp) } : Snd)
theorem mBit_p1 (s : Snd) (c1 : (!s.sample.speaks) = true) : FnSpec Tryd.prog 59 1005 [.pointer (some ⟨1000, 4, none⟩)] (Snd.H 1000 1001 1002 1003 1004 s) (.tuple ⟨[]⟩) (Snd.H 1000 1001 1002 1003 1004 s) := by
  exact fn_of_x hG hM Tryd.func59 (by kernel_rfl) (by kernel_rfl) 400 [.yes] (J c1 trivial) (by kernel_rfl)
theorem mBit_p2 (s : Snd) (c1 : (!s.sample.speaks) = false) (c2 : (((bAnd .u8 s.sample.row 1) : Int) != 0) = true) (c3 : (decide ((s.sample.level : Int) ≤ 125)) = true) : FnSpec Tryd.prog 59 1005 [.pointer (some ⟨1000, 4, none⟩)] (Snd.H 1000 1001 1002 1003 1004 s) (.tuple ⟨[]⟩) (Snd.H 1000 1001 1002 1003 1004 ({ s with sample := ({ s.sample with level := (IntKind.u8.wrap (s.sample.level + 2)), row := (bShr .u8 s.sample.row 1) } : Smp) } : Snd)) := by
  exact fn_of_x hG hM Tryd.func59 (by kernel_rfl) (by kernel_rfl) 400 [.no, .yes, .yes, .yes, .yes, .yes, .yes, .yes] (J c1 (J c2 (J c2 (J c2 (J c2 (J c2 (J c2 (J c3 (J (by decide : (0 : Int) ≤ 1) trivial))))))))) (by kernel_rfl)
theorem mBit_p3 (s : Snd) (c1 : (!s.sample.speaks) = false) (c2 : (((bAnd .u8 s.sample.row 1) : Int) != 0) = true) (c3 : (decide ((s.sample.level : Int) ≤ 125)) = false) (c4 : (!(((bAnd .u8 s.sample.row 1) : Int) != 0)) = true) (c5 : (decide ((s.sample.level : Int) ≥ 2)) = true) : FnSpec Tryd.prog 59 1005 [.pointer (some ⟨1000, 4, none⟩)] (Snd.H 1000 1001 1002 1003 1004 s) (.tuple ⟨[]⟩) (Snd.H 1000 1001 1002 1003 1004 ({ s with sample := ({ s.sample with level := (IntKind.u8.wrap (s.sample.level - 2)), row := (bShr .u8 s.sample.row 1) } : Smp) } : Snd)) := by
  exact fn_of_x hG hM Tryd.func59 (by kernel_rfl) (by kernel_rfl) 400 [.no, .yes, .yes, .yes, .yes, .yes, .yes, .no, .yes, .yes, .yes, .yes, .yes, .yes, .yes] (J c1 (J c2 (J c2 (J c2 (J c2 (J c2 (J c2 (J c3 (J c4 (J c4 (J c4 (J c4 (J c4 (J c4 (J c5 (J (by decide : (0 : Int) ≤ 1) trivial)))))))))))))))) (by kernel_rfl)
theorem mBit_p4 (s : Snd) (c1 : (!s.sample.speaks) = false) (c2 : (((bAnd .u8 s.sample.row 1) : Int) != 0) = true) (c3 : (decide ((s.sample.level : Int) ≤ 125)) = false) (c4 : (!(((bAnd .u8 s.sample.row 1) : Int) != 0)) = true) (c5 : (decide ((s.sample.level : Int) ≥ 2)) = false) : FnSpec Tryd.prog 59 1005 [.pointer (some ⟨1000, 4, none⟩)] (Snd.H 1000 1001 1002 1003 1004 s) (.tuple ⟨[]⟩) (Snd.H 1000 1001 1002 1003 1004 ({ s with sample := ({ s.sample with row := (bShr .u8 s.sample.row 1) } : Smp) } : Snd)) := by
  exact fn_of_x hG hM Tryd.func59 (by kernel_rfl) (by kernel_rfl) 400 [.no, .yes, .yes, .yes, .yes, .yes, .yes, .no, .yes, .yes, .yes, .yes, .yes, .yes, .no] (J c1 (J c2 (J c2 (J c2 (J c2 (J c2 (J c2 (J c3 (J c4 (J c4 (J c4 (J c4 (J c4 (J c4 (J c5 (J (by decide : (0 : Int) ≤ 1) trivial)))))))))))))))) (by kernel_rfl)
theorem mBit_p5 (s : Snd) (c1 : (!s.sample.speaks) = false) (c2 : (((bAnd .u8 s.sample.row 1) : Int) != 0) = true) (c3 : (decide ((s.sample.level : Int) ≤ 125)) = false) (c4 : (!(((bAnd .u8 s.sample.row 1) : Int) != 0)) = false) : FnSpec Tryd.prog 59 1005 [.pointer (some ⟨1000, 4, none⟩)] (Snd.H 1000 1001 1002 1003 1004 s) (.tuple ⟨[]⟩) (Snd.H 1000 1001 1002 1003 1004 ({ s with sample := ({ s.sample with row := (bShr .u8 s.sample.row 1) } : Smp) } : Snd)) := by
  exact fn_of_x hG hM Tryd.func59 (by kernel_rfl) (by kernel_rfl) 400 [.no, .yes, .yes, .yes, .yes, .yes, .yes, .no, .no, .no, .no, .no, .no, .no, .no] (J c1 (J c2 (J c2 (J c2 (J c2 (J c2 (J c2 (J c3 (J c4 (J c4 (J c4 (J c4 (J c4 (J c4 (J (Eq.refl false) (J (by decide : (0 : Int) ≤ 1) trivial)))))))))))))))) (by kernel_rfl)
theorem mBit_p6 (s : Snd) (c1 : (!s.sample.speaks) = false) (c2 : (((bAnd .u8 s.sample.row 1) : Int) != 0) = false) (c3 : (!(((bAnd .u8 s.sample.row 1) : Int) != 0)) = true) (c4 : (decide ((s.sample.level : Int) ≥ 2)) = true) : FnSpec Tryd.prog 59 1005 [.pointer (some ⟨1000, 4, none⟩)] (Snd.H 1000 1001 1002 1003 1004 s) (.tuple ⟨[]⟩) (Snd.H 1000 1001 1002 1003 1004 ({ s with sample := ({ s.sample with level := (IntKind.u8.wrap (s.sample.level - 2)), row := (bShr .u8 s.sample.row 1) } : Smp) } : Snd)) := by
  exact fn_of_x hG hM Tryd.func59 (by kernel_rfl) (by kernel_rfl) 400 [.no, .no, .no, .no, .no, .no, .no, .no, .yes, .yes, .yes, .yes, .yes, .yes, .yes] (J c1 (J c2 (J c2 (J c2 (J c2 (J c2 (J c2 (J (Eq.refl false) (J c3 (J c3 (J c3 (J c3 (J c3 (J c3 (J c4 (J (by decide : (0 : Int) ≤ 1) trivial)))))))))))))))) (by kernel_rfl)
theorem mBit_p7 (s : Snd) (c1 : (!s.sample.speaks) = false) (c2 : (((bAnd .u8 s.sample.row 1) : Int) != 0) = false) (c3 : (!(((bAnd .u8 s.sample.row 1) : Int) != 0)) = true) (c4 : (decide ((s.sample.level : Int) ≥ 2)) = false) : FnSpec Tryd.prog 59 1005 [.pointer (some ⟨1000, 4, none⟩)] (Snd.H 1000 1001 1002 1003 1004 s) (.tuple ⟨[]⟩) (Snd.H 1000 1001 1002 1003 1004 ({ s with sample := ({ s.sample with row := (bShr .u8 s.sample.row 1) } : Smp) } : Snd)) := by
  exact fn_of_x hG hM Tryd.func59 (by kernel_rfl) (by kernel_rfl) 400 [.no, .no, .no, .no, .no, .no, .no, .no, .yes, .yes, .yes, .yes, .yes, .yes, .no] (J c1 (J c2 (J c2 (J c2 (J c2 (J c2 (J c2 (J (Eq.refl false) (J c3 (J c3 (J c3 (J c3 (J c3 (J c3 (J c4 (J (by decide : (0 : Int) ≤ 1) trivial)))))))))))))))) (by kernel_rfl)
theorem mBit_p8 (s : Snd) (c1 : (!s.sample.speaks) = false) (c2 : (((bAnd .u8 s.sample.row 1) : Int) != 0) = false) (c3 : (!(((bAnd .u8 s.sample.row 1) : Int) != 0)) = false) : FnSpec Tryd.prog 59 1005 [.pointer (some ⟨1000, 4, none⟩)] (Snd.H 1000 1001 1002 1003 1004 s) (.tuple ⟨[]⟩) (Snd.H 1000 1001 1002 1003 1004 ({ s with sample := ({ s.sample with row := (bShr .u8 s.sample.row 1) } : Smp) } : Snd)) := by
  exact fn_of_x hG hM Tryd.func59 (by kernel_rfl) (by kernel_rfl) 400 [.no, .no, .no, .no, .no, .no, .no, .no, .no, .no, .no, .no, .no, .no, .no] (J c1 (J c2 (J c2 (J c2 (J c2 (J c2 (J c2 (J (Eq.refl false) (J c3 (J c3 (J c3 (J c3 (J c3 (J c3 (J (Eq.refl false) (J (by decide : (0 : Int) ≤ 1) trivial)))))))))))))))) (by kernel_rfl)
theorem mBit_ok (s : Snd) : FnSpec Tryd.prog 59 1005 [.pointer (some ⟨1000, 4, none⟩)] (Snd.H 1000 1001 1002 1003 1004 s) (.tuple ⟨[]⟩) (Snd.H 1000 1001 1002 1003 1004 (mBit s)) := by
  rcases bt (!s.sample.speaks) with c1 | c1
  ·
    rw [mBit, if_pos c1]
    exact mBit_p1 s c1
  ·
    rcases bt (((bAnd .u8 s.sample.row 1) : Int) != 0) with c2 | c2
    ·
      rcases bt (decide ((s.sample.level : Int) ≤ 125)) with c3 | c3
      ·
        rw [mBit, if_neg (nt c1), if_pos c2, if_pos c3]
        exact mBit_p2 s c1 c2 c3
      ·
        rcases bt (!(((bAnd .u8 s.sample.row 1) : Int) != 0)) with c4 | c4
        ·
          rcases bt (decide ((s.sample.level : Int) ≥ 2)) with c5 | c5
          ·
            rw [mBit, if_neg (nt c1), if_pos c2, if_neg (nt c3), if_pos c4, if_pos c5]
            exact mBit_p3 s c1 c2 c3 c4 c5
          ·
            rw [mBit, if_neg (nt c1), if_pos c2, if_neg (nt c3), if_pos c4, if_neg (nt c5)]
            exact mBit_p4 s c1 c2 c3 c4 c5
        ·
          rw [mBit, if_neg (nt c1), if_pos c2, if_neg (nt c3), if_neg (nt c4)]
          exact mBit_p5 s c1 c2 c3 c4
    ·
      rcases bt (!(((bAnd .u8 s.sample.row 1) : Int) != 0)) with c3 | c3
      ·
        rcases bt (decide ((s.sample.level : Int) ≥ 2)) with c4 | c4
        ·
          rw [mBit, if_neg (nt c1), if_neg (nt c2), if_pos c3, if_pos c4]
          exact mBit_p6 s c1 c2 c3 c4
        ·
          rw [mBit, if_neg (nt c1), if_neg (nt c2), if_pos c3, if_neg (nt c4)]
          exact mBit_p7 s c1 c2 c3 c4
      ·
        rw [mBit, if_neg (nt c1), if_neg (nt c2), if_neg (nt c3)]
        exact mBit_p8 s c1 c2 c3

theorem mBit_w (s : Snd) (w_s : Snd.ok s) : Snd.ok (mBit s) := by
  rcases bt (!s.sample.speaks) with c1 | c1
  ·
    rw [mBit, if_pos c1]
    exact w_s
  ·
    rcases bt (((bAnd .u8 s.sample.row 1) : Int) != 0) with c2 | c2
    ·
      rcases bt (decide ((s.sample.level : Int) ≤ 125)) with c3 | c3
      ·
        rw [mBit, if_neg (nt c1), if_pos c2, if_pos c3]
        exact (⟨w_s.tones_0, w_s.tones_1, w_s.tones_2, w_s.tones_3, (⟨w_s.sample.reg, (rng_wrap_u8 (s.sample.level + 2)), w_s.sample.next, (rng_bShr w_s.sample.row .u8 1), w_s.sample.bits, w_s.sample.timer, w_s.sample.at_⟩ : Smp.ok ({ s.sample with level := (IntKind.u8.wrap (s.sample.level + 2)), row := (bShr .u8 s.sample.row 1) } : Smp))⟩ : Snd.ok ({ s with sample := ({ s.sample with level := (IntKind.u8.wrap (s.sample.level + 2)), row := (bShr .u8 s.sample.row 1) } : Smp) } : Snd))
      ·
        rcases bt (!(((bAnd .u8 s.sample.row 1) : Int) != 0)) with c4 | c4
        ·
          rcases bt (decide ((s.sample.level : Int) ≥ 2)) with c5 | c5
          ·
            rw [mBit, if_neg (nt c1), if_pos c2, if_neg (nt c3), if_pos c4, if_pos c5]
            exact (⟨w_s.tones_0, w_s.tones_1, w_s.tones_2, w_s.tones_3, (⟨w_s.sample.reg, (rng_wrap_u8 (s.sample.level - 2)), w_s.sample.next, (rng_bShr w_s.sample.row .u8 1), w_s.sample.bits, w_s.sample.timer, w_s.sample.at_⟩ : Smp.ok ({ s.sample with level := (IntKind.u8.wrap (s.sample.level - 2)), row := (bShr .u8 s.sample.row 1) } : Smp))⟩ : Snd.ok ({ s with sample := ({ s.sample with level := (IntKind.u8.wrap (s.sample.level - 2)), row := (bShr .u8 s.sample.row 1) } : Smp) } : Snd))
          ·
            rw [mBit, if_neg (nt c1), if_pos c2, if_neg (nt c3), if_pos c4, if_neg (nt c5)]
            exact (⟨w_s.tones_0, w_s.tones_1, w_s.tones_2, w_s.tones_3, (⟨w_s.sample.reg, w_s.sample.level, w_s.sample.next, (rng_bShr w_s.sample.row .u8 1), w_s.sample.bits, w_s.sample.timer, w_s.sample.at_⟩ : Smp.ok ({ s.sample with row := (bShr .u8 s.sample.row 1) } : Smp))⟩ : Snd.ok ({ s with sample := ({ s.sample with row := (bShr .u8 s.sample.row 1) } : Smp) } : Snd))
        ·
          rw [mBit, if_neg (nt c1), if_pos c2, if_neg (nt c3), if_neg (nt c4)]
          exact (⟨w_s.tones_0, w_s.tones_1, w_s.tones_2, w_s.tones_3, (⟨w_s.sample.reg, w_s.sample.level, w_s.sample.next, (rng_bShr w_s.sample.row .u8 1), w_s.sample.bits, w_s.sample.timer, w_s.sample.at_⟩ : Smp.ok ({ s.sample with row := (bShr .u8 s.sample.row 1) } : Smp))⟩ : Snd.ok ({ s with sample := ({ s.sample with row := (bShr .u8 s.sample.row 1) } : Smp) } : Snd))
    ·
      rcases bt (!(((bAnd .u8 s.sample.row 1) : Int) != 0)) with c3 | c3
      ·
        rcases bt (decide ((s.sample.level : Int) ≥ 2)) with c4 | c4
        ·
          rw [mBit, if_neg (nt c1), if_neg (nt c2), if_pos c3, if_pos c4]
          exact (⟨w_s.tones_0, w_s.tones_1, w_s.tones_2, w_s.tones_3, (⟨w_s.sample.reg, (rng_wrap_u8 (s.sample.level - 2)), w_s.sample.next, (rng_bShr w_s.sample.row .u8 1), w_s.sample.bits, w_s.sample.timer, w_s.sample.at_⟩ : Smp.ok ({ s.sample with level := (IntKind.u8.wrap (s.sample.level - 2)), row := (bShr .u8 s.sample.row 1) } : Smp))⟩ : Snd.ok ({ s with sample := ({ s.sample with level := (IntKind.u8.wrap (s.sample.level - 2)), row := (bShr .u8 s.sample.row 1) } : Smp) } : Snd))
        ·
          rw [mBit, if_neg (nt c1), if_neg (nt c2), if_pos c3, if_neg (nt c4)]
          exact (⟨w_s.tones_0, w_s.tones_1, w_s.tones_2, w_s.tones_3, (⟨w_s.sample.reg, w_s.sample.level, w_s.sample.next, (rng_bShr w_s.sample.row .u8 1), w_s.sample.bits, w_s.sample.timer, w_s.sample.at_⟩ : Smp.ok ({ s.sample with row := (bShr .u8 s.sample.row 1) } : Smp))⟩ : Snd.ok ({ s with sample := ({ s.sample with row := (bShr .u8 s.sample.row 1) } : Smp) } : Snd))
      ·
        rw [mBit, if_neg (nt c1), if_neg (nt c2), if_neg (nt c3)]
        exact (⟨w_s.tones_0, w_s.tones_1, w_s.tones_2, w_s.tones_3, (⟨w_s.sample.reg, w_s.sample.level, w_s.sample.next, (rng_bShr w_s.sample.row .u8 1), w_s.sample.bits, w_s.sample.timer, w_s.sample.at_⟩ : Smp.ok ({ s.sample with row := (bShr .u8 s.sample.row 1) } : Smp))⟩ : Snd.ok ({ s with sample := ({ s.sample with row := (bShr .u8 s.sample.row 1) } : Smp) } : Snd))

/-- (*kotatsu/sound.sample).asks -/
def mAsks (s : Snd) : Bool :=
  if (!s.sample.waits) = true then
    (decide ((s.sample.left : Int) > 0))
  else
    false
theorem mAsks_p1 (s : Snd) (c1 : (!s.sample.waits) = true) : FnSpec Tryd.prog 52 1005 [.pointer (some ⟨1000, 4, none⟩)] (Snd.HL 1000 1001 1002 1003 1004 s) (.bool (decide ((s.sample.left : Int) > 0))) [] := by
  exact fn_of_x hG hM Tryd.func52 (by kernel_rfl) (by kernel_rfl) 400 [.yes, .yes, .yes, .yes, .yes, .yes] (J c1 (J c1 (J c1 (J c1 (J c1 (J c1 trivial)))))) (by kernel_rfl)
theorem mAsks_p2 (s : Snd) (c1 : (!s.sample.waits) = false) : FnSpec Tryd.prog 52 1005 [.pointer (some ⟨1000, 4, none⟩)] (Snd.HL 1000 1001 1002 1003 1004 s) (.bool false) [] := by
  exact fn_of_x hG hM Tryd.func52 (by kernel_rfl) (by kernel_rfl) 400 [.no, .no, .no, .no, .no, .no] (J c1 (J c1 (J c1 (J c1 (J c1 (J c1 trivial)))))) (by kernel_rfl)
theorem mAsks_ok (s : Snd) : FnSpec Tryd.prog 52 1005 [.pointer (some ⟨1000, 4, none⟩)] (Snd.HL 1000 1001 1002 1003 1004 s) (.bool (mAsks s)) [] := by
  rcases bt (!s.sample.waits) with c1 | c1
  ·
    rw [mAsks, if_pos c1]
    exact mAsks_p1 s c1
  ·
    rw [mAsks, if_neg (nt c1)]
    exact mAsks_p2 s c1

/-- (*kotatsu/sound.sample).clock -/
def mClock (s : Snd) : Snd :=
  if (decide ((s.sample.timer : Int) > 0)) = true then
    ({ s with sample := ({ s.sample with timer := (IntKind.u16.wrap (s.sample.timer - 1)) } : Smp) } : Snd)
  else
    if (decide (((IntKind.u8.wrap (((mBit ({ s with sample := ({ s.sample with timer := (IntKind.u16.wrap ((ratesT (Int.toNat (bAnd .u8 (s.sample.reg 0) 15))) - 1)) } : Smp) } : Snd)).sample).bits - 1)) : Int) > 0)) = true then
      ({ (mBit ({ s with sample := ({ s.sample with timer := (IntKind.u16.wrap ((ratesT (Int.toNat (bAnd .u8 (s.sample.reg 0) 15))) - 1)) } : Smp) } : Snd)) with sample := ({ ((mBit ({ s with sample := ({ s.sample with timer := (IntKind.u16.wrap ((ratesT (Int.toNat (bAnd .u8 (s.sample.reg 0) 15))) - 1)) } : Smp) } : Snd)).sample) with bits := (IntKind.u8.wrap (((mBit ({ s with sample := ({ s.sample with timer := (IntKind.u16.wrap ((ratesT (Int.toNat (bAnd .u8 (s.sample.reg 0) 15))) - 1)) } : Smp) } : Snd)).sample).bits - 1)) } : Smp) } : Snd)
    else
      if ((mBit ({ s with sample := ({ s.sample with timer := (IntKind.u16.wrap ((ratesT (Int.toNat (bAnd .u8 (s.sample.reg 0) 15))) - 1)) } : Smp) } : Snd)).sample).waits = true then
        ({ (mBit ({ s with sample := ({ s.sample with timer := (IntKind.u16.wrap ((ratesT (Int.toNat (bAnd .u8 (s.sample.reg 0) 15))) - 1)) } : Smp) } : Snd)) with sample := ({ ((mBit ({ s with sample := ({ s.sample with timer := (IntKind.u16.wrap ((ratesT (Int.toNat (bAnd .u8 (s.sample.reg 0) 15))) - 1)) } : Smp) } : Snd)).sample) with waits := false, row := ((mBit ({ s with sample := ({ s.sample with timer := (IntKind.u16.wrap ((ratesT (Int.toNat (bAnd .u8 (s.sample.reg 0) 15))) - 1)) } : Smp) } : Snd)).sample).next, bits := 8, speaks := ((mBit ({ s with sample := ({ s.sample with timer := (IntKind.u16.wrap ((ratesT (Int.toNat (bAnd .u8 (s.sample.reg 0) 15))) - 1)) } : Smp) } : Snd)).sample).waits } : Smp) } : Snd)
      else
        ({ (mBit ({ s with sample := ({ s.sample with timer := (IntKind.u16.wrap ((ratesT (Int.toNat (bAnd .u8 (s.sample.reg 0) 15))) - 1)) } : Smp) } : Snd)) with sample := ({ ((mBit ({ s with sample := ({ s.sample with timer := (IntKind.u16.wrap ((ratesT (Int.toNat (bAnd .u8 (s.sample.reg 0) 15))) - 1)) } : Smp) } : Snd)).sample) with bits := 8, speaks := ((mBit ({ s with sample := ({ s.sample with timer := (IntKind.u16.wrap ((ratesT (Int.toNat (bAnd .u8 (s.sample.reg 0) 15))) - 1)) } : Smp) } : Snd)).sample).waits } : Smp) } : Snd)
theorem mClock_p1 (s : Snd) (c1 : (decide ((s.sample.timer : Int) > 0)) = true) : FnSpec Tryd.prog 37 1005 [.pointer (some ⟨1000, 4, none⟩)] ([tb2] ++ (Snd.H 1000 1001 1002 1003 1004 s)) (.tuple ⟨[]⟩) (Snd.H 1000 1001 1002 1003 1004 ({ s with sample := ({ s.sample with timer := (IntKind.u16.wrap (s.sample.timer - 1)) } : Smp) } : Snd)) := by
  exact fn_of_x hG hM Tryd.func37 (by kernel_rfl) (by kernel_rfl) 400 [.yes] (J c1 trivial) (by kernel_rfl)
theorem mClock_p2 (s : Snd) (c1 : (decide ((s.sample.timer : Int) > 0)) = false) (c2 : (decide (((IntKind.u8.wrap (((mBit ({ s with sample := ({ s.sample with timer := (IntKind.u16.wrap ((ratesT (Int.toNat (bAnd .u8 (s.sample.reg 0) 15))) - 1)) } : Smp) } : Snd)).sample).bits - 1)) : Int) > 0)) = true) : FnSpec Tryd.prog 37 1005 [.pointer (some ⟨1000, 4, none⟩)] ([tb2] ++ (Snd.H 1000 1001 1002 1003 1004 s)) (.tuple ⟨[]⟩) (Snd.H 1000 1001 1002 1003 1004 ({ (mBit ({ s with sample := ({ s.sample with timer := (IntKind.u16.wrap ((ratesT (Int.toNat (bAnd .u8 (s.sample.reg 0) 15))) - 1)) } : Smp) } : Snd)) with sample := ({ ((mBit ({ s with sample := ({ s.sample with timer := (IntKind.u16.wrap ((ratesT (Int.toNat (bAnd .u8 (s.sample.reg 0) 15))) - 1)) } : Smp) } : Snd)).sample) with bits := (IntKind.u8.wrap (((mBit ({ s with sample := ({ s.sample with timer := (IntKind.u16.wrap ((ratesT (Int.toNat (bAnd .u8 (s.sample.reg 0) 15))) - 1)) } : Smp) } : Snd)).sample).bits - 1)) } : Smp) } : Snd)) := by
  exact fn_of_x hG hM Tryd.func37 (by kernel_rfl) (by kernel_rfl) 400 [.no, .lit 0, .sym, .call [(1000, 1000), (1001, 1001), (1002, 1002), (1003, 1003), (1004, 1004)] [] 1005 (.tuple ⟨[]⟩) (Snd.H 1000 1001 1002 1003 1004 (mBit ({ s with sample := ({ s.sample with timer := (IntKind.u16.wrap ((ratesT (Int.toNat (bAnd .u8 (s.sample.reg 0) 15))) - 1)) } : Smp) } : Snd))), .yes] (J c1 (J (Eq.refl (0 : Int)) (J (by decide : 0 < 4) (J (rng_and_lit_u8 (n := 16) (m := 15) (s.sample.reg 0) (by decide)) (J (toNat_lt (rng_and_lit_u8 (n := 16) (m := 15) (s.sample.reg 0) (by decide))) (J (mBit_ok ({ s with sample := ({ s.sample with timer := (IntKind.u16.wrap ((ratesT (Int.toNat (bAnd .u8 (s.sample.reg 0) 15))) - 1)) } : Smp) } : Snd)) (J c2 trivial))))))) (by kernel_rfl)
theorem mClock_p3 (s : Snd) (c1 : (decide ((s.sample.timer : Int) > 0)) = false) (c2 : (decide (((IntKind.u8.wrap (((mBit ({ s with sample := ({ s.sample with timer := (IntKind.u16.wrap ((ratesT (Int.toNat (bAnd .u8 (s.sample.reg 0) 15))) - 1)) } : Smp) } : Snd)).sample).bits - 1)) : Int) > 0)) = false) (c3 : ((mBit ({ s with sample := ({ s.sample with timer := (IntKind.u16.wrap ((ratesT (Int.toNat (bAnd .u8 (s.sample.reg 0) 15))) - 1)) } : Smp) } : Snd)).sample).waits = true) : FnSpec Tryd.prog 37 1005 [.pointer (some ⟨1000, 4, none⟩)] ([tb2] ++ (Snd.H 1000 1001 1002 1003 1004 s)) (.tuple ⟨[]⟩) (Snd.H 1000 1001 1002 1003 1004 ({ (mBit ({ s with sample := ({ s.sample with timer := (IntKind.u16.wrap ((ratesT (Int.toNat (bAnd .u8 (s.sample.reg 0) 15))) - 1)) } : Smp) } : Snd)) with sample := ({ ((mBit ({ s with sample := ({ s.sample with timer := (IntKind.u16.wrap ((ratesT (Int.toNat (bAnd .u8 (s.sample.reg 0) 15))) - 1)) } : Smp) } : Snd)).sample) with waits := false, row := ((mBit ({ s with sample := ({ s.sample with timer := (IntKind.u16.wrap ((ratesT (Int.toNat (bAnd .u8 (s.sample.reg 0) 15))) - 1)) } : Smp) } : Snd)).sample).next, bits := 8, speaks := ((mBit ({ s with sample := ({ s.sample with timer := (IntKind.u16.wrap ((ratesT (Int.toNat (bAnd .u8 (s.sample.reg 0) 15))) - 1)) } : Smp) } : Snd)).sample).waits } : Smp) } : Snd)) := by
  exact fn_of_x hG hM Tryd.func37 (by kernel_rfl) (by kernel_rfl) 400 [.no, .lit 0, .sym, .call [(1000, 1000), (1001, 1001), (1002, 1002), (1003, 1003), (1004, 1004)] [] 1005 (.tuple ⟨[]⟩) (Snd.H 1000 1001 1002 1003 1004 (mBit ({ s with sample := ({ s.sample with timer := (IntKind.u16.wrap ((ratesT (Int.toNat (bAnd .u8 (s.sample.reg 0) 15))) - 1)) } : Smp) } : Snd))), .no, .yes] (J c1 (J (Eq.refl (0 : Int)) (J (by decide : 0 < 4) (J (rng_and_lit_u8 (n := 16) (m := 15) (s.sample.reg 0) (by decide)) (J (toNat_lt (rng_and_lit_u8 (n := 16) (m := 15) (s.sample.reg 0) (by decide))) (J (mBit_ok ({ s with sample := ({ s.sample with timer := (IntKind.u16.wrap ((ratesT (Int.toNat (bAnd .u8 (s.sample.reg 0) 15))) - 1)) } : Smp) } : Snd)) (J c2 (J c3 trivial)))))))) (by kernel_rfl)
theorem mClock_p4 (s : Snd) (c1 : (decide ((s.sample.timer : Int) > 0)) = false) (c2 : (decide (((IntKind.u8.wrap (((mBit ({ s with sample := ({ s.sample with timer := (IntKind.u16.wrap ((ratesT (Int.toNat (bAnd .u8 (s.sample.reg 0) 15))) - 1)) } : Smp) } : Snd)).sample).bits - 1)) : Int) > 0)) = false) (c3 : ((mBit ({ s with sample := ({ s.sample with timer := (IntKind.u16.wrap ((ratesT (Int.toNat (bAnd .u8 (s.sample.reg 0) 15))) - 1)) } : Smp) } : Snd)).sample).waits = false) : FnSpec Tryd.prog 37 1005 [.pointer (some ⟨1000, 4, none⟩)] ([tb2] ++ (Snd.H 1000 1001 1002 1003 1004 s)) (.tuple ⟨[]⟩) (Snd.H 1000 1001 1002 1003 1004 ({ (mBit ({ s with sample := ({ s.sample with timer := (IntKind.u16.wrap ((ratesT (Int.toNat (bAnd .u8 (s.sample.reg 0) 15))) - 1)) } : Smp) } : Snd)) with sample := ({ ((mBit ({ s with sample := ({ s.sample with timer := (IntKind.u16.wrap ((ratesT (Int.toNat (bAnd .u8 (s.sample.reg 0) 15))) - 1)) } : Smp) } : Snd)).sample) with bits := 8, speaks := ((mBit ({ s with sample := ({ s.sample with timer := (IntKind.u16.wrap ((ratesT (Int.toNat (bAnd .u8 (s.sample.reg 0) 15))) - 1)) } : Smp) } : Snd)).sample).waits } : Smp) } : Snd)) := by
  exact fn_of_x hG hM Tryd.func37 (by kernel_rfl) (by kernel_rfl) 400 [.no, .lit 0, .sym, .call [(1000, 1000), (1001, 1001), (1002, 1002), (1003, 1003), (1004, 1004)] [] 1005 (.tuple ⟨[]⟩) (Snd.H 1000 1001 1002 1003 1004 (mBit ({ s with sample := ({ s.sample with timer := (IntKind.u16.wrap ((ratesT (Int.toNat (bAnd .u8 (s.sample.reg 0) 15))) - 1)) } : Smp) } : Snd))), .no, .no] (J c1 (J (Eq.refl (0 : Int)) (J (by decide : 0 < 4) (J (rng_and_lit_u8 (n := 16) (m := 15) (s.sample.reg 0) (by decide)) (J (toNat_lt (rng_and_lit_u8 (n := 16) (m := 15) (s.sample.reg 0) (by decide))) (J (mBit_ok ({ s with sample := ({ s.sample with timer := (IntKind.u16.wrap ((ratesT (Int.toNat (bAnd .u8 (s.sample.reg 0) 15))) - 1)) } : Smp) } : Snd)) (J c2 (J c3 trivial)))))))) (by kernel_rfl)
theorem mClock_ok (s : Snd) : FnSpec Tryd.prog 37 1005 [.pointer (some ⟨1000, 4, none⟩)] ([tb2] ++ (Snd.H 1000 1001 1002 1003 1004 s)) (.tuple ⟨[]⟩) (Snd.H 1000 1001 1002 1003 1004 (mClock s)) := by
  rcases bt (decide ((s.sample.timer : Int) > 0)) with c1 | c1
  ·
    rw [mClock, if_pos c1]
    exact mClock_p1 s c1
  ·
    rcases bt (decide (((IntKind.u8.wrap (((mBit ({ s with sample := ({ s.sample with timer := (IntKind.u16.wrap ((ratesT (Int.toNat (bAnd .u8 (s.sample.reg 0) 15))) - 1)) } : Smp) } : Snd)).sample).bits - 1)) : Int) > 0)) with c2 | c2
    ·
      rw [mClock, if_neg (nt c1), if_pos c2]
      exact mClock_p2 s c1 c2
    ·
      rcases bt (((mBit ({ s with sample := ({ s.sample with timer := (IntKind.u16.wrap ((ratesT (Int.toNat (bAnd .u8 (s.sample.reg 0) 15))) - 1)) } : Smp) } : Snd)).sample).waits) with c3 | c3
      ·
        rw [mClock, if_neg (nt c1), if_neg (nt c2), if_pos c3]
        exact mClock_p3 s c1 c2 c3
      ·
        rw [mClock, if_neg (nt c1), if_neg (nt c2), if_neg (nt c3)]
        exact mClock_p4 s c1 c2 c3

theorem mClock_w (s : Snd) (w_s : Snd.ok s) : Snd.ok (mClock s) := by
  rcases bt (decide ((s.sample.timer : Int) > 0)) with c1 | c1
  ·
    rw [mClock, if_pos c1]
    exact (⟨w_s.tones_0, w_s.tones_1, w_s.tones_2, w_s.tones_3, (⟨w_s.sample.reg, w_s.sample.level, w_s.sample.next, w_s.sample.row, w_s.sample.bits, (rng_wrap_u16 (s.sample.timer - 1)), w_s.sample.at_⟩ : Smp.ok ({ s.sample with timer := (IntKind.u16.wrap (s.sample.timer - 1)) } : Smp))⟩ : Snd.ok ({ s with sample := ({ s.sample with timer := (IntKind.u16.wrap (s.sample.timer - 1)) } : Smp) } : Snd))
  ·
    rcases bt (decide (((IntKind.u8.wrap (((mBit ({ s with sample := ({ s.sample with timer := (IntKind.u16.wrap ((ratesT (Int.toNat (bAnd .u8 (s.sample.reg 0) 15))) - 1)) } : Smp) } : Snd)).sample).bits - 1)) : Int) > 0)) with c2 | c2
    ·
      rw [mClock, if_neg (nt c1), if_pos c2]
      exact (⟨(mBit_w ({ s with sample := ({ s.sample with timer := (IntKind.u16.wrap ((ratesT (Int.toNat (bAnd .u8 (s.sample.reg 0) 15))) - 1)) } : Smp) } : Snd) (⟨w_s.tones_0, w_s.tones_1, w_s.tones_2, w_s.tones_3, (⟨w_s.sample.reg, w_s.sample.level, w_s.sample.next, w_s.sample.row, w_s.sample.bits, (rng_wrap_u16 ((ratesT (Int.toNat (bAnd .u8 (s.sample.reg 0) 15))) - 1)), w_s.sample.at_⟩ : Smp.ok ({ s.sample with timer := (IntKind.u16.wrap ((ratesT (Int.toNat (bAnd .u8 (s.sample.reg 0) 15))) - 1)) } : Smp))⟩ : Snd.ok ({ s with sample := ({ s.sample with timer := (IntKind.u16.wrap ((ratesT (Int.toNat (bAnd .u8 (s.sample.reg 0) 15))) - 1)) } : Smp) } : Snd))).tones_0, (mBit_w ({ s with sample := ({ s.sample with timer := (IntKind.u16.wrap ((ratesT (Int.toNat (bAnd .u8 (s.sample.reg 0) 15))) - 1)) } : Smp) } : Snd) (⟨w_s.tones_0, w_s.tones_1, w_s.tones_2, w_s.tones_3, (⟨w_s.sample.reg, w_s.sample.level, w_s.sample.next, w_s.sample.row, w_s.sample.bits, (rng_wrap_u16 ((ratesT (Int.toNat (bAnd .u8 (s.sample.reg 0) 15))) - 1)), w_s.sample.at_⟩ : Smp.ok ({ s.sample with timer := (IntKind.u16.wrap ((ratesT (Int.toNat (bAnd .u8 (s.sample.reg 0) 15))) - 1)) } : Smp))⟩ : Snd.ok ({ s with sample := ({ s.sample with timer := (IntKind.u16.wrap ((ratesT (Int.toNat (bAnd .u8 (s.sample.reg 0) 15))) - 1)) } : Smp) } : Snd))).tones_1, (mBit_w ({ s with sample := ({ s.sample with timer := (IntKind.u16.wrap ((ratesT (Int.toNat (bAnd .u8 (s.sample.reg 0) 15))) - 1)) } : Smp) } : Snd) (⟨w_s.tones_0, w_s.tones_1, w_s.tones_2, w_s.tones_3, (⟨w_s.sample.reg, w_s.sample.level, w_s.sample.next, w_s.sample.row, w_s.sample.bits, (rng_wrap_u16 ((ratesT (Int.toNat (bAnd .u8 (s.sample.reg 0) 15))) - 1)), w_s.sample.at_⟩ : Smp.ok ({ s.sample with timer := (IntKind.u16.wrap ((ratesT (Int.toNat (bAnd .u8 (s.sample.reg 0) 15))) - 1)) } : Smp))⟩ : Snd.ok ({ s with sample := ({ s.sample with timer := (IntKind.u16.wrap ((ratesT (Int.toNat (bAnd .u8 (s.sample.reg 0) 15))) - 1)) } : Smp) } : Snd))).tones_2, (mBit_w ({ s with sample := ({ s.sample with timer := (IntKind.u16.wrap ((ratesT (Int.toNat (bAnd .u8 (s.sample.reg 0) 15))) - 1)) } : Smp) } : Snd) (⟨w_s.tones_0, w_s.tones_1, w_s.tones_2, w_s.tones_3, (⟨w_s.sample.reg, w_s.sample.level, w_s.sample.next, w_s.sample.row, w_s.sample.bits, (rng_wrap_u16 ((ratesT (Int.toNat (bAnd .u8 (s.sample.reg 0) 15))) - 1)), w_s.sample.at_⟩ : Smp.ok ({ s.sample with timer := (IntKind.u16.wrap ((ratesT (Int.toNat (bAnd .u8 (s.sample.reg 0) 15))) - 1)) } : Smp))⟩ : Snd.ok ({ s with sample := ({ s.sample with timer := (IntKind.u16.wrap ((ratesT (Int.toNat (bAnd .u8 (s.sample.reg 0) 15))) - 1)) } : Smp) } : Snd))).tones_3, (⟨((mBit_w ({ s with sample := ({ s.sample with timer := (IntKind.u16.wrap ((ratesT (Int.toNat (bAnd .u8 (s.sample.reg 0) 15))) - 1)) } : Smp) } : Snd) (⟨w_s.tones_0, w_s.tones_1, w_s.tones_2, w_s.tones_3, (⟨w_s.sample.reg, w_s.sample.level, w_s.sample.next, w_s.sample.row, w_s.sample.bits, (rng_wrap_u16 ((ratesT (Int.toNat (bAnd .u8 (s.sample.reg 0) 15))) - 1)), w_s.sample.at_⟩ : Smp.ok ({ s.sample with timer := (IntKind.u16.wrap ((ratesT (Int.toNat (bAnd .u8 (s.sample.reg 0) 15))) - 1)) } : Smp))⟩ : Snd.ok ({ s with sample := ({ s.sample with timer := (IntKind.u16.wrap ((ratesT (Int.toNat (bAnd .u8 (s.sample.reg 0) 15))) - 1)) } : Smp) } : Snd))).sample).reg, ((mBit_w ({ s with sample := ({ s.sample with timer := (IntKind.u16.wrap ((ratesT (Int.toNat (bAnd .u8 (s.sample.reg 0) 15))) - 1)) } : Smp) } : Snd) (⟨w_s.tones_0, w_s.tones_1, w_s.tones_2, w_s.tones_3, (⟨w_s.sample.reg, w_s.sample.level, w_s.sample.next, w_s.sample.row, w_s.sample.bits, (rng_wrap_u16 ((ratesT (Int.toNat (bAnd .u8 (s.sample.reg 0) 15))) - 1)), w_s.sample.at_⟩ : Smp.ok ({ s.sample with timer := (IntKind.u16.wrap ((ratesT (Int.toNat (bAnd .u8 (s.sample.reg 0) 15))) - 1)) } : Smp))⟩ : Snd.ok ({ s with sample := ({ s.sample with timer := (IntKind.u16.wrap ((ratesT (Int.toNat (bAnd .u8 (s.sample.reg 0) 15))) - 1)) } : Smp) } : Snd))).sample).level, ((mBit_w ({ s with sample := ({ s.sample with timer := (IntKind.u16.wrap ((ratesT (Int.toNat (bAnd .u8 (s.sample.reg 0) 15))) - 1)) } : Smp) } : Snd) (⟨w_s.tones_0, w_s.tones_1, w_s.tones_2, w_s.tones_3, (⟨w_s.sample.reg, w_s.sample.level, w_s.sample.next, w_s.sample.row, w_s.sample.bits, (rng_wrap_u16 ((ratesT (Int.toNat (bAnd .u8 (s.sample.reg 0) 15))) - 1)), w_s.sample.at_⟩ : Smp.ok ({ s.sample with timer := (IntKind.u16.wrap ((ratesT (Int.toNat (bAnd .u8 (s.sample.reg 0) 15))) - 1)) } : Smp))⟩ : Snd.ok ({ s with sample := ({ s.sample with timer := (IntKind.u16.wrap ((ratesT (Int.toNat (bAnd .u8 (s.sample.reg 0) 15))) - 1)) } : Smp) } : Snd))).sample).next, ((mBit_w ({ s with sample := ({ s.sample with timer := (IntKind.u16.wrap ((ratesT (Int.toNat (bAnd .u8 (s.sample.reg 0) 15))) - 1)) } : Smp) } : Snd) (⟨w_s.tones_0, w_s.tones_1, w_s.tones_2, w_s.tones_3, (⟨w_s.sample.reg, w_s.sample.level, w_s.sample.next, w_s.sample.row, w_s.sample.bits, (rng_wrap_u16 ((ratesT (Int.toNat (bAnd .u8 (s.sample.reg 0) 15))) - 1)), w_s.sample.at_⟩ : Smp.ok ({ s.sample with timer := (IntKind.u16.wrap ((ratesT (Int.toNat (bAnd .u8 (s.sample.reg 0) 15))) - 1)) } : Smp))⟩ : Snd.ok ({ s with sample := ({ s.sample with timer := (IntKind.u16.wrap ((ratesT (Int.toNat (bAnd .u8 (s.sample.reg 0) 15))) - 1)) } : Smp) } : Snd))).sample).row, (rng_wrap_u8 (((mBit ({ s with sample := ({ s.sample with timer := (IntKind.u16.wrap ((ratesT (Int.toNat (bAnd .u8 (s.sample.reg 0) 15))) - 1)) } : Smp) } : Snd)).sample).bits - 1)), ((mBit_w ({ s with sample := ({ s.sample with timer := (IntKind.u16.wrap ((ratesT (Int.toNat (bAnd .u8 (s.sample.reg 0) 15))) - 1)) } : Smp) } : Snd) (⟨w_s.tones_0, w_s.tones_1, w_s.tones_2, w_s.tones_3, (⟨w_s.sample.reg, w_s.sample.level, w_s.sample.next, w_s.sample.row, w_s.sample.bits, (rng_wrap_u16 ((ratesT (Int.toNat (bAnd .u8 (s.sample.reg 0) 15))) - 1)), w_s.sample.at_⟩ : Smp.ok ({ s.sample with timer := (IntKind.u16.wrap ((ratesT (Int.toNat (bAnd .u8 (s.sample.reg 0) 15))) - 1)) } : Smp))⟩ : Snd.ok ({ s with sample := ({ s.sample with timer := (IntKind.u16.wrap ((ratesT (Int.toNat (bAnd .u8 (s.sample.reg 0) 15))) - 1)) } : Smp) } : Snd))).sample).timer, ((mBit_w ({ s with sample := ({ s.sample with timer := (IntKind.u16.wrap ((ratesT (Int.toNat (bAnd .u8 (s.sample.reg 0) 15))) - 1)) } : Smp) } : Snd) (⟨w_s.tones_0, w_s.tones_1, w_s.tones_2, w_s.tones_3, (⟨w_s.sample.reg, w_s.sample.level, w_s.sample.next, w_s.sample.row, w_s.sample.bits, (rng_wrap_u16 ((ratesT (Int.toNat (bAnd .u8 (s.sample.reg 0) 15))) - 1)), w_s.sample.at_⟩ : Smp.ok ({ s.sample with timer := (IntKind.u16.wrap ((ratesT (Int.toNat (bAnd .u8 (s.sample.reg 0) 15))) - 1)) } : Smp))⟩ : Snd.ok ({ s with sample := ({ s.sample with timer := (IntKind.u16.wrap ((ratesT (Int.toNat (bAnd .u8 (s.sample.reg 0) 15))) - 1)) } : Smp) } : Snd))).sample).at_⟩ : Smp.ok ({ ((mBit ({ s with sample := ({ s.sample with timer := (IntKind.u16.wrap ((ratesT (Int.toNat (bAnd .u8 (s.sample.reg 0) 15))) - 1)) } : Smp) } : Snd)).sample) with bits := (IntKind.u8.wrap (((mBit ({ s with sample := ({ s.sample with timer := (IntKind.u16.wrap ((ratesT (Int.toNat (bAnd .u8 (s.sample.reg 0) 15))) - 1)) } : Smp) } : Snd)).sample).bits - 1)) } : Smp))⟩ : Snd.ok ({ (mBit ({ s with sample := ({ s.sample with timer := (IntKind.u16.wrap ((ratesT (Int.toNat (bAnd .u8 (s.sample.reg 0) 15))) - 1)) } : Smp) } : Snd)) with sample := ({ ((mBit ({ s with sample := ({ s.sample with timer := (IntKind.u16.wrap ((ratesT (Int.toNat (bAnd .u8 (s.sample.reg 0) 15))) - 1)) } : Smp) } : Snd)).sample) with bits := (IntKind.u8.wrap (((mBit ({ s with sample := ({ s.sample with timer := (IntKind.u16.wrap ((ratesT (Int.toNat (bAnd .u8 (s.sample.reg 0) 15))) - 1)) } : Smp) } : Snd)).sample).bits - 1)) } : Smp) } : Snd))
    ·
      rcases bt (((mBit ({ s with sample := ({ s.sample with timer := (IntKind.u16.wrap ((ratesT (Int.toNat (bAnd .u8 (s.sample.reg 0) 15))) - 1)) } : Smp) } : Snd)).sample).waits) with c3 | c3
      ·
        rw [mClock, if_neg (nt c1), if_neg (nt c2), if_pos c3]
        exact (⟨(mBit_w ({ s with sample := ({ s.sample with timer := (IntKind.u16.wrap ((ratesT (Int.toNat (bAnd .u8 (s.sample.reg 0) 15))) - 1)) } : Smp) } : Snd) (⟨w_s.tones_0, w_s.tones_1, w_s.tones_2, w_s.tones_3, (⟨w_s.sample.reg, w_s.sample.level, w_s.sample.next, w_s.sample.row, w_s.sample.bits, (rng_wrap_u16 ((ratesT (Int.toNat (bAnd .u8 (s.sample.reg 0) 15))) - 1)), w_s.sample.at_⟩ : Smp.ok ({ s.sample with timer := (IntKind.u16.wrap ((ratesT (Int.toNat (bAnd .u8 (s.sample.reg 0) 15))) - 1)) } : Smp))⟩ : Snd.ok ({ s with sample := ({ s.sample with timer := (IntKind.u16.wrap ((ratesT (Int.toNat (bAnd .u8 (s.sample.reg 0) 15))) - 1)) } : Smp) } : Snd))).tones_0, (mBit_w ({ s with sample := ({ s.sample with timer := (IntKind.u16.wrap ((ratesT (Int.toNat (bAnd .u8 (s.sample.reg 0) 15))) - 1)) } : Smp) } : Snd) (⟨w_s.tones_0, w_s.tones_1, w_s.tones_2, w_s.tones_3, (⟨w_s.sample.reg, w_s.sample.level, w_s.sample.next, w_s.sample.row, w_s.sample.bits, (rng_wrap_u16 ((ratesT (Int.toNat (bAnd .u8 (s.sample.reg 0) 15))) - 1)), w_s.sample.at_⟩ : Smp.ok ({ s.sample with timer := (IntKind.u16.wrap ((ratesT (Int.toNat (bAnd .u8 (s.sample.reg 0) 15))) - 1)) } : Smp))⟩ : Snd.ok ({ s with sample := ({ s.sample with timer := (IntKind.u16.wrap ((ratesT (Int.toNat (bAnd .u8 (s.sample.reg 0) 15))) - 1)) } : Smp) } : Snd))).tones_1, (mBit_w ({ s with sample := ({ s.sample with timer := (IntKind.u16.wrap ((ratesT (Int.toNat (bAnd .u8 (s.sample.reg 0) 15))) - 1)) } : Smp) } : Snd) (⟨w_s.tones_0, w_s.tones_1, w_s.tones_2, w_s.tones_3, (⟨w_s.sample.reg, w_s.sample.level, w_s.sample.next, w_s.sample.row, w_s.sample.bits, (rng_wrap_u16 ((ratesT (Int.toNat (bAnd .u8 (s.sample.reg 0) 15))) - 1)), w_s.sample.at_⟩ : Smp.ok ({ s.sample with timer := (IntKind.u16.wrap ((ratesT (Int.toNat (bAnd .u8 (s.sample.reg 0) 15))) - 1)) } : Smp))⟩ : Snd.ok ({ s with sample := ({ s.sample with timer := (IntKind.u16.wrap ((ratesT (Int.toNat (bAnd .u8 (s.sample.reg 0) 15))) - 1)) } : Smp) } : Snd))).tones_2, (mBit_w ({ s with sample := ({ s.sample with timer := (IntKind.u16.wrap ((ratesT (Int.toNat (bAnd .u8 (s.sample.reg 0) 15))) - 1)) } : Smp) } : Snd) (⟨w_s.tones_0, w_s.tones_1, w_s.tones_2, w_s.tones_3, (⟨w_s.sample.reg, w_s.sample.level, w_s.sample.next, w_s.sample.row, w_s.sample.bits, (rng_wrap_u16 ((ratesT (Int.toNat (bAnd .u8 (s.sample.reg 0) 15))) - 1)), w_s.sample.at_⟩ : Smp.ok ({ s.sample with timer := (IntKind.u16.wrap ((ratesT (Int.toNat (bAnd .u8 (s.sample.reg 0) 15))) - 1)) } : Smp))⟩ : Snd.ok ({ s with sample := ({ s.sample with timer := (IntKind.u16.wrap ((ratesT (Int.toNat (bAnd .u8 (s.sample.reg 0) 15))) - 1)) } : Smp) } : Snd))).tones_3, (⟨((mBit_w ({ s with sample := ({ s.sample with timer := (IntKind.u16.wrap ((ratesT (Int.toNat (bAnd .u8 (s.sample.reg 0) 15))) - 1)) } : Smp) } : Snd) (⟨w_s.tones_0, w_s.tones_1, w_s.tones_2, w_s.tones_3, (⟨w_s.sample.reg, w_s.sample.level, w_s.sample.next, w_s.sample.row, w_s.sample.bits, (rng_wrap_u16 ((ratesT (Int.toNat (bAnd .u8 (s.sample.reg 0) 15))) - 1)), w_s.sample.at_⟩ : Smp.ok ({ s.sample with timer := (IntKind.u16.wrap ((ratesT (Int.toNat (bAnd .u8 (s.sample.reg 0) 15))) - 1)) } : Smp))⟩ : Snd.ok ({ s with sample := ({ s.sample with timer := (IntKind.u16.wrap ((ratesT (Int.toNat (bAnd .u8 (s.sample.reg 0) 15))) - 1)) } : Smp) } : Snd))).sample).reg, ((mBit_w ({ s with sample := ({ s.sample with timer := (IntKind.u16.wrap ((ratesT (Int.toNat (bAnd .u8 (s.sample.reg 0) 15))) - 1)) } : Smp) } : Snd) (⟨w_s.tones_0, w_s.tones_1, w_s.tones_2, w_s.tones_3, (⟨w_s.sample.reg, w_s.sample.level, w_s.sample.next, w_s.sample.row, w_s.sample.bits, (rng_wrap_u16 ((ratesT (Int.toNat (bAnd .u8 (s.sample.reg 0) 15))) - 1)), w_s.sample.at_⟩ : Smp.ok ({ s.sample with timer := (IntKind.u16.wrap ((ratesT (Int.toNat (bAnd .u8 (s.sample.reg 0) 15))) - 1)) } : Smp))⟩ : Snd.ok ({ s with sample := ({ s.sample with timer := (IntKind.u16.wrap ((ratesT (Int.toNat (bAnd .u8 (s.sample.reg 0) 15))) - 1)) } : Smp) } : Snd))).sample).level, ((mBit_w ({ s with sample := ({ s.sample with timer := (IntKind.u16.wrap ((ratesT (Int.toNat (bAnd .u8 (s.sample.reg 0) 15))) - 1)) } : Smp) } : Snd) (⟨w_s.tones_0, w_s.tones_1, w_s.tones_2, w_s.tones_3, (⟨w_s.sample.reg, w_s.sample.level, w_s.sample.next, w_s.sample.row, w_s.sample.bits, (rng_wrap_u16 ((ratesT (Int.toNat (bAnd .u8 (s.sample.reg 0) 15))) - 1)), w_s.sample.at_⟩ : Smp.ok ({ s.sample with timer := (IntKind.u16.wrap ((ratesT (Int.toNat (bAnd .u8 (s.sample.reg 0) 15))) - 1)) } : Smp))⟩ : Snd.ok ({ s with sample := ({ s.sample with timer := (IntKind.u16.wrap ((ratesT (Int.toNat (bAnd .u8 (s.sample.reg 0) 15))) - 1)) } : Smp) } : Snd))).sample).next, ((mBit_w ({ s with sample := ({ s.sample with timer := (IntKind.u16.wrap ((ratesT (Int.toNat (bAnd .u8 (s.sample.reg 0) 15))) - 1)) } : Smp) } : Snd) (⟨w_s.tones_0, w_s.tones_1, w_s.tones_2, w_s.tones_3, (⟨w_s.sample.reg, w_s.sample.level, w_s.sample.next, w_s.sample.row, w_s.sample.bits, (rng_wrap_u16 ((ratesT (Int.toNat (bAnd .u8 (s.sample.reg 0) 15))) - 1)), w_s.sample.at_⟩ : Smp.ok ({ s.sample with timer := (IntKind.u16.wrap ((ratesT (Int.toNat (bAnd .u8 (s.sample.reg 0) 15))) - 1)) } : Smp))⟩ : Snd.ok ({ s with sample := ({ s.sample with timer := (IntKind.u16.wrap ((ratesT (Int.toNat (bAnd .u8 (s.sample.reg 0) 15))) - 1)) } : Smp) } : Snd))).sample).next, (by decide : rng 256 8), ((mBit_w ({ s with sample := ({ s.sample with timer := (IntKind.u16.wrap ((ratesT (Int.toNat (bAnd .u8 (s.sample.reg 0) 15))) - 1)) } : Smp) } : Snd) (⟨w_s.tones_0, w_s.tones_1, w_s.tones_2, w_s.tones_3, (⟨w_s.sample.reg, w_s.sample.level, w_s.sample.next, w_s.sample.row, w_s.sample.bits, (rng_wrap_u16 ((ratesT (Int.toNat (bAnd .u8 (s.sample.reg 0) 15))) - 1)), w_s.sample.at_⟩ : Smp.ok ({ s.sample with timer := (IntKind.u16.wrap ((ratesT (Int.toNat (bAnd .u8 (s.sample.reg 0) 15))) - 1)) } : Smp))⟩ : Snd.ok ({ s with sample := ({ s.sample with timer := (IntKind.u16.wrap ((ratesT (Int.toNat (bAnd .u8 (s.sample.reg 0) 15))) - 1)) } : Smp) } : Snd))).sample).timer, ((mBit_w ({ s with sample := ({ s.sample with timer := (IntKind.u16.wrap ((ratesT (Int.toNat (bAnd .u8 (s.sample.reg 0) 15))) - 1)) } : Smp) } : Snd) (⟨w_s.tones_0, w_s.tones_1, w_s.tones_2, w_s.tones_3, (⟨w_s.sample.reg, w_s.sample.level, w_s.sample.next, w_s.sample.row, w_s.sample.bits, (rng_wrap_u16 ((ratesT (Int.toNat (bAnd .u8 (s.sample.reg 0) 15))) - 1)), w_s.sample.at_⟩ : Smp.ok ({ s.sample with timer := (IntKind.u16.wrap ((ratesT (Int.toNat (bAnd .u8 (s.sample.reg 0) 15))) - 1)) } : Smp))⟩ : Snd.ok ({ s with sample := ({ s.sample with timer := (IntKind.u16.wrap ((ratesT (Int.toNat (bAnd .u8 (s.sample.reg 0) 15))) - 1)) } : Smp) } : Snd))).sample).at_⟩ : Smp.ok ({ ((mBit ({ s with sample := ({ s.sample with timer := (IntKind.u16.wrap ((ratesT (Int.toNat (bAnd .u8 (s.sample.reg 0) 15))) - 1)) } : Smp) } : Snd)).sample) with waits := false, row := ((mBit ({ s with sample := ({ s.sample with timer := (IntKind.u16.wrap ((ratesT (Int.toNat (bAnd .u8 (s.sample.reg 0) 15))) - 1)) } : Smp) } : Snd)).sample).next, bits := 8, speaks := ((mBit ({ s with sample := ({ s.sample with timer := (IntKind.u16.wrap ((ratesT (Int.toNat (bAnd .u8 (s.sample.reg 0) 15))) - 1)) } : Smp) } : Snd)).sample).waits } : Smp))⟩ : Snd.ok ({ (mBit ({ s with sample := ({ s.sample with timer := (IntKind.u16.wrap ((ratesT (Int.toNat (bAnd .u8 (s.sample.reg 0) 15))) - 1)) } : Smp) } : Snd)) with sample := ({ ((mBit ({ s with sample := ({ s.sample with timer := (IntKind.u16.wrap ((ratesT (Int.toNat (bAnd .u8 (s.sample.reg 0) 15))) - 1)) } : Smp) } : Snd)).sample) with waits := false, row := ((mBit ({ s with sample := ({ s.sample with timer := (IntKind.u16.wrap ((ratesT (Int.toNat (bAnd .u8 (s.sample.reg 0) 15))) - 1)) } : Smp) } : Snd)).sample).next, bits := 8, speaks := ((mBit ({ s with sample := ({ s.sample with timer := (IntKind.u16.wrap ((ratesT (Int.toNat (bAnd .u8 (s.sample.reg 0) 15))) - 1)) } : Smp) } : Snd)).sample).waits } : Smp) } : Snd))
      ·
        rw [mClock, if_neg (nt c1), if_neg (nt c2), if_neg (nt c3)]
        exact (⟨(mBit_w ({ s with sample := ({ s.sample with timer := (IntKind.u16.wrap ((ratesT (Int.toNat (bAnd .u8 (s.sample.reg 0) 15))) - 1)) } : Smp) } : Snd) (⟨w_s.tones_0, w_s.tones_1, w_s.tones_2, w_s.tones_3, (⟨w_s.sample.reg, w_s.sample.level, w_s.sample.next, w_s.sample.row, w_s.sample.bits, (rng_wrap_u16 ((ratesT (Int.toNat (bAnd .u8 (s.sample.reg 0) 15))) - 1)), w_s.sample.at_⟩ : Smp.ok ({ s.sample with timer := (IntKind.u16.wrap ((ratesT (Int.toNat (bAnd .u8 (s.sample.reg 0) 15))) - 1)) } : Smp))⟩ : Snd.ok ({ s with sample := ({ s.sample with timer := (IntKind.u16.wrap ((ratesT (Int.toNat (bAnd .u8 (s.sample.reg 0) 15))) - 1)) } : Smp) } : Snd))).tones_0, (mBit_w ({ s with sample := ({ s.sample with timer := (IntKind.u16.wrap ((ratesT (Int.toNat (bAnd .u8 (s.sample.reg 0) 15))) - 1)) } : Smp) } : Snd) (⟨w_s.tones_0, w_s.tones_1, w_s.tones_2, w_s.tones_3, (⟨w_s.sample.reg, w_s.sample.level, w_s.sample.next, w_s.sample.row, w_s.sample.bits, (rng_wrap_u16 ((ratesT (Int.toNat (bAnd .u8 (s.sample.reg 0) 15))) - 1)), w_s.sample.at_⟩ : Smp.ok ({ s.sample with timer := (IntKind.u16.wrap ((ratesT (Int.toNat (bAnd .u8 (s.sample.reg 0) 15))) - 1)) } : Smp))⟩ : Snd.ok ({ s with sample := ({ s.sample with timer := (IntKind.u16.wrap ((ratesT (Int.toNat (bAnd .u8 (s.sample.reg 0) 15))) - 1)) } : Smp) } : Snd))).tones_1, (mBit_w ({ s with sample := ({ s.sample with timer := (IntKind.u16.wrap ((ratesT (Int.toNat (bAnd .u8 (s.sample.reg 0) 15))) - 1)) } : Smp) } : Snd) (⟨w_s.tones_0, w_s.tones_1, w_s.tones_2, w_s.tones_3, (⟨w_s.sample.reg, w_s.sample.level, w_s.sample.next, w_s.sample.row, w_s.sample.bits, (rng_wrap_u16 ((ratesT (Int.toNat (bAnd .u8 (s.sample.reg 0) 15))) - 1)), w_s.sample.at_⟩ : Smp.ok ({ s.sample with timer := (IntKind.u16.wrap ((ratesT (Int.toNat (bAnd .u8 (s.sample.reg 0) 15))) - 1)) } : Smp))⟩ : Snd.ok ({ s with sample := ({ s.sample with timer := (IntKind.u16.wrap ((ratesT (Int.toNat (bAnd .u8 (s.sample.reg 0) 15))) - 1)) } : Smp) } : Snd))).tones_2, (mBit_w ({ s with sample := ({ s.sample with timer := (IntKind.u16.wrap ((ratesT (Int.toNat (bAnd .u8 (s.sample.reg 0) 15))) - 1)) } : Smp) } : Snd) (⟨w_s.tones_0, w_s.tones_1, w_s.tones_2, w_s.tones_3, (⟨w_s.sample.reg, w_s.sample.level, w_s.sample.next, w_s.sample.row, w_s.sample.bits, (rng_wrap_u16 ((ratesT (Int.toNat (bAnd .u8 (s.sample.reg 0) 15))) - 1)), w_s.sample.at_⟩ : Smp.ok ({ s.sample with timer := (IntKind.u16.wrap ((ratesT (Int.toNat (bAnd .u8 (s.sample.reg 0) 15))) - 1)) } : Smp))⟩ : Snd.ok ({ s with sample := ({ s.sample with timer := (IntKind.u16.wrap ((ratesT (Int.toNat (bAnd .u8 (s.sample.reg 0) 15))) - 1)) } : Smp) } : Snd))).tones_3, (⟨((mBit_w ({ s with sample := ({ s.sample with timer := (IntKind.u16.wrap ((ratesT (Int.toNat (bAnd .u8 (s.sample.reg 0) 15))) - 1)) } : Smp) } : Snd) (⟨w_s.tones_0, w_s.tones_1, w_s.tones_2, w_s.tones_3, (⟨w_s.sample.reg, w_s.sample.level, w_s.sample.next, w_s.sample.row, w_s.sample.bits, (rng_wrap_u16 ((ratesT (Int.toNat (bAnd .u8 (s.sample.reg 0) 15))) - 1)), w_s.sample.at_⟩ : Smp.ok ({ s.sample with timer := (IntKind.u16.wrap ((ratesT (Int.toNat (bAnd .u8 (s.sample.reg 0) 15))) - 1)) } : Smp))⟩ : Snd.ok ({ s with sample := ({ s.sample with timer := (IntKind.u16.wrap ((ratesT (Int.toNat (bAnd .u8 (s.sample.reg 0) 15))) - 1)) } : Smp) } : Snd))).sample).reg, ((mBit_w ({ s with sample := ({ s.sample with timer := (IntKind.u16.wrap ((ratesT (Int.toNat (bAnd .u8 (s.sample.reg 0) 15))) - 1)) } : Smp) } : Snd) (⟨w_s.tones_0, w_s.tones_1, w_s.tones_2, w_s.tones_3, (⟨w_s.sample.reg, w_s.sample.level, w_s.sample.next, w_s.sample.row, w_s.sample.bits, (rng_wrap_u16 ((ratesT (Int.toNat (bAnd .u8 (s.sample.reg 0) 15))) - 1)), w_s.sample.at_⟩ : Smp.ok ({ s.sample with timer := (IntKind.u16.wrap ((ratesT (Int.toNat (bAnd .u8 (s.sample.reg 0) 15))) - 1)) } : Smp))⟩ : Snd.ok ({ s with sample := ({ s.sample with timer := (IntKind.u16.wrap ((ratesT (Int.toNat (bAnd .u8 (s.sample.reg 0) 15))) - 1)) } : Smp) } : Snd))).sample).level, ((mBit_w ({ s with sample := ({ s.sample with timer := (IntKind.u16.wrap ((ratesT (Int.toNat (bAnd .u8 (s.sample.reg 0) 15))) - 1)) } : Smp) } : Snd) (⟨w_s.tones_0, w_s.tones_1, w_s.tones_2, w_s.tones_3, (⟨w_s.sample.reg, w_s.sample.level, w_s.sample.next, w_s.sample.row, w_s.sample.bits, (rng_wrap_u16 ((ratesT (Int.toNat (bAnd .u8 (s.sample.reg 0) 15))) - 1)), w_s.sample.at_⟩ : Smp.ok ({ s.sample with timer := (IntKind.u16.wrap ((ratesT (Int.toNat (bAnd .u8 (s.sample.reg 0) 15))) - 1)) } : Smp))⟩ : Snd.ok ({ s with sample := ({ s.sample with timer := (IntKind.u16.wrap ((ratesT (Int.toNat (bAnd .u8 (s.sample.reg 0) 15))) - 1)) } : Smp) } : Snd))).sample).next, ((mBit_w ({ s with sample := ({ s.sample with timer := (IntKind.u16.wrap ((ratesT (Int.toNat (bAnd .u8 (s.sample.reg 0) 15))) - 1)) } : Smp) } : Snd) (⟨w_s.tones_0, w_s.tones_1, w_s.tones_2, w_s.tones_3, (⟨w_s.sample.reg, w_s.sample.level, w_s.sample.next, w_s.sample.row, w_s.sample.bits, (rng_wrap_u16 ((ratesT (Int.toNat (bAnd .u8 (s.sample.reg 0) 15))) - 1)), w_s.sample.at_⟩ : Smp.ok ({ s.sample with timer := (IntKind.u16.wrap ((ratesT (Int.toNat (bAnd .u8 (s.sample.reg 0) 15))) - 1)) } : Smp))⟩ : Snd.ok ({ s with sample := ({ s.sample with timer := (IntKind.u16.wrap ((ratesT (Int.toNat (bAnd .u8 (s.sample.reg 0) 15))) - 1)) } : Smp) } : Snd))).sample).row, (by decide : rng 256 8), ((mBit_w ({ s with sample := ({ s.sample with timer := (IntKind.u16.wrap ((ratesT (Int.toNat (bAnd .u8 (s.sample.reg 0) 15))) - 1)) } : Smp) } : Snd) (⟨w_s.tones_0, w_s.tones_1, w_s.tones_2, w_s.tones_3, (⟨w_s.sample.reg, w_s.sample.level, w_s.sample.next, w_s.sample.row, w_s.sample.bits, (rng_wrap_u16 ((ratesT (Int.toNat (bAnd .u8 (s.sample.reg 0) 15))) - 1)), w_s.sample.at_⟩ : Smp.ok ({ s.sample with timer := (IntKind.u16.wrap ((ratesT (Int.toNat (bAnd .u8 (s.sample.reg 0) 15))) - 1)) } : Smp))⟩ : Snd.ok ({ s with sample := ({ s.sample with timer := (IntKind.u16.wrap ((ratesT (Int.toNat (bAnd .u8 (s.sample.reg 0) 15))) - 1)) } : Smp) } : Snd))).sample).timer, ((mBit_w ({ s with sample := ({ s.sample with timer := (IntKind.u16.wrap ((ratesT (Int.toNat (bAnd .u8 (s.sample.reg 0) 15))) - 1)) } : Smp) } : Snd) (⟨w_s.tones_0, w_s.tones_1, w_s.tones_2, w_s.tones_3, (⟨w_s.sample.reg, w_s.sample.level, w_s.sample.next, w_s.sample.row, w_s.sample.bits, (rng_wrap_u16 ((ratesT (Int.toNat (bAnd .u8 (s.sample.reg 0) 15))) - 1)), w_s.sample.at_⟩ : Smp.ok ({ s.sample with timer := (IntKind.u16.wrap ((ratesT (Int.toNat (bAnd .u8 (s.sample.reg 0) 15))) - 1)) } : Smp))⟩ : Snd.ok ({ s with sample := ({ s.sample with timer := (IntKind.u16.wrap ((ratesT (Int.toNat (bAnd .u8 (s.sample.reg 0) 15))) - 1)) } : Smp) } : Snd))).sample).at_⟩ : Smp.ok ({ ((mBit ({ s with sample := ({ s.sample with timer := (IntKind.u16.wrap ((ratesT (Int.toNat (bAnd .u8 (s.sample.reg 0) 15))) - 1)) } : Smp) } : Snd)).sample) with bits := 8, speaks := ((mBit ({ s with sample := ({ s.sample with timer := (IntKind.u16.wrap ((ratesT (Int.toNat (bAnd .u8 (s.sample.reg 0) 15))) - 1)) } : Smp) } : Snd)).sample).waits } : Smp))⟩ : Snd.ok ({ (mBit ({ s with sample := ({ s.sample with timer := (IntKind.u16.wrap ((ratesT (Int.toNat (bAnd .u8 (s.sample.reg 0) 15))) - 1)) } : Smp) } : Snd)) with sample := ({ ((mBit ({ s with sample := ({ s.sample with timer := (IntKind.u16.wrap ((ratesT (Int.toNat (bAnd .u8 (s.sample.reg 0) 15))) - 1)) } : Smp) } : Snd)).sample) with bits := 8, speaks := ((mBit ({ s with sample := ({ s.sample with timer := (IntKind.u16.wrap ((ratesT (Int.toNat (bAnd .u8 (s.sample.reg 0) 15))) - 1)) } : Smp) } : Snd)).sample).waits } : Smp) } : Snd))

/-- (*kotatsu/sound.sample).give -/
def mGive (s : Snd) (b : Int) : Snd :=
  if (!(mAsks s)) = true then
    s
  else
    if (((IntKind.u16.wrap (s.sample.at_ + 1)) : Int) == 0) = true then
      if (decide (((IntKind.i64.wrap (s.sample.left - 1)) : Int) > 0)) = true then
        ({ s with sample := ({ s.sample with next := b, waits := true, at_ := 32768, left := (IntKind.i64.wrap (s.sample.left - 1)) } : Smp) } : Snd)
      else
        if (((bAnd .u8 (s.sample.reg 0) 64) : Int) != 0) = true then
          (mBegin ({ s with sample := ({ s.sample with next := b, waits := true, at_ := 32768, left := (IntKind.i64.wrap (s.sample.left - 1)) } : Smp) } : Snd))
        else
          if (((bAnd .u8 (s.sample.reg 0) 128) : Int) != 0) = true then
            ({ s with sample := ({ s.sample with next := b, waits := true, at_ := 32768, left := (IntKind.i64.wrap (s.sample.left - 1)), irq := true } : Smp) } : Snd)
          else
            ({ s with sample := ({ s.sample with next := b, waits := true, at_ := 32768, left := (IntKind.i64.wrap (s.sample.left - 1)) } : Smp) } : Snd)
    else
      if (decide (((IntKind.i64.wrap (s.sample.left - 1)) : Int) > 0)) = true then
        ({ s with sample := ({ s.sample with next := b, waits := true, at_ := (IntKind.u16.wrap (s.sample.at_ + 1)), left := (IntKind.i64.wrap (s.sample.left - 1)) } : Smp) } : Snd)
      else
        if (((bAnd .u8 (s.sample.reg 0) 64) : Int) != 0) = true then
          (mBegin ({ s with sample := ({ s.sample with next := b, waits := true, at_ := (IntKind.u16.wrap (s.sample.at_ + 1)), left := (IntKind.i64.wrap (s.sample.left - 1)) } : Smp) } : Snd))
        else
          if (((bAnd .u8 (s.sample.reg 0) 128) : Int) != 0) = true then
            ({ s with sample := ({ s.sample with next := b, waits := true, at_ := (IntKind.u16.wrap (s.sample.at_ + 1)), left := (IntKind.i64.wrap (s.sample.left - 1)), irq := true } : Smp) } : Snd)
          else
            ({ s with sample := ({ s.sample with next := b, waits := true, at_ := (IntKind.u16.wrap (s.sample.at_ + 1)), left := (IntKind.i64.wrap (s.sample.left - 1)) } : Smp) } : Snd)
theorem mGive_p1 (s : Snd) (b : Int) (c1 : (!(mAsks s)) = true) : FnSpec Tryd.prog 38 1005 [.pointer (some ⟨1000, 4, none⟩), .int .u8 b] (Snd.H 1000 1001 1002 1003 1004 s) (.tuple ⟨[]⟩) (Snd.H 1000 1001 1002 1003 1004 s) := by
  exact fn_of_x hG hM Tryd.func38 (by kernel_rfl) (by kernel_rfl) 400 [.callr [(1000, 1000), (1001, 1001), (1002, 1002), (1003, 1003), (1004, 1004)] [1000, 1001, 1002, 1003, 1004] [] 1005 (.bool (mAsks s)) [], .yes] (J (mAsks_ok s) (J c1 trivial)) (by kernel_rfl)
theorem mGive_p2 (s : Snd) (b : Int) (c1 : (!(mAsks s)) = false) (c2 : (((IntKind.u16.wrap (s.sample.at_ + 1)) : Int) == 0) = true) (c3 : (decide (((IntKind.i64.wrap (s.sample.left - 1)) : Int) > 0)) = true) : FnSpec Tryd.prog 38 1005 [.pointer (some ⟨1000, 4, none⟩), .int .u8 b] (Snd.H 1000 1001 1002 1003 1004 s) (.tuple ⟨[]⟩) (Snd.H 1000 1001 1002 1003 1004 ({ s with sample := ({ s.sample with next := b, waits := true, at_ := 32768, left := (IntKind.i64.wrap (s.sample.left - 1)) } : Smp) } : Snd)) := by
  exact fn_of_x hG hM Tryd.func38 (by kernel_rfl) (by kernel_rfl) 400 [.callr [(1000, 1000), (1001, 1001), (1002, 1002), (1003, 1003), (1004, 1004)] [1000, 1001, 1002, 1003, 1004] [] 1005 (.bool (mAsks s)) [], .no, .yes, .yes] (J (mAsks_ok s) (J c1 (J c2 (J c3 trivial)))) (by kernel_rfl)
theorem mGive_p3 (s : Snd) (b : Int) (c1 : (!(mAsks s)) = false) (c2 : (((IntKind.u16.wrap (s.sample.at_ + 1)) : Int) == 0) = true) (c3 : (decide (((IntKind.i64.wrap (s.sample.left - 1)) : Int) > 0)) = false) (c4 : (((bAnd .u8 (s.sample.reg 0) 64) : Int) != 0) = true) : FnSpec Tryd.prog 38 1005 [.pointer (some ⟨1000, 4, none⟩), .int .u8 b] (Snd.H 1000 1001 1002 1003 1004 s) (.tuple ⟨[]⟩) (Snd.H 1000 1001 1002 1003 1004 (mBegin ({ s with sample := ({ s.sample with next := b, waits := true, at_ := 32768, left := (IntKind.i64.wrap (s.sample.left - 1)) } : Smp) } : Snd))) := by
  exact fn_of_x hG hM Tryd.func38 (by kernel_rfl) (by kernel_rfl) 400 [.callr [(1000, 1000), (1001, 1001), (1002, 1002), (1003, 1003), (1004, 1004)] [1000, 1001, 1002, 1003, 1004] [] 1005 (.bool (mAsks s)) [], .no, .yes, .no, .lit 0, .yes, .call [(1000, 1000), (1001, 1001), (1002, 1002), (1003, 1003), (1004, 1004)] [] 1005 (.tuple ⟨[]⟩) (Snd.H 1000 1001 1002 1003 1004 (mBegin ({ s with sample := ({ s.sample with next := b, waits := true, at_ := 32768, left := (IntKind.i64.wrap (s.sample.left - 1)) } : Smp) } : Snd)))] (J (mAsks_ok s) (J c1 (J c2 (J c3 (J (Eq.refl (0 : Int)) (J (by decide : 0 < 4) (J c4 (J (mBegin_ok ({ s with sample := ({ s.sample with next := b, waits := true, at_ := 32768, left := (IntKind.i64.wrap (s.sample.left - 1)) } : Smp) } : Snd)) trivial)))))))) (by kernel_rfl)
theorem mGive_p4 (s : Snd) (b : Int) (c1 : (!(mAsks s)) = false) (c2 : (((IntKind.u16.wrap (s.sample.at_ + 1)) : Int) == 0) = true) (c3 : (decide (((IntKind.i64.wrap (s.sample.left - 1)) : Int) > 0)) = false) (c4 : (((bAnd .u8 (s.sample.reg 0) 64) : Int) != 0) = false) (c5 : (((bAnd .u8 (s.sample.reg 0) 128) : Int) != 0) = true) : FnSpec Tryd.prog 38 1005 [.pointer (some ⟨1000, 4, none⟩), .int .u8 b] (Snd.H 1000 1001 1002 1003 1004 s) (.tuple ⟨[]⟩) (Snd.H 1000 1001 1002 1003 1004 ({ s with sample := ({ s.sample with next := b, waits := true, at_ := 32768, left := (IntKind.i64.wrap (s.sample.left - 1)), irq := true } : Smp) } : Snd)) := by
  exact fn_of_x hG hM Tryd.func38 (by kernel_rfl) (by kernel_rfl) 400 [.callr [(1000, 1000), (1001, 1001), (1002, 1002), (1003, 1003), (1004, 1004)] [1000, 1001, 1002, 1003, 1004] [] 1005 (.bool (mAsks s)) [], .no, .yes, .no, .lit 0, .no, .lit 0, .yes] (J (mAsks_ok s) (J c1 (J c2 (J c3 (J (Eq.refl (0 : Int)) (J (by decide : 0 < 4) (J c4 (J (Eq.refl (0 : Int)) (J (by decide : 0 < 4) (J c5 trivial)))))))))) (by kernel_rfl)
theorem mGive_p5 (s : Snd) (b : Int) (c1 : (!(mAsks s)) = false) (c2 : (((IntKind.u16.wrap (s.sample.at_ + 1)) : Int) == 0) = true) (c3 : (decide (((IntKind.i64.wrap (s.sample.left - 1)) : Int) > 0)) = false) (c4 : (((bAnd .u8 (s.sample.reg 0) 64) : Int) != 0) = false) (c5 : (((bAnd .u8 (s.sample.reg 0) 128) : Int) != 0) = false) : FnSpec Tryd.prog 38 1005 [.pointer (some ⟨1000, 4, none⟩), .int .u8 b] (Snd.H 1000 1001 1002 1003 1004 s) (.tuple ⟨[]⟩) (Snd.H 1000 1001 1002 1003 1004 ({ s with sample := ({ s.sample with next := b, waits := true, at_ := 32768, left := (IntKind.i64.wrap (s.sample.left - 1)) } : Smp) } : Snd)) := by
  exact fn_of_x hG hM Tryd.func38 (by kernel_rfl) (by kernel_rfl) 400 [.callr [(1000, 1000), (1001, 1001), (1002, 1002), (1003, 1003), (1004, 1004)] [1000, 1001, 1002, 1003, 1004] [] 1005 (.bool (mAsks s)) [], .no, .yes, .no, .lit 0, .no, .lit 0, .no] (J (mAsks_ok s) (J c1 (J c2 (J c3 (J (Eq.refl (0 : Int)) (J (by decide : 0 < 4) (J c4 (J (Eq.refl (0 : Int)) (J (by decide : 0 < 4) (J c5 trivial)))))))))) (by kernel_rfl)
theorem mGive_p6 (s : Snd) (b : Int) (c1 : (!(mAsks s)) = false) (c2 : (((IntKind.u16.wrap (s.sample.at_ + 1)) : Int) == 0) = false) (c3 : (decide (((IntKind.i64.wrap (s.sample.left - 1)) : Int) > 0)) = true) : FnSpec Tryd.prog 38 1005 [.pointer (some ⟨1000, 4, none⟩), .int .u8 b] (Snd.H 1000 1001 1002 1003 1004 s) (.tuple ⟨[]⟩) (Snd.H 1000 1001 1002 1003 1004 ({ s with sample := ({ s.sample with next := b, waits := true, at_ := (IntKind.u16.wrap (s.sample.at_ + 1)), left := (IntKind.i64.wrap (s.sample.left - 1)) } : Smp) } : Snd)) := by
  exact fn_of_x hG hM Tryd.func38 (by kernel_rfl) (by kernel_rfl) 400 [.callr [(1000, 1000), (1001, 1001), (1002, 1002), (1003, 1003), (1004, 1004)] [1000, 1001, 1002, 1003, 1004] [] 1005 (.bool (mAsks s)) [], .no, .no, .yes] (J (mAsks_ok s) (J c1 (J c2 (J c3 trivial)))) (by kernel_rfl)
theorem mGive_p7 (s : Snd) (b : Int) (c1 : (!(mAsks s)) = false) (c2 : (((IntKind.u16.wrap (s.sample.at_ + 1)) : Int) == 0) = false) (c3 : (decide (((IntKind.i64.wrap (s.sample.left - 1)) : Int) > 0)) = false) (c4 : (((bAnd .u8 (s.sample.reg 0) 64) : Int) != 0) = true) : FnSpec Tryd.prog 38 1005 [.pointer (some ⟨1000, 4, none⟩), .int .u8 b] (Snd.H 1000 1001 1002 1003 1004 s) (.tuple ⟨[]⟩) (Snd.H 1000 1001 1002 1003 1004 (mBegin ({ s with sample := ({ s.sample with next := b, waits := true, at_ := (IntKind.u16.wrap (s.sample.at_ + 1)), left := (IntKind.i64.wrap (s.sample.left - 1)) } : Smp) } : Snd))) := by
  exact fn_of_x hG hM Tryd.func38 (by kernel_rfl) (by kernel_rfl) 400 [.callr [(1000, 1000), (1001, 1001), (1002, 1002), (1003, 1003), (1004, 1004)] [1000, 1001, 1002, 1003, 1004] [] 1005 (.bool (mAsks s)) [], .no, .no, .no, .lit 0, .yes, .call [(1000, 1000), (1001, 1001), (1002, 1002), (1003, 1003), (1004, 1004)] [] 1005 (.tuple ⟨[]⟩) (Snd.H 1000 1001 1002 1003 1004 (mBegin ({ s with sample := ({ s.sample with next := b, waits := true, at_ := (IntKind.u16.wrap (s.sample.at_ + 1)), left := (IntKind.i64.wrap (s.sample.left - 1)) } : Smp) } : Snd)))] (J (mAsks_ok s) (J c1 (J c2 (J c3 (J (Eq.refl (0 : Int)) (J (by decide : 0 < 4) (J c4 (J (mBegin_ok ({ s with sample := ({ s.sample with next := b, waits := true, at_ := (IntKind.u16.wrap (s.sample.at_ + 1)), left := (IntKind.i64.wrap (s.sample.left - 1)) } : Smp) } : Snd)) trivial)))))))) (by kernel_rfl)
theorem mGive_p8 (s : Snd) (b : Int) (c1 : (!(mAsks s)) = false) (c2 : (((IntKind.u16.wrap (s.sample.at_ + 1)) : Int) == 0) = false) (c3 : (decide (((IntKind.i64.wrap (s.sample.left - 1)) : Int) > 0)) = false) (c4 : (((bAnd .u8 (s.sample.reg 0) 64) : Int) != 0) = false) (c5 : (((bAnd .u8 (s.sample.reg 0) 128) : Int) != 0) = true) : FnSpec Tryd.prog 38 1005 [.pointer (some ⟨1000, 4, none⟩), .int .u8 b] (Snd.H 1000 1001 1002 1003 1004 s) (.tuple ⟨[]⟩) (Snd.H 1000 1001 1002 1003 1004 ({ s with sample := ({ s.sample with next := b, waits := true, at_ := (IntKind.u16.wrap (s.sample.at_ + 1)), left := (IntKind.i64.wrap (s.sample.left - 1)), irq := true } : Smp) } : Snd)) := by
  exact fn_of_x hG hM Tryd.func38 (by kernel_rfl) (by kernel_rfl) 400 [.callr [(1000, 1000), (1001, 1001), (1002, 1002), (1003, 1003), (1004, 1004)] [1000, 1001, 1002, 1003, 1004] [] 1005 (.bool (mAsks s)) [], .no, .no, .no, .lit 0, .no, .lit 0, .yes] (J (mAsks_ok s) (J c1 (J c2 (J c3 (J (Eq.refl (0 : Int)) (J (by decide : 0 < 4) (J c4 (J (Eq.refl (0 : Int)) (J (by decide : 0 < 4) (J c5 trivial)))))))))) (by kernel_rfl)
theorem mGive_p9 (s : Snd) (b : Int) (c1 : (!(mAsks s)) = false) (c2 : (((IntKind.u16.wrap (s.sample.at_ + 1)) : Int) == 0) = false) (c3 : (decide (((IntKind.i64.wrap (s.sample.left - 1)) : Int) > 0)) = false) (c4 : (((bAnd .u8 (s.sample.reg 0) 64) : Int) != 0) = false) (c5 : (((bAnd .u8 (s.sample.reg 0) 128) : Int) != 0) = false) : FnSpec Tryd.prog 38 1005 [.pointer (some ⟨1000, 4, none⟩), .int .u8 b] (Snd.H 1000 1001 1002 1003 1004 s) (.tuple ⟨[]⟩) (Snd.H 1000 1001 1002 1003 1004 ({ s with sample := ({ s.sample with next := b, waits := true, at_ := (IntKind.u16.wrap (s.sample.at_ + 1)), left := (IntKind.i64.wrap (s.sample.left - 1)) } : Smp) } : Snd)) := by
  exact fn_of_x hG hM Tryd.func38 (by kernel_rfl) (by kernel_rfl) 400 [.callr [(1000, 1000), (1001, 1001), (1002, 1002), (1003, 1003), (1004, 1004)] [1000, 1001, 1002, 1003, 1004] [] 1005 (.bool (mAsks s)) [], .no, .no, .no, .lit 0, .no, .lit 0, .no] (J (mAsks_ok s) (J c1 (J c2 (J c3 (J (Eq.refl (0 : Int)) (J (by decide : 0 < 4) (J c4 (J (Eq.refl (0 : Int)) (J (by decide : 0 < 4) (J c5 trivial)))))))))) (by kernel_rfl)
theorem mGive_ok (s : Snd) (b : Int) : FnSpec Tryd.prog 38 1005 [.pointer (some ⟨1000, 4, none⟩), .int .u8 b] (Snd.H 1000 1001 1002 1003 1004 s) (.tuple ⟨[]⟩) (Snd.H 1000 1001 1002 1003 1004 (mGive s b)) := by
  rcases bt (!(mAsks s)) with c1 | c1
  ·
    rw [mGive, if_pos c1]
    exact mGive_p1 s b c1
  ·
    rcases bt (((IntKind.u16.wrap (s.sample.at_ + 1)) : Int) == 0) with c2 | c2
    ·
      rcases bt (decide (((IntKind.i64.wrap (s.sample.left - 1)) : Int) > 0)) with c3 | c3
      ·
        rw [mGive, if_neg (nt c1), if_pos c2, if_pos c3]
        exact mGive_p2 s b c1 c2 c3
      ·
        rcases bt (((bAnd .u8 (s.sample.reg 0) 64) : Int) != 0) with c4 | c4
        ·
          rw [mGive, if_neg (nt c1), if_pos c2, if_neg (nt c3), if_pos c4]
          exact mGive_p3 s b c1 c2 c3 c4
        ·
          rcases bt (((bAnd .u8 (s.sample.reg 0) 128) : Int) != 0) with c5 | c5
          ·
            rw [mGive, if_neg (nt c1), if_pos c2, if_neg (nt c3), if_neg (nt c4), if_pos c5]
            exact mGive_p4 s b c1 c2 c3 c4 c5
          ·
            rw [mGive, if_neg (nt c1), if_pos c2, if_neg (nt c3), if_neg (nt c4), if_neg (nt c5)]
            exact mGive_p5 s b c1 c2 c3 c4 c5
    ·
      rcases bt (decide (((IntKind.i64.wrap (s.sample.left - 1)) : Int) > 0)) with c3 | c3
      ·
        rw [mGive, if_neg (nt c1), if_neg (nt c2), if_pos c3]
        exact mGive_p6 s b c1 c2 c3
      ·
        rcases bt (((bAnd .u8 (s.sample.reg 0) 64) : Int) != 0) with c4 | c4
        ·
          rw [mGive, if_neg (nt c1), if_neg (nt c2), if_neg (nt c3), if_pos c4]
          exact mGive_p7 s b c1 c2 c3 c4
        ·
          rcases bt (((bAnd .u8 (s.sample.reg 0) 128) : Int) != 0) with c5 | c5
          ·
            rw [mGive, if_neg (nt c1), if_neg (nt c2), if_neg (nt c3), if_neg (nt c4), if_pos c5]
            exact mGive_p8 s b c1 c2 c3 c4 c5
          ·
            rw [mGive, if_neg (nt c1), if_neg (nt c2), if_neg (nt c3), if_neg (nt c4), if_neg (nt c5)]
            exact mGive_p9 s b c1 c2 c3 c4 c5

theorem mGive_w (s : Snd) (b : Int) (w_s : Snd.ok s) (w_b : rng 256 b) : Snd.ok (mGive s b) := by
  rcases bt (!(mAsks s)) with c1 | c1
  ·
    rw [mGive, if_pos c1]
    exact w_s
  ·
    rcases bt (((IntKind.u16.wrap (s.sample.at_ + 1)) : Int) == 0) with c2 | c2
    ·
      rcases bt (decide (((IntKind.i64.wrap (s.sample.left - 1)) : Int) > 0)) with c3 | c3
      ·
        rw [mGive, if_neg (nt c1), if_pos c2, if_pos c3]
        exact (⟨w_s.tones_0, w_s.tones_1, w_s.tones_2, w_s.tones_3, (⟨w_s.sample.reg, w_s.sample.level, w_b, w_s.sample.row, w_s.sample.bits, w_s.sample.timer, (by decide : rng 65536 32768)⟩ : Smp.ok ({ s.sample with next := b, waits := true, at_ := 32768, left := (IntKind.i64.wrap (s.sample.left - 1)) } : Smp))⟩ : Snd.ok ({ s with sample := ({ s.sample with next := b, waits := true, at_ := 32768, left := (IntKind.i64.wrap (s.sample.left - 1)) } : Smp) } : Snd))
      ·
        rcases bt (((bAnd .u8 (s.sample.reg 0) 64) : Int) != 0) with c4 | c4
        ·
          rw [mGive, if_neg (nt c1), if_pos c2, if_neg (nt c3), if_pos c4]
          exact (mBegin_w ({ s with sample := ({ s.sample with next := b, waits := true, at_ := 32768, left := (IntKind.i64.wrap (s.sample.left - 1)) } : Smp) } : Snd) (⟨w_s.tones_0, w_s.tones_1, w_s.tones_2, w_s.tones_3, (⟨w_s.sample.reg, w_s.sample.level, w_b, w_s.sample.row, w_s.sample.bits, w_s.sample.timer, (by decide : rng 65536 32768)⟩ : Smp.ok ({ s.sample with next := b, waits := true, at_ := 32768, left := (IntKind.i64.wrap (s.sample.left - 1)) } : Smp))⟩ : Snd.ok ({ s with sample := ({ s.sample with next := b, waits := true, at_ := 32768, left := (IntKind.i64.wrap (s.sample.left - 1)) } : Smp) } : Snd)))
        ·
          rcases bt (((bAnd .u8 (s.sample.reg 0) 128) : Int) != 0) with c5 | c5
          ·
            rw [mGive, if_neg (nt c1), if_pos c2, if_neg (nt c3), if_neg (nt c4), if_pos c5]
            exact (⟨w_s.tones_0, w_s.tones_1, w_s.tones_2, w_s.tones_3, (⟨w_s.sample.reg, w_s.sample.level, w_b, w_s.sample.row, w_s.sample.bits, w_s.sample.timer, (by decide : rng 65536 32768)⟩ : Smp.ok ({ s.sample with next := b, waits := true, at_ := 32768, left := (IntKind.i64.wrap (s.sample.left - 1)), irq := true } : Smp))⟩ : Snd.ok ({ s with sample := ({ s.sample with next := b, waits := true, at_ := 32768, left := (IntKind.i64.wrap (s.sample.left - 1)), irq := true } : Smp) } : Snd))
          ·
            rw [mGive, if_neg (nt c1), if_pos c2, if_neg (nt c3), if_neg (nt c4), if_neg (nt c5)]
            exact (⟨w_s.tones_0, w_s.tones_1, w_s.tones_2, w_s.tones_3, (⟨w_s.sample.reg, w_s.sample.level, w_b, w_s.sample.row, w_s.sample.bits, w_s.sample.timer, (by decide : rng 65536 32768)⟩ : Smp.ok ({ s.sample with next := b, waits := true, at_ := 32768, left := (IntKind.i64.wrap (s.sample.left - 1)) } : Smp))⟩ : Snd.ok ({ s with sample := ({ s.sample with next := b, waits := true, at_ := 32768, left := (IntKind.i64.wrap (s.sample.left - 1)) } : Smp) } : Snd))
    ·
      rcases bt (decide (((IntKind.i64.wrap (s.sample.left - 1)) : Int) > 0)) with c3 | c3
      ·
        rw [mGive, if_neg (nt c1), if_neg (nt c2), if_pos c3]
        exact (⟨w_s.tones_0, w_s.tones_1, w_s.tones_2, w_s.tones_3, (⟨w_s.sample.reg, w_s.sample.level, w_b, w_s.sample.row, w_s.sample.bits, w_s.sample.timer, (rng_wrap_u16 (s.sample.at_ + 1))⟩ : Smp.ok ({ s.sample with next := b, waits := true, at_ := (IntKind.u16.wrap (s.sample.at_ + 1)), left := (IntKind.i64.wrap (s.sample.left - 1)) } : Smp))⟩ : Snd.ok ({ s with sample := ({ s.sample with next := b, waits := true, at_ := (IntKind.u16.wrap (s.sample.at_ + 1)), left := (IntKind.i64.wrap (s.sample.left - 1)) } : Smp) } : Snd))
      ·
        rcases bt (((bAnd .u8 (s.sample.reg 0) 64) : Int) != 0) with c4 | c4
        ·
          rw [mGive, if_neg (nt c1), if_neg (nt c2), if_neg (nt c3), if_pos c4]
          exact (mBegin_w ({ s with sample := ({ s.sample with next := b, waits := true, at_ := (IntKind.u16.wrap (s.sample.at_ + 1)), left := (IntKind.i64.wrap (s.sample.left - 1)) } : Smp) } : Snd) (⟨w_s.tones_0, w_s.tones_1, w_s.tones_2, w_s.tones_3, (⟨w_s.sample.reg, w_s.sample.level, w_b, w_s.sample.row, w_s.sample.bits, w_s.sample.timer, (rng_wrap_u16 (s.sample.at_ + 1))⟩ : Smp.ok ({ s.sample with next := b, waits := true, at_ := (IntKind.u16.wrap (s.sample.at_ + 1)), left := (IntKind.i64.wrap (s.sample.left - 1)) } : Smp))⟩ : Snd.ok ({ s with sample := ({ s.sample with next := b, waits := true, at_ := (IntKind.u16.wrap (s.sample.at_ + 1)), left := (IntKind.i64.wrap (s.sample.left - 1)) } : Smp) } : Snd)))
        ·
          rcases bt (((bAnd .u8 (s.sample.reg 0) 128) : Int) != 0) with c5 | c5
          ·
            rw [mGive, if_neg (nt c1), if_neg (nt c2), if_neg (nt c3), if_neg (nt c4), if_pos c5]
            exact (⟨w_s.tones_0, w_s.tones_1, w_s.tones_2, w_s.tones_3, (⟨w_s.sample.reg, w_s.sample.level, w_b, w_s.sample.row, w_s.sample.bits, w_s.sample.timer, (rng_wrap_u16 (s.sample.at_ + 1))⟩ : Smp.ok ({ s.sample with next := b, waits := true, at_ := (IntKind.u16.wrap (s.sample.at_ + 1)), left := (IntKind.i64.wrap (s.sample.left - 1)), irq := true } : Smp))⟩ : Snd.ok ({ s with sample := ({ s.sample with next := b, waits := true, at_ := (IntKind.u16.wrap (s.sample.at_ + 1)), left := (IntKind.i64.wrap (s.sample.left - 1)), irq := true } : Smp) } : Snd))
          ·
            rw [mGive, if_neg (nt c1), if_neg (nt c2), if_neg (nt c3), if_neg (nt c4), if_neg (nt c5)]
            exact (⟨w_s.tones_0, w_s.tones_1, w_s.tones_2, w_s.tones_3, (⟨w_s.sample.reg, w_s.sample.level, w_b, w_s.sample.row, w_s.sample.bits, w_s.sample.timer, (rng_wrap_u16 (s.sample.at_ + 1))⟩ : Smp.ok ({ s.sample with next := b, waits := true, at_ := (IntKind.u16.wrap (s.sample.at_ + 1)), left := (IntKind.i64.wrap (s.sample.left - 1)) } : Smp))⟩ : Snd.ok ({ s with sample := ({ s.sample with next := b, waits := true, at_ := (IntKind.u16.wrap (s.sample.at_ + 1)), left := (IntKind.i64.wrap (s.sample.left - 1)) } : Smp) } : Snd))

/-- (*kotatsu/sound.sample).enable -/
def mEnable (s : Snd) (on : Bool) : Snd :=
  if (!on) = true then
    ({ s with sample := ({ s.sample with left := 0, irq := false } : Smp) } : Snd)
  else
    if ((s.sample.left : Int) == 0) = true then
      (mBegin ({ s with sample := ({ s.sample with irq := false } : Smp) } : Snd))
    else
      ({ s with sample := ({ s.sample with irq := false } : Smp) } : Snd)
theorem mEnable_p1 (s : Snd) (on : Bool) (c1 : (!on) = true) : FnSpec Tryd.prog 32 1005 [.pointer (some ⟨1000, 4, none⟩), .bool on] (Snd.H 1000 1001 1002 1003 1004 s) (.tuple ⟨[]⟩) (Snd.H 1000 1001 1002 1003 1004 ({ s with sample := ({ s.sample with left := 0, irq := false } : Smp) } : Snd)) := by
  exact fn_of_x hG hM Tryd.func32 (by kernel_rfl) (by kernel_rfl) 400 [.yes] (J c1 trivial) (by kernel_rfl)
theorem mEnable_p2 (s : Snd) (on : Bool) (c1 : (!on) = false) (c2 : ((s.sample.left : Int) == 0) = true) : FnSpec Tryd.prog 32 1005 [.pointer (some ⟨1000, 4, none⟩), .bool on] (Snd.H 1000 1001 1002 1003 1004 s) (.tuple ⟨[]⟩) (Snd.H 1000 1001 1002 1003 1004 (mBegin ({ s with sample := ({ s.sample with irq := false } : Smp) } : Snd))) := by
  exact fn_of_x hG hM Tryd.func32 (by kernel_rfl) (by kernel_rfl) 400 [.no, .yes, .call [(1000, 1000), (1001, 1001), (1002, 1002), (1003, 1003), (1004, 1004)] [] 1005 (.tuple ⟨[]⟩) (Snd.H 1000 1001 1002 1003 1004 (mBegin ({ s with sample := ({ s.sample with irq := false } : Smp) } : Snd)))] (J c1 (J c2 (J (mBegin_ok ({ s with sample := ({ s.sample with irq := false } : Smp) } : Snd)) trivial))) (by kernel_rfl)
theorem mEnable_p3 (s : Snd) (on : Bool) (c1 : (!on) = false) (c2 : ((s.sample.left : Int) == 0) = false) : FnSpec Tryd.prog 32 1005 [.pointer (some ⟨1000, 4, none⟩), .bool on] (Snd.H 1000 1001 1002 1003 1004 s) (.tuple ⟨[]⟩) (Snd.H 1000 1001 1002 1003 1004 ({ s with sample := ({ s.sample with irq := false } : Smp) } : Snd)) := by
  exact fn_of_x hG hM Tryd.func32 (by kernel_rfl) (by kernel_rfl) 400 [.no, .no] (J c1 (J c2 trivial)) (by kernel_rfl)
theorem mEnable_ok (s : Snd) (on : Bool) : FnSpec Tryd.prog 32 1005 [.pointer (some ⟨1000, 4, none⟩), .bool on] (Snd.H 1000 1001 1002 1003 1004 s) (.tuple ⟨[]⟩) (Snd.H 1000 1001 1002 1003 1004 (mEnable s on)) := by
  rcases bt (!on) with c1 | c1
  ·
    rw [mEnable, if_pos c1]
    exact mEnable_p1 s on c1
  ·
    rcases bt ((s.sample.left : Int) == 0) with c2 | c2
    ·
      rw [mEnable, if_neg (nt c1), if_pos c2]
      exact mEnable_p2 s on c1 c2
    ·
      rw [mEnable, if_neg (nt c1), if_neg (nt c2)]
      exact mEnable_p3 s on c1 c2

theorem mEnable_w (s : Snd) (on : Bool) (w_s : Snd.ok s) : Snd.ok (mEnable s on) := by
  rcases bt (!on) with c1 | c1
  ·
    rw [mEnable, if_pos c1]
    exact (⟨w_s.tones_0, w_s.tones_1, w_s.tones_2, w_s.tones_3, (⟨w_s.sample.reg, w_s.sample.level, w_s.sample.next, w_s.sample.row, w_s.sample.bits, w_s.sample.timer, w_s.sample.at_⟩ : Smp.ok ({ s.sample with left := 0, irq := false } : Smp))⟩ : Snd.ok ({ s with sample := ({ s.sample with left := 0, irq := false } : Smp) } : Snd))
  ·
    rcases bt ((s.sample.left : Int) == 0) with c2 | c2
    ·
      rw [mEnable, if_neg (nt c1), if_pos c2]
      exact (mBegin_w ({ s with sample := ({ s.sample with irq := false } : Smp) } : Snd) (⟨w_s.tones_0, w_s.tones_1, w_s.tones_2, w_s.tones_3, (⟨w_s.sample.reg, w_s.sample.level, w_s.sample.next, w_s.sample.row, w_s.sample.bits, w_s.sample.timer, w_s.sample.at_⟩ : Smp.ok ({ s.sample with irq := false } : Smp))⟩ : Snd.ok ({ s with sample := ({ s.sample with irq := false } : Smp) } : Snd)))
    ·
      rw [mEnable, if_neg (nt c1), if_neg (nt c2)]
      exact (⟨w_s.tones_0, w_s.tones_1, w_s.tones_2, w_s.tones_3, (⟨w_s.sample.reg, w_s.sample.level, w_s.sample.next, w_s.sample.row, w_s.sample.bits, w_s.sample.timer, w_s.sample.at_⟩ : Smp.ok ({ s.sample with irq := false } : Smp))⟩ : Snd.ok ({ s with sample := ({ s.sample with irq := false } : Smp) } : Snd))

/-- (*kotatsu/sound.sample).put -/
def mPut_0 (s : Snd) (b : Int) : Snd :=
  if s.sample.irq = true then
    ({ s with sample := ({ s.sample with reg := (upd s.sample.reg 0 b), irq := (((bAnd .u8 b 128) : Int) != 0) } : Smp) } : Snd)
  else
    ({ s with sample := ({ s.sample with reg := (upd s.sample.reg 0 b), irq := false } : Smp) } : Snd)
theorem mPut_0_p1 (s : Snd) (b : Int) (c1 : s.sample.irq = true) : FnSpec Tryd.prog 30 1005 [.pointer (some ⟨1000, 4, none⟩), .int .u8 0, .int .u8 b] (Snd.H 1000 1001 1002 1003 1004 s) (.tuple ⟨[]⟩) (Snd.H 1000 1001 1002 1003 1004 ({ s with sample := ({ s.sample with reg := (upd s.sample.reg 0 b), irq := (((bAnd .u8 b 128) : Int) != 0) } : Smp) } : Snd)) := by
  exact fn_of_x hG hM Tryd.func30 (by kernel_rfl) (by kernel_rfl) 400 [.lit 0, .yes, .yes, .yes, .yes, .yes] (J (Eq.refl (0 : Int)) (J (by decide : 0 < 4) (J (Eq.refl true) (J c1 (J c1 (J c1 (J c1 trivial))))))) (by kernel_rfl)
theorem mPut_0_p2 (s : Snd) (b : Int) (c1 : s.sample.irq = false) : FnSpec Tryd.prog 30 1005 [.pointer (some ⟨1000, 4, none⟩), .int .u8 0, .int .u8 b] (Snd.H 1000 1001 1002 1003 1004 s) (.tuple ⟨[]⟩) (Snd.H 1000 1001 1002 1003 1004 ({ s with sample := ({ s.sample with reg := (upd s.sample.reg 0 b), irq := false } : Smp) } : Snd)) := by
  exact fn_of_x hG hM Tryd.func30 (by kernel_rfl) (by kernel_rfl) 400 [.lit 0, .yes, .no, .no, .no, .no] (J (Eq.refl (0 : Int)) (J (by decide : 0 < 4) (J (Eq.refl true) (J c1 (J c1 (J c1 (J c1 trivial))))))) (by kernel_rfl)
theorem mPut_0_ok (s : Snd) (b : Int) : FnSpec Tryd.prog 30 1005 [.pointer (some ⟨1000, 4, none⟩), .int .u8 0, .int .u8 b] (Snd.H 1000 1001 1002 1003 1004 s) (.tuple ⟨[]⟩) (Snd.H 1000 1001 1002 1003 1004 (mPut_0 s b)) := by
  rcases bt s.sample.irq with c1 | c1
  ·
    rw [mPut_0, if_pos c1]
    exact mPut_0_p1 s b c1
  ·
    rw [mPut_0, if_neg (nt c1)]
    exact mPut_0_p2 s b c1

theorem mPut_0_w (s : Snd) (b : Int) (w_s : Snd.ok s) (w_b : rng 256 b) : Snd.ok (mPut_0 s b) := by
  rcases bt s.sample.irq with c1 | c1
  ·
    rw [mPut_0, if_pos c1]
    exact (⟨w_s.tones_0, w_s.tones_1, w_s.tones_2, w_s.tones_3, (⟨(rng_upd w_s.sample.reg 0 w_b), w_s.sample.level, w_s.sample.next, w_s.sample.row, w_s.sample.bits, w_s.sample.timer, w_s.sample.at_⟩ : Smp.ok ({ s.sample with reg := (upd s.sample.reg 0 b), irq := (((bAnd .u8 b 128) : Int) != 0) } : Smp))⟩ : Snd.ok ({ s with sample := ({ s.sample with reg := (upd s.sample.reg 0 b), irq := (((bAnd .u8 b 128) : Int) != 0) } : Smp) } : Snd))
  ·
    rw [mPut_0, if_neg (nt c1)]
    exact (⟨w_s.tones_0, w_s.tones_1, w_s.tones_2, w_s.tones_3, (⟨(rng_upd w_s.sample.reg 0 w_b), w_s.sample.level, w_s.sample.next, w_s.sample.row, w_s.sample.bits, w_s.sample.timer, w_s.sample.at_⟩ : Smp.ok ({ s.sample with reg := (upd s.sample.reg 0 b), irq := false } : Smp))⟩ : Snd.ok ({ s with sample := ({ s.sample with reg := (upd s.sample.reg 0 b), irq := false } : Smp) } : Snd))

/-- (*kotatsu/sound.sample).put -/
def mPut_1 (s : Snd) (b : Int) : Snd :=
  ({ s with sample := ({ s.sample with reg := (upd s.sample.reg 1 b), level := (bAnd .u8 b 127) } : Smp) } : Snd)
theorem mPut_1_p1 (s : Snd) (b : Int) : FnSpec Tryd.prog 30 1005 [.pointer (some ⟨1000, 4, none⟩), .int .u8 1, .int .u8 b] (Snd.H 1000 1001 1002 1003 1004 s) (.tuple ⟨[]⟩) (Snd.H 1000 1001 1002 1003 1004 ({ s with sample := ({ s.sample with reg := (upd s.sample.reg 1 b), level := (bAnd .u8 b 127) } : Smp) } : Snd)) := by
  exact fn_of_x hG hM Tryd.func30 (by kernel_rfl) (by kernel_rfl) 400 [.lit 1, .no, .yes] (J (Eq.refl (1 : Int)) (J (by decide : 1 < 4) (J (Eq.refl false) (J (Eq.refl true) trivial)))) (by kernel_rfl)
theorem mPut_1_ok (s : Snd) (b : Int) : FnSpec Tryd.prog 30 1005 [.pointer (some ⟨1000, 4, none⟩), .int .u8 1, .int .u8 b] (Snd.H 1000 1001 1002 1003 1004 s) (.tuple ⟨[]⟩) (Snd.H 1000 1001 1002 1003 1004 (mPut_1 s b)) := by
  exact mPut_1_p1 s b

theorem mPut_1_w (s : Snd) (b : Int) (w_s : Snd.ok s) (w_b : rng 256 b) : Snd.ok (mPut_1 s b) := by
  rw [mPut_1]
  exact (⟨w_s.tones_0, w_s.tones_1, w_s.tones_2, w_s.tones_3, (⟨(rng_upd w_s.sample.reg 1 w_b), (rng_bAnd_u8 b 127), w_s.sample.next, w_s.sample.row, w_s.sample.bits, w_s.sample.timer, w_s.sample.at_⟩ : Smp.ok ({ s.sample with reg := (upd s.sample.reg 1 b), level := (bAnd .u8 b 127) } : Smp))⟩ : Snd.ok ({ s with sample := ({ s.sample with reg := (upd s.sample.reg 1 b), level := (bAnd .u8 b 127) } : Smp) } : Snd))

/-- (*kotatsu/sound.sample).put -/
def mPut_2 (s : Snd) (b : Int) : Snd :=
  ({ s with sample := ({ s.sample with reg := (upd s.sample.reg 2 b) } : Smp) } : Snd)
theorem mPut_2_p1 (s : Snd) (b : Int) : FnSpec Tryd.prog 30 1005 [.pointer (some ⟨1000, 4, none⟩), .int .u8 2, .int .u8 b] (Snd.H 1000 1001 1002 1003 1004 s) (.tuple ⟨[]⟩) (Snd.H 1000 1001 1002 1003 1004 ({ s with sample := ({ s.sample with reg := (upd s.sample.reg 2 b) } : Smp) } : Snd)) := by
  exact fn_of_x hG hM Tryd.func30 (by kernel_rfl) (by kernel_rfl) 400 [.lit 2, .no, .no] (J (Eq.refl (2 : Int)) (J (by decide : 2 < 4) (J (Eq.refl false) (J (Eq.refl false) trivial)))) (by kernel_rfl)
theorem mPut_2_ok (s : Snd) (b : Int) : FnSpec Tryd.prog 30 1005 [.pointer (some ⟨1000, 4, none⟩), .int .u8 2, .int .u8 b] (Snd.H 1000 1001 1002 1003 1004 s) (.tuple ⟨[]⟩) (Snd.H 1000 1001 1002 1003 1004 (mPut_2 s b)) := by
  exact mPut_2_p1 s b

theorem mPut_2_w (s : Snd) (b : Int) (w_s : Snd.ok s) (w_b : rng 256 b) : Snd.ok (mPut_2 s b) := by
  rw [mPut_2]
  exact (⟨w_s.tones_0, w_s.tones_1, w_s.tones_2, w_s.tones_3, (⟨(rng_upd w_s.sample.reg 2 w_b), w_s.sample.level, w_s.sample.next, w_s.sample.row, w_s.sample.bits, w_s.sample.timer, w_s.sample.at_⟩ : Smp.ok ({ s.sample with reg := (upd s.sample.reg 2 b) } : Smp))⟩ : Snd.ok ({ s with sample := ({ s.sample with reg := (upd s.sample.reg 2 b) } : Smp) } : Snd))

/-- (*kotatsu/sound.sample).put -/
def mPut_3 (s : Snd) (b : Int) : Snd :=
  ({ s with sample := ({ s.sample with reg := (upd s.sample.reg 3 b) } : Smp) } : Snd)
theorem mPut_3_p1 (s : Snd) (b : Int) : FnSpec Tryd.prog 30 1005 [.pointer (some ⟨1000, 4, none⟩), .int .u8 3, .int .u8 b] (Snd.H 1000 1001 1002 1003 1004 s) (.tuple ⟨[]⟩) (Snd.H 1000 1001 1002 1003 1004 ({ s with sample := ({ s.sample with reg := (upd s.sample.reg 3 b) } : Smp) } : Snd)) := by
  exact fn_of_x hG hM Tryd.func30 (by kernel_rfl) (by kernel_rfl) 400 [.lit 3, .no, .no] (J (Eq.refl (3 : Int)) (J (by decide : 3 < 4) (J (Eq.refl false) (J (Eq.refl false) trivial)))) (by kernel_rfl)
theorem mPut_3_ok (s : Snd) (b : Int) : FnSpec Tryd.prog 30 1005 [.pointer (some ⟨1000, 4, none⟩), .int .u8 3, .int .u8 b] (Snd.H 1000 1001 1002 1003 1004 s) (.tuple ⟨[]⟩) (Snd.H 1000 1001 1002 1003 1004 (mPut_3 s b)) := by
  exact mPut_3_p1 s b

theorem mPut_3_w (s : Snd) (b : Int) (w_s : Snd.ok s) (w_b : rng 256 b) : Snd.ok (mPut_3 s b) := by
  rw [mPut_3]
  exact (⟨w_s.tones_0, w_s.tones_1, w_s.tones_2, w_s.tones_3, (⟨(rng_upd w_s.sample.reg 3 w_b), w_s.sample.level, w_s.sample.next, w_s.sample.row, w_s.sample.bits, w_s.sample.timer, w_s.sample.at_⟩ : Smp.ok ({ s.sample with reg := (upd s.sample.reg 3 b) } : Smp))⟩ : Snd.ok ({ s with sample := ({ s.sample with reg := (upd s.sample.reg 3 b) } : Smp) } : Snd))

/-- kotatsu/sound.New -/
def sNew  : Snd :=
  ({ tones_0 := tNew_0, tones_1 := tNew_1, tones_2 := tNew_2, tones_3 := tNew_3, sample := ({ reg := (fun j => List.getD [0, 0, 0, 0] j 0), level := 0, next := 0, waits := false, row := 0, bits := 8, speaks := false, timer := 0, at_ := 0, left := 0, irq := false } : Smp), count := 0, manner := 0, bars := false, irq := false, even := false } : Snd)
theorem sNew_p1  : FnSpec Tryd.prog 11 1000 [] [tb0] (.pointer (some ⟨1000, 0, none⟩)) (Snd.H 1000 1001 1002 1003 1004 ({ tones_0 := tNew_0, tones_1 := tNew_1, tones_2 := tNew_2, tones_3 := tNew_3, sample := ({ reg := (fun j => List.getD [0, 0, 0, 0] j 0), level := 0, next := 0, waits := false, row := 0, bits := 8, speaks := false, timer := 0, at_ := 0, left := 0, irq := false } : Smp), count := 0, manner := 0, bars := false, irq := false, even := false } : Snd)) := by
  exact fn_of_x hG hM Tryd.func11 (by kernel_rfl) (by kernel_rfl) 400 [.group [1, 1, 1, 1, 4, 1, 1, 1, 1, 1, 1, 1, 1, 1, 1, 1, 1, 1, 1, 1], .unroll, .yes, .call [] [(1000, 1001)] 1000 (.pointer (some ⟨1000, 0, none⟩)) [(1000, Tone.blk tNew_0)], .lit 0, .unroll, .yes, .call [] [(1000, 1002)] 1000 (.pointer (some ⟨1000, 0, none⟩)) [(1000, Tone.blk tNew_1)], .lit 1, .unroll, .yes, .call [] [(1000, 1003)] 1000 (.pointer (some ⟨1000, 0, none⟩)) [(1000, Tone.blk tNew_2)], .lit 2, .unroll, .yes, .call [(0, 0)] [(1000, 1004)] 1000 (.pointer (some ⟨1000, 0, none⟩)) [(1000, Tone.blk tNew_3)], .lit 3, .unroll, .no] (J (Eq.refl true) (J (tNew_0_ok) (J (Eq.refl (0 : Int)) (J (by decide : 0 < 4) (J (Eq.refl true) (J (tNew_1_ok) (J (Eq.refl (1 : Int)) (J (by decide : 1 < 4) (J (Eq.refl true) (J (tNew_2_ok) (J (Eq.refl (2 : Int)) (J (by decide : 2 < 4) (J (Eq.refl true) (J (tNew_3_ok) (J (Eq.refl (3 : Int)) (J (by decide : 3 < 4) (J (Eq.refl false) trivial))))))))))))))))) (by kernel_rfl)
theorem sNew_ok  : FnSpec Tryd.prog 11 1000 [] [tb0] (.pointer (some ⟨1000, 0, none⟩)) (Snd.H 1000 1001 1002 1003 1004 sNew) := by
  exact sNew_p1 

theorem sNew_w  : Snd.ok sNew := by
  rw [sNew]
  exact (⟨(tNew_0_w), (tNew_1_w), (tNew_2_w), (tNew_3_w), (⟨(rng_list (n := 256) (by decide) [0, 0, 0, 0] ⟨(by decide : rng 256 0), ⟨(by decide : rng 256 0), ⟨(by decide : rng 256 0), ⟨(by decide : rng 256 0), trivial⟩⟩⟩⟩), (by decide : rng 256 0), (by decide : rng 256 0), (by decide : rng 256 0), (by decide : rng 256 8), (by decide : rng 65536 0), (by decide : rng 65536 0)⟩ : Smp.ok ({ reg := (fun j => List.getD [0, 0, 0, 0] j 0), level := 0, next := 0, waits := false, row := 0, bits := 8, speaks := false, timer := 0, at_ := 0, left := 0, irq := false } : Smp))⟩ : Snd.ok ({ tones_0 := tNew_0, tones_1 := tNew_1, tones_2 := tNew_2, tones_3 := tNew_3, sample := ({ reg := (fun j => List.getD [0, 0, 0, 0] j 0), level := 0, next := 0, waits := false, row := 0, bits := 8, speaks := false, timer := 0, at_ := 0, left := 0, irq := false } : Smp), count := 0, manner := 0, bars := false, irq := false, even := false } : Snd))

end Go.Proofs.YtgpcfjokmonlgaaDoor
