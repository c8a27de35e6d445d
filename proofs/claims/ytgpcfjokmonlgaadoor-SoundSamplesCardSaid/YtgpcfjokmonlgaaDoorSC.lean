/-
  The functions of layer 12, of the sound. Written by gen_sound.py. No condition.
-/
import Derived.Test.YtgpcfjokmonlgaaDoorSB
namespace Go.Proofs.YtgpcfjokmonlgaaDoor
open Go VX
set_option linter.unusedVariables false
set_option linter.unusedSimpArgs false
set_option maxRecDepth 100000

/-- (*kotatsu/sound.Sound).all -/
def sAllQ (s : Snd) : Snd :=
  ({ s with tones_0 := (tQuarter s.tones_0), tones_1 := (tQuarter s.tones_1), tones_2 := (tQuarter s.tones_2), tones_3 := (tQuarter s.tones_3) } : Snd)
theorem sAllQ_p1 (s : Snd) : FnSpec Tryd.prog 56 1005 [.pointer (some ⟨1000, 0, none⟩), .func (.func 57) ⟨[]⟩ ⟨[]⟩] (Snd.H 1000 1001 1002 1003 1004 s) (.tuple ⟨[]⟩) (Snd.H 1000 1001 1002 1003 1004 ({ s with tones_0 := (tQuarter s.tones_0), tones_1 := (tQuarter s.tones_1), tones_2 := (tQuarter s.tones_2), tones_3 := (tQuarter s.tones_3) } : Snd)) := by
  exact fn_of_x hG hM Tryd.func56 (by kernel_rfl) (by kernel_rfl) 400 [.unroll, .yes, .lit 0, .call [(1001, 1000)] [] 1001 (.tuple ⟨[]⟩) [(1000, Tone.blk (tQuarter s.tones_0))], .unroll, .yes, .lit 1, .call [(1002, 1000)] [] 1001 (.tuple ⟨[]⟩) [(1000, Tone.blk (tQuarter s.tones_1))], .unroll, .yes, .lit 2, .call [(1003, 1000)] [] 1001 (.tuple ⟨[]⟩) [(1000, Tone.blk (tQuarter s.tones_2))], .unroll, .yes, .lit 3, .call [(1004, 1000)] [] 1001 (.tuple ⟨[]⟩) [(1000, Tone.blk (tQuarter s.tones_3))], .unroll, .no] (J (Eq.refl true) (J (Eq.refl (0 : Int)) (J (by decide : 0 < 4) (J (tQuarter_ok s.tones_0) (J (Eq.refl true) (J (Eq.refl (1 : Int)) (J (by decide : 1 < 4) (J (tQuarter_ok s.tones_1) (J (Eq.refl true) (J (Eq.refl (2 : Int)) (J (by decide : 2 < 4) (J (tQuarter_ok s.tones_2) (J (Eq.refl true) (J (Eq.refl (3 : Int)) (J (by decide : 3 < 4) (J (tQuarter_ok s.tones_3) (J (Eq.refl false) trivial))))))))))))))))) (by kernel_rfl)
theorem sAllQ_ok (s : Snd) : FnSpec Tryd.prog 56 1005 [.pointer (some ⟨1000, 0, none⟩), .func (.func 57) ⟨[]⟩ ⟨[]⟩] (Snd.H 1000 1001 1002 1003 1004 s) (.tuple ⟨[]⟩) (Snd.H 1000 1001 1002 1003 1004 (sAllQ s)) := by
  exact sAllQ_p1 s

theorem sAllQ_w (s : Snd) (w_s : Snd.ok s) : Snd.ok (sAllQ s) := by
  rw [sAllQ]
  exact (⟨(tQuarter_w s.tones_0 w_s.tones_0), (tQuarter_w s.tones_1 w_s.tones_1), (tQuarter_w s.tones_2 w_s.tones_2), (tQuarter_w s.tones_3 w_s.tones_3), w_s.sample⟩ : Snd.ok ({ s with tones_0 := (tQuarter s.tones_0), tones_1 := (tQuarter s.tones_1), tones_2 := (tQuarter s.tones_2), tones_3 := (tQuarter s.tones_3) } : Snd))

/-- (*kotatsu/sound.Sound).all -/
def sAllH (s : Snd) : Snd :=
  ({ s with tones_0 := (tHalf s.tones_0), tones_1 := (tHalf s.tones_1), tones_2 := (tHalf s.tones_2), tones_3 := (tHalf s.tones_3) } : Snd)
theorem sAllH_p1 (s : Snd) : FnSpec Tryd.prog 56 1005 [.pointer (some ⟨1000, 0, none⟩), .func (.func 58) ⟨[]⟩ ⟨[]⟩] (Snd.H 1000 1001 1002 1003 1004 s) (.tuple ⟨[]⟩) (Snd.H 1000 1001 1002 1003 1004 ({ s with tones_0 := (tHalf s.tones_0), tones_1 := (tHalf s.tones_1), tones_2 := (tHalf s.tones_2), tones_3 := (tHalf s.tones_3) } : Snd)) := by
  exact fn_of_x hG hM Tryd.func56 (by kernel_rfl) (by kernel_rfl) 400 [.unroll, .yes, .lit 0, .call [(1001, 1000)] [] 1001 (.tuple ⟨[]⟩) [(1000, Tone.blk (tHalf s.tones_0))], .unroll, .yes, .lit 1, .call [(1002, 1000)] [] 1001 (.tuple ⟨[]⟩) [(1000, Tone.blk (tHalf s.tones_1))], .unroll, .yes, .lit 2, .call [(1003, 1000)] [] 1001 (.tuple ⟨[]⟩) [(1000, Tone.blk (tHalf s.tones_2))], .unroll, .yes, .lit 3, .call [(1004, 1000)] [] 1001 (.tuple ⟨[]⟩) [(1000, Tone.blk (tHalf s.tones_3))], .unroll, .no] (J (Eq.refl true) (J (Eq.refl (0 : Int)) (J (by decide : 0 < 4) (J (tHalf_ok s.tones_0) (J (Eq.refl true) (J (Eq.refl (1 : Int)) (J (by decide : 1 < 4) (J (tHalf_ok s.tones_1) (J (Eq.refl true) (J (Eq.refl (2 : Int)) (J (by decide : 2 < 4) (J (tHalf_ok s.tones_2) (J (Eq.refl true) (J (Eq.refl (3 : Int)) (J (by decide : 3 < 4) (J (tHalf_ok s.tones_3) (J (Eq.refl false) trivial))))))))))))))))) (by kernel_rfl)
theorem sAllH_ok (s : Snd) : FnSpec Tryd.prog 56 1005 [.pointer (some ⟨1000, 0, none⟩), .func (.func 58) ⟨[]⟩ ⟨[]⟩] (Snd.H 1000 1001 1002 1003 1004 s) (.tuple ⟨[]⟩) (Snd.H 1000 1001 1002 1003 1004 (sAllH s)) := by
  exact sAllH_p1 s

theorem sAllH_w (s : Snd) (w_s : Snd.ok s) : Snd.ok (sAllH s) := by
  rw [sAllH]
  exact (⟨(tHalf_w s.tones_0 w_s.tones_0), (tHalf_w s.tones_1 w_s.tones_1), (tHalf_w s.tones_2 w_s.tones_2), (tHalf_w s.tones_3 w_s.tones_3), w_s.sample⟩ : Snd.ok ({ s with tones_0 := (tHalf s.tones_0), tones_1 := (tHalf s.tones_1), tones_2 := (tHalf s.tones_2), tones_3 := (tHalf s.tones_3) } : Snd))

/-- (*kotatsu/sound.Sound).restart -/
def sRestart (s : Snd) (b : Int) : Snd :=
  if s.irq = true then
    if (((bAnd .u8 b 128) : Int) != 0) = true then
      ({ tones_0 := (tHalf (tQuarter s.tones_0)), tones_1 := (tHalf (tQuarter s.tones_1)), tones_2 := (tHalf (tQuarter s.tones_2)), tones_3 := (tHalf (tQuarter s.tones_3)), sample := s.sample, count := 0, manner := 1, bars := (((bAnd .u8 b 64) : Int) != 0), irq := (!(((bAnd .u8 b 64) : Int) != 0)), even := s.even } : Snd)
    else
      ({ s with count := 0, manner := 0, bars := (((bAnd .u8 b 64) : Int) != 0), irq := (!(((bAnd .u8 b 64) : Int) != 0)) } : Snd)
  else
    if (((bAnd .u8 b 128) : Int) != 0) = true then
      ({ tones_0 := (tHalf (tQuarter s.tones_0)), tones_1 := (tHalf (tQuarter s.tones_1)), tones_2 := (tHalf (tQuarter s.tones_2)), tones_3 := (tHalf (tQuarter s.tones_3)), sample := s.sample, count := 0, manner := 1, bars := (((bAnd .u8 b 64) : Int) != 0), irq := false, even := s.even } : Snd)
    else
      ({ s with count := 0, manner := 0, bars := (((bAnd .u8 b 64) : Int) != 0), irq := false } : Snd)
theorem sRestart_p1 (s : Snd) (b : Int) (c1 : s.irq = true) (c2 : (((bAnd .u8 b 128) : Int) != 0) = true) : FnSpec Tryd.prog 33 1005 [.pointer (some ⟨1000, 0, none⟩), .int .u8 b] (Snd.H 1000 1001 1002 1003 1004 s) (.tuple ⟨[]⟩) (Snd.H 1000 1001 1002 1003 1004 ({ tones_0 := (tHalf (tQuarter s.tones_0)), tones_1 := (tHalf (tQuarter s.tones_1)), tones_2 := (tHalf (tQuarter s.tones_2)), tones_3 := (tHalf (tQuarter s.tones_3)), sample := s.sample, count := 0, manner := 1, bars := (((bAnd .u8 b 64) : Int) != 0), irq := (!(((bAnd .u8 b 64) : Int) != 0)), even := s.even } : Snd)) := by
  exact fn_of_x hG hM Tryd.func33 (by kernel_rfl) (by kernel_rfl) 400 [.yes, .yes, .yes, .yes, .yes, .yes, .yes, .call [(1000, 1000), (1001, 1001), (1002, 1002), (1003, 1003), (1004, 1004)] [] 1005 (.tuple ⟨[]⟩) (Snd.H 1000 1001 1002 1003 1004 ({ tones_0 := (tQuarter s.tones_0), tones_1 := (tQuarter s.tones_1), tones_2 := (tQuarter s.tones_2), tones_3 := (tQuarter s.tones_3), sample := s.sample, count := 0, manner := 1, bars := (((bAnd .u8 b 64) : Int) != 0), irq := (!(((bAnd .u8 b 64) : Int) != 0)), even := s.even } : Snd)), .call [(1000, 1000), (1001, 1001), (1002, 1002), (1003, 1003), (1004, 1004)] [] 1005 (.tuple ⟨[]⟩) (Snd.H 1000 1001 1002 1003 1004 ({ tones_0 := (tHalf (tQuarter s.tones_0)), tones_1 := (tHalf (tQuarter s.tones_1)), tones_2 := (tHalf (tQuarter s.tones_2)), tones_3 := (tHalf (tQuarter s.tones_3)), sample := s.sample, count := 0, manner := 1, bars := (((bAnd .u8 b 64) : Int) != 0), irq := (!(((bAnd .u8 b 64) : Int) != 0)), even := s.even } : Snd))] (J c1 (J c1 (J c1 (J c1 (J c1 (J c1 (J c2 (J (sAllQ_ok ({ s with count := 0, manner := 1, bars := (((bAnd .u8 b 64) : Int) != 0), irq := (!(((bAnd .u8 b 64) : Int) != 0)) } : Snd)) (J (sAllH_ok ({ tones_0 := (tQuarter s.tones_0), tones_1 := (tQuarter s.tones_1), tones_2 := (tQuarter s.tones_2), tones_3 := (tQuarter s.tones_3), sample := s.sample, count := 0, manner := 1, bars := (((bAnd .u8 b 64) : Int) != 0), irq := (!(((bAnd .u8 b 64) : Int) != 0)), even := s.even } : Snd)) trivial))))))))) (by kernel_rfl)
theorem sRestart_p2 (s : Snd) (b : Int) (c1 : s.irq = true) (c2 : (((bAnd .u8 b 128) : Int) != 0) = false) : FnSpec Tryd.prog 33 1005 [.pointer (some ⟨1000, 0, none⟩), .int .u8 b] (Snd.H 1000 1001 1002 1003 1004 s) (.tuple ⟨[]⟩) (Snd.H 1000 1001 1002 1003 1004 ({ s with count := 0, manner := 0, bars := (((bAnd .u8 b 64) : Int) != 0), irq := (!(((bAnd .u8 b 64) : Int) != 0)) } : Snd)) := by
  exact fn_of_x hG hM Tryd.func33 (by kernel_rfl) (by kernel_rfl) 400 [.yes, .yes, .yes, .yes, .yes, .yes, .no] (J c1 (J c1 (J c1 (J c1 (J c1 (J c1 (J c2 trivial))))))) (by kernel_rfl)
theorem sRestart_p3 (s : Snd) (b : Int) (c1 : s.irq = false) (c2 : (((bAnd .u8 b 128) : Int) != 0) = true) : FnSpec Tryd.prog 33 1005 [.pointer (some ⟨1000, 0, none⟩), .int .u8 b] (Snd.H 1000 1001 1002 1003 1004 s) (.tuple ⟨[]⟩) (Snd.H 1000 1001 1002 1003 1004 ({ tones_0 := (tHalf (tQuarter s.tones_0)), tones_1 := (tHalf (tQuarter s.tones_1)), tones_2 := (tHalf (tQuarter s.tones_2)), tones_3 := (tHalf (tQuarter s.tones_3)), sample := s.sample, count := 0, manner := 1, bars := (((bAnd .u8 b 64) : Int) != 0), irq := false, even := s.even } : Snd)) := by
  exact fn_of_x hG hM Tryd.func33 (by kernel_rfl) (by kernel_rfl) 400 [.no, .no, .no, .no, .no, .no, .yes, .call [(1000, 1000), (1001, 1001), (1002, 1002), (1003, 1003), (1004, 1004)] [] 1005 (.tuple ⟨[]⟩) (Snd.H 1000 1001 1002 1003 1004 ({ tones_0 := (tQuarter s.tones_0), tones_1 := (tQuarter s.tones_1), tones_2 := (tQuarter s.tones_2), tones_3 := (tQuarter s.tones_3), sample := s.sample, count := 0, manner := 1, bars := (((bAnd .u8 b 64) : Int) != 0), irq := false, even := s.even } : Snd)), .call [(1000, 1000), (1001, 1001), (1002, 1002), (1003, 1003), (1004, 1004)] [] 1005 (.tuple ⟨[]⟩) (Snd.H 1000 1001 1002 1003 1004 ({ tones_0 := (tHalf (tQuarter s.tones_0)), tones_1 := (tHalf (tQuarter s.tones_1)), tones_2 := (tHalf (tQuarter s.tones_2)), tones_3 := (tHalf (tQuarter s.tones_3)), sample := s.sample, count := 0, manner := 1, bars := (((bAnd .u8 b 64) : Int) != 0), irq := false, even := s.even } : Snd))] (J c1 (J c1 (J c1 (J c1 (J c1 (J c1 (J c2 (J (sAllQ_ok ({ s with count := 0, manner := 1, bars := (((bAnd .u8 b 64) : Int) != 0), irq := false } : Snd)) (J (sAllH_ok ({ tones_0 := (tQuarter s.tones_0), tones_1 := (tQuarter s.tones_1), tones_2 := (tQuarter s.tones_2), tones_3 := (tQuarter s.tones_3), sample := s.sample, count := 0, manner := 1, bars := (((bAnd .u8 b 64) : Int) != 0), irq := false, even := s.even } : Snd)) trivial))))))))) (by kernel_rfl)
theorem sRestart_p4 (s : Snd) (b : Int) (c1 : s.irq = false) (c2 : (((bAnd .u8 b 128) : Int) != 0) = false) : FnSpec Tryd.prog 33 1005 [.pointer (some ⟨1000, 0, none⟩), .int .u8 b] (Snd.H 1000 1001 1002 1003 1004 s) (.tuple ⟨[]⟩) (Snd.H 1000 1001 1002 1003 1004 ({ s with count := 0, manner := 0, bars := (((bAnd .u8 b 64) : Int) != 0), irq := false } : Snd)) := by
  exact fn_of_x hG hM Tryd.func33 (by kernel_rfl) (by kernel_rfl) 400 [.no, .no, .no, .no, .no, .no, .no] (J c1 (J c1 (J c1 (J c1 (J c1 (J c1 (J c2 trivial))))))) (by kernel_rfl)
theorem sRestart_ok (s : Snd) (b : Int) : FnSpec Tryd.prog 33 1005 [.pointer (some ⟨1000, 0, none⟩), .int .u8 b] (Snd.H 1000 1001 1002 1003 1004 s) (.tuple ⟨[]⟩) (Snd.H 1000 1001 1002 1003 1004 (sRestart s b)) := by
  rcases bt s.irq with c1 | c1
  ·
    rcases bt (((bAnd .u8 b 128) : Int) != 0) with c2 | c2
    ·
      rw [sRestart, if_pos c1, if_pos c2]
      exact sRestart_p1 s b c1 c2
    ·
      rw [sRestart, if_pos c1, if_neg (nt c2)]
      exact sRestart_p2 s b c1 c2
  ·
    rcases bt (((bAnd .u8 b 128) : Int) != 0) with c2 | c2
    ·
      rw [sRestart, if_neg (nt c1), if_pos c2]
      exact sRestart_p3 s b c1 c2
    ·
      rw [sRestart, if_neg (nt c1), if_neg (nt c2)]
      exact sRestart_p4 s b c1 c2

theorem sRestart_w (s : Snd) (b : Int) (w_s : Snd.ok s) (w_b : rng 256 b) : Snd.ok (sRestart s b) := by
  rcases bt s.irq with c1 | c1
  ·
    rcases bt (((bAnd .u8 b 128) : Int) != 0) with c2 | c2
    ·
      rw [sRestart, if_pos c1, if_pos c2]
      exact (⟨(tHalf_w (tQuarter s.tones_0) (tQuarter_w s.tones_0 w_s.tones_0)), (tHalf_w (tQuarter s.tones_1) (tQuarter_w s.tones_1 w_s.tones_1)), (tHalf_w (tQuarter s.tones_2) (tQuarter_w s.tones_2 w_s.tones_2)), (tHalf_w (tQuarter s.tones_3) (tQuarter_w s.tones_3 w_s.tones_3)), w_s.sample⟩ : Snd.ok ({ tones_0 := (tHalf (tQuarter s.tones_0)), tones_1 := (tHalf (tQuarter s.tones_1)), tones_2 := (tHalf (tQuarter s.tones_2)), tones_3 := (tHalf (tQuarter s.tones_3)), sample := s.sample, count := 0, manner := 1, bars := (((bAnd .u8 b 64) : Int) != 0), irq := (!(((bAnd .u8 b 64) : Int) != 0)), even := s.even } : Snd))
    ·
      rw [sRestart, if_pos c1, if_neg (nt c2)]
      exact (⟨w_s.tones_0, w_s.tones_1, w_s.tones_2, w_s.tones_3, w_s.sample⟩ : Snd.ok ({ s with count := 0, manner := 0, bars := (((bAnd .u8 b 64) : Int) != 0), irq := (!(((bAnd .u8 b 64) : Int) != 0)) } : Snd))
  ·
    rcases bt (((bAnd .u8 b 128) : Int) != 0) with c2 | c2
    ·
      rw [sRestart, if_neg (nt c1), if_pos c2]
      exact (⟨(tHalf_w (tQuarter s.tones_0) (tQuarter_w s.tones_0 w_s.tones_0)), (tHalf_w (tQuarter s.tones_1) (tQuarter_w s.tones_1 w_s.tones_1)), (tHalf_w (tQuarter s.tones_2) (tQuarter_w s.tones_2 w_s.tones_2)), (tHalf_w (tQuarter s.tones_3) (tQuarter_w s.tones_3 w_s.tones_3)), w_s.sample⟩ : Snd.ok ({ tones_0 := (tHalf (tQuarter s.tones_0)), tones_1 := (tHalf (tQuarter s.tones_1)), tones_2 := (tHalf (tQuarter s.tones_2)), tones_3 := (tHalf (tQuarter s.tones_3)), sample := s.sample, count := 0, manner := 1, bars := (((bAnd .u8 b 64) : Int) != 0), irq := false, even := s.even } : Snd))
    ·
      rw [sRestart, if_neg (nt c1), if_neg (nt c2)]
      exact (⟨w_s.tones_0, w_s.tones_1, w_s.tones_2, w_s.tones_3, w_s.sample⟩ : Snd.ok ({ s with count := 0, manner := 0, bars := (((bAnd .u8 b 64) : Int) != 0), irq := false } : Snd))

/-- (*kotatsu/sound.Sound).IRQ -/
def sIRQ (s : Snd) : Bool :=
  if s.irq = true then
    true
  else
    s.sample.irq
theorem sIRQ_p1 (s : Snd) (c1 : s.irq = true) : FnSpec Tryd.prog 16 1005 [.pointer (some ⟨1000, 0, none⟩)] (Snd.HL 1000 1001 1002 1003 1004 s) (.bool true) [] := by
  exact fn_of_x hG hM Tryd.func16 (by kernel_rfl) (by kernel_rfl) 400 [.yes, .yes, .yes, .yes, .yes, .yes, .yes, .yes, .yes, .yes, .yes, .yes, .yes] (J (Eq.refl true) (J (Eq.refl true) (J (Eq.refl true) (J (Eq.refl true) (J (Eq.refl true) (J c1 (J c1 (J c1 (J c1 (J c1 (J (Eq.refl true) (J c1 (J (Eq.refl true) trivial))))))))))))) (by kernel_rfl)
theorem sIRQ_p2 (s : Snd) (c1 : s.irq = false) : FnSpec Tryd.prog 16 1005 [.pointer (some ⟨1000, 0, none⟩)] (Snd.HL 1000 1001 1002 1003 1004 s) (.bool s.sample.irq) [] := by
  exact fn_of_x hG hM Tryd.func16 (by kernel_rfl) (by kernel_rfl) 400 [.yes, .yes, .yes, .yes, .yes, .no, .no, .no, .no, .no, .yes, .no, .yes] (J (Eq.refl true) (J (Eq.refl true) (J (Eq.refl true) (J (Eq.refl true) (J (Eq.refl true) (J c1 (J c1 (J c1 (J c1 (J c1 (J (Eq.refl true) (J c1 (J (Eq.refl true) trivial))))))))))))) (by kernel_rfl)
theorem sIRQ_ok (s : Snd) : FnSpec Tryd.prog 16 1005 [.pointer (some ⟨1000, 0, none⟩)] (Snd.HL 1000 1001 1002 1003 1004 s) (.bool (sIRQ s)) [] := by
  rcases bt s.irq with c1 | c1
  ·
    rw [sIRQ, if_pos c1]
    exact sIRQ_p1 s c1
  ·
    rw [sIRQ, if_neg (nt c1)]
    exact sIRQ_p2 s c1

/-- (*kotatsu/sound.Sound).Asks -/
def sAsks (s : Snd) : Int × Bool :=
  if (!(mAsks s)) = true then
    (0, false)
  else
    (s.sample.at_, true)
theorem sAsks_p1 (s : Snd) (c1 : (!(mAsks s)) = true) : FnSpec Tryd.prog 26 1005 [.pointer (some ⟨1000, 0, none⟩)] (Snd.HL 1000 1001 1002 1003 1004 s) (.tuple ⟨[.int .u16 ((0, false).1), .bool ((0, false).2)]⟩) [] := by
  exact fn_of_x hG hM Tryd.func26 (by kernel_rfl) (by kernel_rfl) 400 [.no, .no, .no, .no, .call [(1000, 1000), (1001, 1001), (1002, 1002), (1003, 1003), (1004, 1004)] [] 1005 (.bool (mAsks s)) [], .no, .no, .yes] (J (Eq.refl false) (J (Eq.refl false) (J (Eq.refl false) (J (Eq.refl false) (J (mAsks_ok s) (J (Eq.refl false) (J (Eq.refl false) (J c1 trivial)))))))) (by kernel_rfl)
theorem sAsks_p2 (s : Snd) (c1 : (!(mAsks s)) = false) : FnSpec Tryd.prog 26 1005 [.pointer (some ⟨1000, 0, none⟩)] (Snd.HL 1000 1001 1002 1003 1004 s) (.tuple ⟨[.int .u16 ((s.sample.at_, true).1), .bool ((s.sample.at_, true).2)]⟩) [] := by
  exact fn_of_x hG hM Tryd.func26 (by kernel_rfl) (by kernel_rfl) 400 [.no, .no, .no, .no, .call [(1000, 1000), (1001, 1001), (1002, 1002), (1003, 1003), (1004, 1004)] [] 1005 (.bool (mAsks s)) [], .no, .no, .no] (J (Eq.refl false) (J (Eq.refl false) (J (Eq.refl false) (J (Eq.refl false) (J (mAsks_ok s) (J (Eq.refl false) (J (Eq.refl false) (J c1 trivial)))))))) (by kernel_rfl)
theorem sAsks_ok (s : Snd) : FnSpec Tryd.prog 26 1005 [.pointer (some ⟨1000, 0, none⟩)] (Snd.HL 1000 1001 1002 1003 1004 s) (.tuple ⟨[.int .u16 ((sAsks s).1), .bool ((sAsks s).2)]⟩) [] := by
  rcases bt (!(mAsks s)) with c1 | c1
  ·
    rw [sAsks, if_pos c1]
    exact sAsks_p1 s c1
  ·
    rw [sAsks, if_neg (nt c1)]
    exact sAsks_p2 s c1

/-- (*kotatsu/sound.Sound).Give -/
def sGive (s : Snd) (b : Int) : Snd :=
  (mGive s b)
theorem sGive_p1 (s : Snd) (b : Int) : FnSpec Tryd.prog 17 1005 [.pointer (some ⟨1000, 0, none⟩), .int .u8 b] (Snd.H 1000 1001 1002 1003 1004 s) (.tuple ⟨[]⟩) (Snd.H 1000 1001 1002 1003 1004 (mGive s b)) := by
  exact fn_of_x hG hM Tryd.func17 (by kernel_rfl) (by kernel_rfl) 400 [.yes, .call [(1000, 1000), (1001, 1001), (1002, 1002), (1003, 1003), (1004, 1004)] [] 1005 (.tuple ⟨[]⟩) (Snd.H 1000 1001 1002 1003 1004 (mGive s b))] (J (Eq.refl true) (J (mGive_ok s b) trivial)) (by kernel_rfl)
theorem sGive_ok (s : Snd) (b : Int) : FnSpec Tryd.prog 17 1005 [.pointer (some ⟨1000, 0, none⟩), .int .u8 b] (Snd.H 1000 1001 1002 1003 1004 s) (.tuple ⟨[]⟩) (Snd.H 1000 1001 1002 1003 1004 (sGive s b)) := by
  exact sGive_p1 s b

theorem sGive_w (s : Snd) (b : Int) (w_s : Snd.ok s) (w_b : rng 256 b) : Snd.ok (sGive s b) := by
  rw [sGive]
  exact (mGive_w s b w_s w_b)

/-- a loop of (*kotatsu/sound.Sound).Get: one round -/
inductive sGet_L1 (s : Snd) (xd : Int × Int) : (Int × Int) ⊕ (Int × Int) → Prop
  | p1 (d1 : (decide ((xd.1 : Int) < 8)) = true) (w1d : 0 ≤ xd.1) (d2 : (List.getD ([(tLive s.tones_0), (tLive s.tones_1), (tLive s.tones_2), (tLive s.tones_3), (decide ((s.sample.left : Int) > 0)), false, s.irq, s.sample.irq] : List Bool) (Int.toNat xd.1) false) = true) : sGet_L1 s xd (.inl ((IntKind.i64.wrap (xd.1 + 1)), (bOr .u8 xd.2 (bShl .u8 1 xd.1))))
  | p2 (d1 : (decide ((xd.1 : Int) < 8)) = true) (w1d : 0 ≤ xd.1) (d2 : (List.getD ([(tLive s.tones_0), (tLive s.tones_1), (tLive s.tones_2), (tLive s.tones_3), (decide ((s.sample.left : Int) > 0)), false, s.irq, s.sample.irq] : List Bool) (Int.toNat xd.1) false) = false) : sGet_L1 s xd (.inl ((IntKind.i64.wrap (xd.1 + 1)), xd.2))
  | p3 (d1 : (decide ((xd.1 : Int) < 8)) = false) : sGet_L1 s xd (.inr (xd.1, xd.2))
def sGet_L1_T (s : Snd) (xd : Int × Int) : Tm := [(0, .pointer (some ⟨1000, 0, none⟩)), (2, .int .u8 0), (3, .int .u8 xd.2), (47, .slice (some ⟨1005, 0, none⟩) 8 1), (48, .int .i64 8), (49, .int .i64 xd.1)]
def sGet_L1_H (s : Snd) (xd : Int × Int) : Heap := [(1005, ⟨[.one (.bool (tLive s.tones_0)), .one (.bool (tLive s.tones_1)), .one (.bool (tLive s.tones_2)), .one (.bool (tLive s.tones_3)), .one (.bool (decide ((s.sample.left : Int) > 0))), .one (.bool false), .one (.bool s.irq), .one (.bool s.sample.irq)], 4, false⟩)]
def sGet_L1_T1 (s : Snd) (r : Int × Int) : Tm := sGet_L1_T s r
def sGet_L1_H1 (s : Snd) (r : Int × Int) : Heap := sGet_L1_H s r
def sGet_L1_ex (_ : Int × Int) : Ex := .exit 0
theorem sGet_L1_p1 (s : Snd) (xd : Int × Int) (d1 : (decide ((xd.1 : Int) < 8)) = true) (w1d : 0 ≤ xd.1) (d2 : (List.getD ([(tLive s.tones_0), (tLive s.tones_1), (tLive s.tones_2), (tLive s.tones_3), (decide ((s.sample.left : Int) > 0)), false, s.irq, s.sample.irq] : List Bool) (Int.toNat xd.1) false) = true) : Runs Tryd.prog 64 (bodyOf Tryd.f14 [1, 1, 1, 0, 1, 0, 0]) (sGet_L1_T s xd) (sGet_L1_H s xd) 1006 .normal (sGet_L1_T s ((IntKind.i64.wrap (xd.1 + 1)), (bOr .u8 xd.2 (bShl .u8 1 xd.1)))) (sGet_L1_H s ((IntKind.i64.wrap (xd.1 + 1)), (bOr .u8 xd.2 (bShl .u8 1 xd.1)))) 1006 := by
  have o1 : 0 ≤ xd.1 ∧ xd.1 < ((8 : Nat) : Int) := by first | decide | omega | (simp only [decide_eq_true_eq, decide_eq_false_iff_not, rng, IntKind.wrap_i64, IntKind.wrap_u8, IntKind.wrap_u16] at *; omega)
  have o2 : (Int.toNat xd.1) < 8 := by first | decide | omega | (simp only [decide_eq_true_eq, decide_eq_false_iff_not, rng, IntKind.wrap_i64, IntKind.wrap_u8, IntKind.wrap_u16] at *; omega)
  exact runs_of_x hG hM 400 [.yes, .sym, .among 8, .yes] (J d1 (J o1 (J o2 (J d2 (J w1d trivial))))) (by kernel_rfl)
theorem sGet_L1_p2 (s : Snd) (xd : Int × Int) (d1 : (decide ((xd.1 : Int) < 8)) = true) (w1d : 0 ≤ xd.1) (d2 : (List.getD ([(tLive s.tones_0), (tLive s.tones_1), (tLive s.tones_2), (tLive s.tones_3), (decide ((s.sample.left : Int) > 0)), false, s.irq, s.sample.irq] : List Bool) (Int.toNat xd.1) false) = false) : Runs Tryd.prog 64 (bodyOf Tryd.f14 [1, 1, 1, 0, 1, 0, 0]) (sGet_L1_T s xd) (sGet_L1_H s xd) 1006 .normal (sGet_L1_T s ((IntKind.i64.wrap (xd.1 + 1)), xd.2)) (sGet_L1_H s ((IntKind.i64.wrap (xd.1 + 1)), xd.2)) 1006 := by
  have o1 : 0 ≤ xd.1 ∧ xd.1 < ((8 : Nat) : Int) := by first | decide | omega | (simp only [decide_eq_true_eq, decide_eq_false_iff_not, rng, IntKind.wrap_i64, IntKind.wrap_u8, IntKind.wrap_u16] at *; omega)
  have o2 : (Int.toNat xd.1) < 8 := by first | decide | omega | (simp only [decide_eq_true_eq, decide_eq_false_iff_not, rng, IntKind.wrap_i64, IntKind.wrap_u8, IntKind.wrap_u16] at *; omega)
  exact runs_of_x hG hM 400 [.yes, .sym, .among 8, .no] (J d1 (J o1 (J o2 (J d2 trivial)))) (by kernel_rfl)
theorem sGet_L1_p3 (s : Snd) (xd : Int × Int) (d1 : (decide ((xd.1 : Int) < 8)) = false) : Runs Tryd.prog 64 (bodyOf Tryd.f14 [1, 1, 1, 0, 1, 0, 0]) (sGet_L1_T s xd) (sGet_L1_H s xd) 1006 (.exit 0) (sGet_L1_T1 s (xd.1, xd.2)) (sGet_L1_H1 s (xd.1, xd.2)) 1006 := by
  exact runs_of_x hG hM 400 [.no] (J d1 trivial) (by kernel_rfl)
theorem sGet_L1_runs (s : Snd) (x_ : Int × Int) (y_ : Int × Int) (h_ : LoopR (sGet_L1 s) x_ y_) : Runs Tryd.prog 64 (.block 0 (.loop (bodyOf Tryd.f14 [1, 1, 1, 0, 1, 0, 0]))) (sGet_L1_T s x_) (sGet_L1_H s x_) 1006 (outOf 0 (sGet_L1_ex y_)) (sGet_L1_T1 s y_) (sGet_L1_H1 s y_) 1006 := by
  refine block_loop (sGet_L1 s) (sGet_L1_T s) (sGet_L1_H s) sGet_L1_ex (sGet_L1_T1 s) (sGet_L1_H1 s) ?_ ?_ ?_ x_ y_ h_
  · intro r hr; cases hr
  · intro xd y_ hx
    cases hx with
    | p1 d1 w1d d2 => exact sGet_L1_p1 s xd d1 w1d d2
    | p2 d1 w1d d2 => exact sGet_L1_p2 s xd d1 w1d d2
  · intro xd y_ hx
    cases hx with
    | p3 d1 => exact sGet_L1_p3 s xd d1

theorem sGet_p1 (s : Snd) (r1 : Int × Int) (l1 : LoopR (sGet_L1 s) (0, 0) r1) : FnSpec Tryd.prog 14 1005 [.pointer (some ⟨1000, 0, none⟩)] (Snd.H 1000 1001 1002 1003 1004 s) (.int .u8 r1.2) (Snd.H 1000 1001 1002 1003 1004 ({ s with irq := false } : Snd)) := by
  exact fn_of_x hG hM Tryd.func14 (by kernel_rfl) (by kernel_rfl) 400 [.no, .lit 0, .callr [(1001, 1000)] [1001] [] 1001 (.bool (tLive s.tones_0)) [], .lit 1, .callr [(1002, 1000)] [1002] [] 1001 (.bool (tLive s.tones_1)) [], .lit 2, .callr [(1003, 1000)] [1003] [] 1001 (.bool (tLive s.tones_2)) [], .lit 3, .callr [(1004, 1000)] [1004] [] 1001 (.bool (tLive s.tones_3)) [], .seg [0, 2, 3, 47, 48, 49] [1005] .normal (sGet_L1_T1 s r1) (sGet_L1_H1 s r1) 1006] (J (Eq.refl false) (J (Eq.refl (0 : Int)) (J (by decide : 0 < 4) (J (tLive_ok s.tones_0) (J (Eq.refl (1 : Int)) (J (by decide : 1 < 4) (J (tLive_ok s.tones_1) (J (Eq.refl (2 : Int)) (J (by decide : 2 < 4) (J (tLive_ok s.tones_2) (J (Eq.refl (3 : Int)) (J (by decide : 3 < 4) (J (tLive_ok s.tones_3) (J (sGet_L1_runs s (0, 0) r1 l1) trivial)))))))))))))) (by kernel_rfl)

/-- (*kotatsu/sound.Sound).Out$1 -/
def sOut1_0 (s : Snd) : Int :=
  (IntKind.i64.wrap (tOut s.tones_0))
theorem sOut1_0_p1 (s : Snd) (w_s : Snd.ok s) : FnSpec Tryd.prog 39 1006 [.int .i64 0, .pointer (some ⟨1005, 0, none⟩)] ([tb3] ++ (Snd.HL 1000 1001 1002 1003 1004 s) ++ [(1005, ⟨[.one (.pointer (some ⟨1000, 0, none⟩))], 23, true⟩)]) (.int .i64 (IntKind.i64.wrap (tOut s.tones_0))) [] := by
  exact fn_of_x hG hM Tryd.func39 (by kernel_rfl) (by kernel_rfl) 400 [.lit 0, .call [(3, 3), (1001, 1000)] [] 1001 (.int .u8 (tOut s.tones_0)) []] (J (Eq.refl (0 : Int)) (J (by decide : 0 < 4) (J (tOut_ok s.tones_0 w_s.tones_0) trivial))) (by kernel_rfl)
theorem sOut1_0_ok (s : Snd) (w_s : Snd.ok s) : FnSpec Tryd.prog 39 1006 [.int .i64 0, .pointer (some ⟨1005, 0, none⟩)] ([tb3] ++ (Snd.HL 1000 1001 1002 1003 1004 s) ++ [(1005, ⟨[.one (.pointer (some ⟨1000, 0, none⟩))], 23, true⟩)]) (.int .i64 (sOut1_0 s)) [] := by
  exact sOut1_0_p1 s w_s

/-- (*kotatsu/sound.Sound).Out$1 -/
def sOut1_1 (s : Snd) : Int :=
  (IntKind.i64.wrap (tOut s.tones_1))
theorem sOut1_1_p1 (s : Snd) (w_s : Snd.ok s) : FnSpec Tryd.prog 39 1006 [.int .i64 1, .pointer (some ⟨1005, 0, none⟩)] ([tb3] ++ (Snd.HL 1000 1001 1002 1003 1004 s) ++ [(1005, ⟨[.one (.pointer (some ⟨1000, 0, none⟩))], 23, true⟩)]) (.int .i64 (IntKind.i64.wrap (tOut s.tones_1))) [] := by
  exact fn_of_x hG hM Tryd.func39 (by kernel_rfl) (by kernel_rfl) 400 [.lit 1, .call [(3, 3), (1002, 1000)] [] 1001 (.int .u8 (tOut s.tones_1)) []] (J (Eq.refl (1 : Int)) (J (by decide : 1 < 4) (J (tOut_ok s.tones_1 w_s.tones_1) trivial))) (by kernel_rfl)
theorem sOut1_1_ok (s : Snd) (w_s : Snd.ok s) : FnSpec Tryd.prog 39 1006 [.int .i64 1, .pointer (some ⟨1005, 0, none⟩)] ([tb3] ++ (Snd.HL 1000 1001 1002 1003 1004 s) ++ [(1005, ⟨[.one (.pointer (some ⟨1000, 0, none⟩))], 23, true⟩)]) (.int .i64 (sOut1_1 s)) [] := by
  exact sOut1_1_p1 s w_s

/-- (*kotatsu/sound.Sound).Out$1 -/
def sOut1_2 (s : Snd) : Int :=
  (IntKind.i64.wrap (tOut s.tones_2))
theorem sOut1_2_p1 (s : Snd) (w_s : Snd.ok s) : FnSpec Tryd.prog 39 1006 [.int .i64 2, .pointer (some ⟨1005, 0, none⟩)] ([tb3] ++ (Snd.HL 1000 1001 1002 1003 1004 s) ++ [(1005, ⟨[.one (.pointer (some ⟨1000, 0, none⟩))], 23, true⟩)]) (.int .i64 (IntKind.i64.wrap (tOut s.tones_2))) [] := by
  exact fn_of_x hG hM Tryd.func39 (by kernel_rfl) (by kernel_rfl) 400 [.lit 2, .call [(3, 3), (1003, 1000)] [] 1001 (.int .u8 (tOut s.tones_2)) []] (J (Eq.refl (2 : Int)) (J (by decide : 2 < 4) (J (tOut_ok s.tones_2 w_s.tones_2) trivial))) (by kernel_rfl)
theorem sOut1_2_ok (s : Snd) (w_s : Snd.ok s) : FnSpec Tryd.prog 39 1006 [.int .i64 2, .pointer (some ⟨1005, 0, none⟩)] ([tb3] ++ (Snd.HL 1000 1001 1002 1003 1004 s) ++ [(1005, ⟨[.one (.pointer (some ⟨1000, 0, none⟩))], 23, true⟩)]) (.int .i64 (sOut1_2 s)) [] := by
  exact sOut1_2_p1 s w_s

/-- (*kotatsu/sound.Sound).Out$1 -/
def sOut1_3 (s : Snd) : Int :=
  (IntKind.i64.wrap (tOut s.tones_3))
theorem sOut1_3_p1 (s : Snd) (w_s : Snd.ok s) : FnSpec Tryd.prog 39 1006 [.int .i64 3, .pointer (some ⟨1005, 0, none⟩)] ([tb3] ++ (Snd.HL 1000 1001 1002 1003 1004 s) ++ [(1005, ⟨[.one (.pointer (some ⟨1000, 0, none⟩))], 23, true⟩)]) (.int .i64 (IntKind.i64.wrap (tOut s.tones_3))) [] := by
  exact fn_of_x hG hM Tryd.func39 (by kernel_rfl) (by kernel_rfl) 400 [.lit 3, .call [(3, 3), (1004, 1000)] [] 1001 (.int .u8 (tOut s.tones_3)) []] (J (Eq.refl (3 : Int)) (J (by decide : 3 < 4) (J (tOut_ok s.tones_3 w_s.tones_3) trivial))) (by kernel_rfl)
theorem sOut1_3_ok (s : Snd) (w_s : Snd.ok s) : FnSpec Tryd.prog 39 1006 [.int .i64 3, .pointer (some ⟨1005, 0, none⟩)] ([tb3] ++ (Snd.HL 1000 1001 1002 1003 1004 s) ++ [(1005, ⟨[.one (.pointer (some ⟨1000, 0, none⟩))], 23, true⟩)]) (.int .i64 (sOut1_3 s)) [] := by
  exact sOut1_3_p1 s w_s

end Go.Proofs.YtgpcfjokmonlgaaDoor
