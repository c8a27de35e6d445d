/-
  A cycle of the sound; its copy; a sound that is not there. Written by gen_sound.py. No condition.
-/
import Derived.Test.YtgpcfjokmonlgaaDoorSP
namespace Go.Proofs.YtgpcfjokmonlgaaDoor
open Go VX
set_option linter.unusedVariables false
set_option linter.unusedSimpArgs false
set_option maxRecDepth 100000

/-- (*kotatsu/sound.Sound).Clock -/
def sClock (s : Snd) : Snd :=
  if (sTick s).even = true then
    (mClock ({ (sTick s) with tones_0 := (tClock ((sTick s).tones_0)), tones_1 := (tClock ((sTick s).tones_1)), tones_2 := (tClock ((sTick s).tones_2)), tones_3 := (tClock ((sTick s).tones_3)), even := (!((sTick s).even)) } : Snd))
  else
    (mClock ({ (sTick s) with tones_2 := (tClock ((sTick s).tones_2)), tones_3 := (tClock ((sTick s).tones_3)), even := (!((sTick s).even)) } : Snd))
theorem sClock_p1 (s : Snd) (hm : Man s) (c1 : (sTick s).even = true) : FnSpec Tryd.prog 15 1005 [.pointer (some ⟨1000, 0, none⟩)] ([tb1, tb2] ++ (Snd.H 1000 1001 1002 1003 1004 s)) (.tuple ⟨[]⟩) (Snd.H 1000 1001 1002 1003 1004 (mClock ({ (sTick s) with tones_0 := (tClock ((sTick s).tones_0)), tones_1 := (tClock ((sTick s).tones_1)), tones_2 := (tClock ((sTick s).tones_2)), tones_3 := (tClock ((sTick s).tones_3)), even := (!((sTick s).even)) } : Snd))) := by
  exact fn_of_x hG hM Tryd.func15 (by kernel_rfl) (by kernel_rfl) 400 [.no, .call [(1, 1), (1000, 1000), (1001, 1001), (1002, 1002), (1003, 1003), (1004, 1004)] [] 1005 (.tuple ⟨[]⟩) (Snd.H 1000 1001 1002 1003 1004 (sTick s)), .lit 2, .call [(1003, 1000)] [] 1001 (.tuple ⟨[]⟩) [(1000, Tone.blk (tClock ((sTick s).tones_2)))], .lit 3, .call [(1004, 1000)] [] 1001 (.tuple ⟨[]⟩) [(1000, Tone.blk (tClock ((sTick s).tones_3)))], .yes, .lit 0, .call [(1001, 1000)] [] 1001 (.tuple ⟨[]⟩) [(1000, Tone.blk (tClock ((sTick s).tones_0)))], .lit 1, .call [(1002, 1000)] [] 1001 (.tuple ⟨[]⟩) [(1000, Tone.blk (tClock ((sTick s).tones_1)))], .call [(2, 2), (1000, 1000), (1001, 1001), (1002, 1002), (1003, 1003), (1004, 1004)] [] 1005 (.tuple ⟨[]⟩) (Snd.H 1000 1001 1002 1003 1004 (mClock ({ (sTick s) with tones_0 := (tClock ((sTick s).tones_0)), tones_1 := (tClock ((sTick s).tones_1)), tones_2 := (tClock ((sTick s).tones_2)), tones_3 := (tClock ((sTick s).tones_3)), even := (!((sTick s).even)) } : Snd)))] (J (Eq.refl false) (J (sTick_ok s hm) (J (Eq.refl (2 : Int)) (J (by decide : 2 < 4) (J (tClock_ok ((sTick s).tones_2)) (J (Eq.refl (3 : Int)) (J (by decide : 3 < 4) (J (tClock_ok ((sTick s).tones_3)) (J c1 (J (Eq.refl (0 : Int)) (J (by decide : 0 < 4) (J (tClock_ok ((sTick s).tones_0)) (J (Eq.refl (1 : Int)) (J (by decide : 1 < 4) (J (tClock_ok ((sTick s).tones_1)) (J (mClock_ok ({ (sTick s) with tones_0 := (tClock ((sTick s).tones_0)), tones_1 := (tClock ((sTick s).tones_1)), tones_2 := (tClock ((sTick s).tones_2)), tones_3 := (tClock ((sTick s).tones_3)), even := (!((sTick s).even)) } : Snd)) trivial)))))))))))))))) (by kernel_rfl)
theorem sClock_p2 (s : Snd) (hm : Man s) (c1 : (sTick s).even = false) : FnSpec Tryd.prog 15 1005 [.pointer (some ⟨1000, 0, none⟩)] ([tb1, tb2] ++ (Snd.H 1000 1001 1002 1003 1004 s)) (.tuple ⟨[]⟩) (Snd.H 1000 1001 1002 1003 1004 (mClock ({ (sTick s) with tones_2 := (tClock ((sTick s).tones_2)), tones_3 := (tClock ((sTick s).tones_3)), even := (!((sTick s).even)) } : Snd))) := by
  exact fn_of_x hG hM Tryd.func15 (by kernel_rfl) (by kernel_rfl) 400 [.no, .call [(1, 1), (1000, 1000), (1001, 1001), (1002, 1002), (1003, 1003), (1004, 1004)] [] 1005 (.tuple ⟨[]⟩) (Snd.H 1000 1001 1002 1003 1004 (sTick s)), .lit 2, .call [(1003, 1000)] [] 1001 (.tuple ⟨[]⟩) [(1000, Tone.blk (tClock ((sTick s).tones_2)))], .lit 3, .call [(1004, 1000)] [] 1001 (.tuple ⟨[]⟩) [(1000, Tone.blk (tClock ((sTick s).tones_3)))], .no, .call [(2, 2), (1000, 1000), (1001, 1001), (1002, 1002), (1003, 1003), (1004, 1004)] [] 1005 (.tuple ⟨[]⟩) (Snd.H 1000 1001 1002 1003 1004 (mClock ({ (sTick s) with tones_2 := (tClock ((sTick s).tones_2)), tones_3 := (tClock ((sTick s).tones_3)), even := (!((sTick s).even)) } : Snd)))] (J (Eq.refl false) (J (sTick_ok s hm) (J (Eq.refl (2 : Int)) (J (by decide : 2 < 4) (J (tClock_ok ((sTick s).tones_2)) (J (Eq.refl (3 : Int)) (J (by decide : 3 < 4) (J (tClock_ok ((sTick s).tones_3)) (J c1 (J (mClock_ok ({ (sTick s) with tones_2 := (tClock ((sTick s).tones_2)), tones_3 := (tClock ((sTick s).tones_3)), even := (!((sTick s).even)) } : Snd)) trivial)))))))))) (by kernel_rfl)
theorem sClock_ok (s : Snd) (hm : Man s) : FnSpec Tryd.prog 15 1005 [.pointer (some ⟨1000, 0, none⟩)] ([tb1, tb2] ++ (Snd.H 1000 1001 1002 1003 1004 s)) (.tuple ⟨[]⟩) (Snd.H 1000 1001 1002 1003 1004 (sClock s)) := by
  rcases bt ((sTick s).even) with c1 | c1
  ·
    rw [sClock, if_pos c1]
    exact sClock_p1 s hm c1
  ·
    rw [sClock, if_neg (nt c1)]
    exact sClock_p2 s hm c1

theorem sClock_w (s : Snd) (w_s : Snd.ok s) (hm : Man s) : Snd.ok (sClock s) := by
  rcases bt ((sTick s).even) with c1 | c1
  ·
    rw [sClock, if_pos c1]
    exact (mClock_w ({ (sTick s) with tones_0 := (tClock ((sTick s).tones_0)), tones_1 := (tClock ((sTick s).tones_1)), tones_2 := (tClock ((sTick s).tones_2)), tones_3 := (tClock ((sTick s).tones_3)), even := (!((sTick s).even)) } : Snd) (⟨(tClock_w ((sTick s).tones_0) ((sTick_w s w_s hm).tones_0)), (tClock_w ((sTick s).tones_1) ((sTick_w s w_s hm).tones_1)), (tClock_w ((sTick s).tones_2) ((sTick_w s w_s hm).tones_2)), (tClock_w ((sTick s).tones_3) ((sTick_w s w_s hm).tones_3)), (sTick_w s w_s hm).sample⟩ : Snd.ok ({ (sTick s) with tones_0 := (tClock ((sTick s).tones_0)), tones_1 := (tClock ((sTick s).tones_1)), tones_2 := (tClock ((sTick s).tones_2)), tones_3 := (tClock ((sTick s).tones_3)), even := (!((sTick s).even)) } : Snd)))
  ·
    rw [sClock, if_neg (nt c1)]
    exact (mClock_w ({ (sTick s) with tones_2 := (tClock ((sTick s).tones_2)), tones_3 := (tClock ((sTick s).tones_3)), even := (!((sTick s).even)) } : Snd) (⟨(sTick_w s w_s hm).tones_0, (sTick_w s w_s hm).tones_1, (tClock_w ((sTick s).tones_2) ((sTick_w s w_s hm).tones_2)), (tClock_w ((sTick s).tones_3) ((sTick_w s w_s hm).tones_3)), (sTick_w s w_s hm).sample⟩ : Snd.ok ({ (sTick s) with tones_2 := (tClock ((sTick s).tones_2)), tones_3 := (tClock ((sTick s).tones_3)), even := (!((sTick s).even)) } : Snd)))

/-- (*kotatsu/sound.Sound).Copy -/
def sCopy (s : Snd) : Snd :=
  ({ s with tones_0 := (tCopy s.tones_0), tones_1 := (tCopy s.tones_1), tones_2 := (tCopy s.tones_2), tones_3 := (tCopy s.tones_3), sample := ({ s.sample with reg := (upd (upd (upd (upd (fun _ => 0) 0 (s.sample.reg 0)) 1 (s.sample.reg 1)) 2 (s.sample.reg 2)) 3 (s.sample.reg 3)) } : Smp) } : Snd)
theorem sCopy_p1 (s : Snd) : FnSpec Tryd.prog 27 1005 [.pointer (some ⟨1000, 0, none⟩)] (Snd.H 1000 1001 1002 1003 1004 s) (.pointer (some ⟨1005, 0, none⟩)) ((Snd.H 1000 1001 1002 1003 1004 s) ++ (Snd.H 1005 1006 1007 1008 1009 ({ s with tones_0 := (tCopy s.tones_0), tones_1 := (tCopy s.tones_1), tones_2 := (tCopy s.tones_2), tones_3 := (tCopy s.tones_3), sample := ({ s.sample with reg := (upd (upd (upd (upd (fun _ => 0) 0 (s.sample.reg 0)) 1 (s.sample.reg 1)) 2 (s.sample.reg 2)) 3 (s.sample.reg 3)) } : Smp) } : Snd))) := by
  exact fn_of_x hG hM Tryd.func27 (by kernel_rfl) (by kernel_rfl) 400 [.no, .segs [.one (.pointer none), .one (.pointer none), .one (.pointer none), .one (.pointer none), .ints .u8 4 (fun _ => 0), .one (.int .u8 0), .one (.int .u8 0), .one (.bool false), .one (.int .u8 0), .one (.int .u8 0), .one (.bool false), .one (.int .u16 0), .one (.int .u16 0), .one (.int .i64 0), .one (.bool false), .one (.int .i64 0), .one (.int .i64 0), .one (.bool false), .one (.bool false), .one (.bool false)], .unroll, .yes, .lit 0, .call [(1001, 1000)] [(1001, 1006)] 1001 (.pointer (some ⟨1001, 0, none⟩)) [(1000, Tone.blk s.tones_0), (1001, Tone.blk (tCopy s.tones_0))], .lit 0, .unroll, .yes, .lit 1, .call [(1002, 1000)] [(1001, 1007)] 1001 (.pointer (some ⟨1001, 0, none⟩)) [(1000, Tone.blk s.tones_1), (1001, Tone.blk (tCopy s.tones_1))], .lit 1, .unroll, .yes, .lit 2, .call [(1003, 1000)] [(1001, 1008)] 1001 (.pointer (some ⟨1001, 0, none⟩)) [(1000, Tone.blk s.tones_2), (1001, Tone.blk (tCopy s.tones_2))], .lit 2, .unroll, .yes, .lit 3, .call [(1004, 1000)] [(1001, 1009)] 1001 (.pointer (some ⟨1001, 0, none⟩)) [(1000, Tone.blk s.tones_3), (1001, Tone.blk (tCopy s.tones_3))], .lit 3, .unroll, .no] (J (Eq.refl false) (J (Eq.refl true) (J (Eq.refl (0 : Int)) (J (by decide : 0 < 4) (J (tCopy_ok s.tones_0) (J (Eq.refl (0 : Int)) (J (by decide : 0 < 4) (J (Eq.refl true) (J (Eq.refl (1 : Int)) (J (by decide : 1 < 4) (J (tCopy_ok s.tones_1) (J (Eq.refl (1 : Int)) (J (by decide : 1 < 4) (J (Eq.refl true) (J (Eq.refl (2 : Int)) (J (by decide : 2 < 4) (J (tCopy_ok s.tones_2) (J (Eq.refl (2 : Int)) (J (by decide : 2 < 4) (J (Eq.refl true) (J (Eq.refl (3 : Int)) (J (by decide : 3 < 4) (J (tCopy_ok s.tones_3) (J (Eq.refl (3 : Int)) (J (by decide : 3 < 4) (J (Eq.refl false) trivial)))))))))))))))))))))))))) (by kernel_rfl)
theorem sCopy_ok (s : Snd) : FnSpec Tryd.prog 27 1005 [.pointer (some ⟨1000, 0, none⟩)] (Snd.H 1000 1001 1002 1003 1004 s) (.pointer (some ⟨1005, 0, none⟩)) ((Snd.H 1000 1001 1002 1003 1004 s) ++ (Snd.H 1005 1006 1007 1008 1009 (sCopy s))) := by
  exact sCopy_p1 s

theorem sCopy_w (s : Snd) (w_s : Snd.ok s) : Snd.ok (sCopy s) := by
  rw [sCopy]
  exact (⟨(tCopy_w s.tones_0 w_s.tones_0), (tCopy_w s.tones_1 w_s.tones_1), (tCopy_w s.tones_2 w_s.tones_2), (tCopy_w s.tones_3 w_s.tones_3), (⟨(rng_upd (rng_upd (rng_upd (rng_upd (fun _ => (by decide : rng 256 0)) 0 (w_s.sample.reg 0)) 1 (w_s.sample.reg 1)) 2 (w_s.sample.reg 2)) 3 (w_s.sample.reg 3)), w_s.sample.level, w_s.sample.next, w_s.sample.row, w_s.sample.bits, w_s.sample.timer, w_s.sample.at_⟩ : Smp.ok ({ s.sample with reg := (upd (upd (upd (upd (fun _ => 0) 0 (s.sample.reg 0)) 1 (s.sample.reg 1)) 2 (s.sample.reg 2)) 3 (s.sample.reg 3)) } : Smp))⟩ : Snd.ok ({ s with tones_0 := (tCopy s.tones_0), tones_1 := (tCopy s.tones_1), tones_2 := (tCopy s.tones_2), tones_3 := (tCopy s.tones_3), sample := ({ s.sample with reg := (upd (upd (upd (upd (fun _ => 0) 0 (s.sample.reg 0)) 1 (s.sample.reg 1)) 2 (s.sample.reg 2)) 3 (s.sample.reg 3)) } : Smp) } : Snd))

/-- (*kotatsu/sound.Sound).Put -/
def nilPut (at_ : Int) (b : Int) : Unit :=
  ()
theorem nilPut_p1 (at_ : Int) (b : Int) : FnSpec Tryd.prog 12 1000 [.pointer none, .int .u16 at_, .int .u8 b] [] (.tuple ⟨[]⟩) [] := by
  exact fn_of_x hG hM Tryd.func12 (by kernel_rfl) (by kernel_rfl) 400 [.yes, .yes, .yes, .yes, .yes, .yes, .yes] (J (Eq.refl true) (J (Eq.refl true) (J (Eq.refl true) (J (Eq.refl true) (J (Eq.refl true) (J (Eq.refl true) (J (Eq.refl true) trivial))))))) (by kernel_rfl)
theorem nilPut_ok (at_ : Int) (b : Int) : FnSpec Tryd.prog 12 1000 [.pointer none, .int .u16 at_, .int .u8 b] [] (.tuple ⟨[]⟩) [] := by
  exact nilPut_p1 at_ b

/-- (*kotatsu/sound.Sound).Clock -/
def nilClock  : Unit :=
  ()
theorem nilClock_p1  : FnSpec Tryd.prog 15 1000 [.pointer none] [] (.tuple ⟨[]⟩) [] := by
  exact fn_of_x hG hM Tryd.func15 (by kernel_rfl) (by kernel_rfl) 400 [.yes] (J (Eq.refl true) trivial) (by kernel_rfl)
theorem nilClock_ok  : FnSpec Tryd.prog 15 1000 [.pointer none] [] (.tuple ⟨[]⟩) [] := by
  exact nilClock_p1 

/-- (*kotatsu/sound.Sound).Out -/
def nilOut  : Int :=
  0
theorem nilOut_p1  : FnSpec Tryd.prog 18 1000 [.pointer none] [] (.int .i64 0) [] := by
  exact fn_of_x hG hM Tryd.func18 (by kernel_rfl) (by kernel_rfl) 400 [.yes] (J (Eq.refl true) trivial) (by kernel_rfl)
theorem nilOut_ok  : FnSpec Tryd.prog 18 1000 [.pointer none] [] (.int .i64 nilOut) [] := by
  exact nilOut_p1 

/-- (*kotatsu/sound.Sound).IRQ -/
def nilIRQ  : Bool :=
  false
theorem nilIRQ_p1  : FnSpec Tryd.prog 16 1000 [.pointer none] [] (.bool false) [] := by
  exact fn_of_x hG hM Tryd.func16 (by kernel_rfl) (by kernel_rfl) 400 [.no, .no, .no, .no, .no, .no, .no] (J (Eq.refl false) (J (Eq.refl false) (J (Eq.refl false) (J (Eq.refl false) (J (Eq.refl false) (J (Eq.refl false) (J (Eq.refl false) trivial))))))) (by kernel_rfl)
theorem nilIRQ_ok  : FnSpec Tryd.prog 16 1000 [.pointer none] [] (.bool nilIRQ) [] := by
  exact nilIRQ_p1 

/-- (*kotatsu/sound.Sound).Get -/
def nilGet  : Int :=
  0
theorem nilGet_p1  : FnSpec Tryd.prog 14 1000 [.pointer none] [] (.int .u8 0) [] := by
  exact fn_of_x hG hM Tryd.func14 (by kernel_rfl) (by kernel_rfl) 400 [.yes] (J (Eq.refl true) trivial) (by kernel_rfl)
theorem nilGet_ok  : FnSpec Tryd.prog 14 1000 [.pointer none] [] (.int .u8 nilGet) [] := by
  exact nilGet_p1 

theorem nilGet_w  : rng 256 nilGet := by
  rw [nilGet]
  exact (by decide : rng 256 0)

/-- (*kotatsu/sound.Sound).Asks -/
def nilAsks  : Int × Bool :=
  (0, false)
theorem nilAsks_p1  : FnSpec Tryd.prog 26 1000 [.pointer none] [] (.tuple ⟨[.int .u16 ((0, false).1), .bool ((0, false).2)]⟩) [] := by
  exact fn_of_x hG hM Tryd.func26 (by kernel_rfl) (by kernel_rfl) 400 [.yes, .yes, .yes, .yes, .yes, .yes, .yes] (J (Eq.refl true) (J (Eq.refl true) (J (Eq.refl true) (J (Eq.refl true) (J (Eq.refl true) (J (Eq.refl true) (J (Eq.refl true) trivial))))))) (by kernel_rfl)
theorem nilAsks_ok  : FnSpec Tryd.prog 26 1000 [.pointer none] [] (.tuple ⟨[.int .u16 nilAsks.1, .bool nilAsks.2]⟩) [] := by
  exact nilAsks_p1 

/-- (*kotatsu/sound.Sound).Give -/
def nilGive (b : Int) : Unit :=
  ()
theorem nilGive_p1 (b : Int) : FnSpec Tryd.prog 17 1000 [.pointer none, .int .u8 b] [] (.tuple ⟨[]⟩) [] := by
  exact fn_of_x hG hM Tryd.func17 (by kernel_rfl) (by kernel_rfl) 400 [.no] (J (Eq.refl false) trivial) (by kernel_rfl)
theorem nilGive_ok (b : Int) : FnSpec Tryd.prog 17 1000 [.pointer none, .int .u8 b] [] (.tuple ⟨[]⟩) [] := by
  exact nilGive_p1 b

/-- (*kotatsu/sound.Sound).Copy -/
def nilCopy  : Unit :=
  ()
theorem nilCopy_p1  : FnSpec Tryd.prog 27 1000 [.pointer none] [] (.pointer none) [] := by
  exact fn_of_x hG hM Tryd.func27 (by kernel_rfl) (by kernel_rfl) 400 [.yes] (J (Eq.refl true) trivial) (by kernel_rfl)
theorem nilCopy_ok  : FnSpec Tryd.prog 27 1000 [.pointer none] [] (.pointer none) [] := by
  exact nilCopy_p1 

end Go.Proofs.YtgpcfjokmonlgaaDoor
