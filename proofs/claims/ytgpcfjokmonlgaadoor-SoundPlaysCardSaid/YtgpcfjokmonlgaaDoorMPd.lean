/-
  Texts laid together: SD, VY, SP, SQ, SE, VW, VZ, SR, VU, SF, SG, VWk. No condition.
-/
import Derived.DataReads
import Derived.Deep.Slices
import Derived.ProofKit
import Derived.SevenTiedAt
import Derived.Test.YtgpcfjokmonlgaaDoorCards
import Derived.Test.YtgpcfjokmonlgaaDoorTie
import Derived.Test.YtgpcfjokmonlgaaDoorMPc
namespace Go.Proofs.YtgpcfjokmonlgaaDoor
open Go VX
open Go.IntKind (i64 u8 u16)
set_option linter.unusedVariables false
set_option linter.unusedSimpArgs false
set_option maxRecDepth 100000
def sPut_0 (s : Snd) (b : Int) : Snd :=
  ({ s with tones_0 := (tPut_0 s.tones_0 b) } : Snd)
theorem sPut_0_ok (s : Snd) (b : Int) : FnSpec Tryd.prog 12 1005 [.pointer (some ⟨1000, 0, none⟩), .int .u16 16384, .int .u8 b] (Snd.H0 s) (.tuple ⟨[]⟩) (Snd.H0 (sPut_0 s b)) := by
  unfold sPut_0
  exact fn_of_x hG hM Tryd.func12 (by kernel_rfl) (by kernel_rfl) 400 [.no, .no, .no, .no, .no, .no, .no, .yes, .lit 0, .call [(1001, 1000)] [] 1001 (.tuple ⟨[]⟩) [(1000, Tone.blk (tPut_0 s.tones_0 b))]] (J T0 (J T0 (J T0 (J T0 (J T0 (J T0 (J T0 (J T1 (J (by decide : ((4 : Int) ≠ 0)) (J (Eq.refl (0 : Int)) (J (by decide : 0 < 4) (J (by decide : ((4 : Int) ≠ 0)) (J (tPut_0_ok s.tones_0 b) trivial))))))))))))) (by kernel_rfl)
theorem sPut_0_w (s : Snd) (b : Int) (w_s : Snd.ok s) (w_b : rng 256 b) : Snd.ok (sPut_0 s b) := by
  unfold sPut_0
  exact (⟨(tPut_0_w s.tones_0 b w_s.tones_0 w_b), w_s.tones_1, w_s.tones_2, w_s.tones_3, w_s.sample⟩ : Snd.ok ({ s with tones_0 := (tPut_0 s.tones_0 b) } : Snd))
def sPut_1 (s : Snd) (b : Int) : Snd :=
  ({ s with tones_0 := (tPut_1 s.tones_0 b) } : Snd)
theorem sPut_1_ok (s : Snd) (b : Int) : FnSpec Tryd.prog 12 1005 [.pointer (some ⟨1000, 0, none⟩), .int .u16 16385, .int .u8 b] (Snd.H0 s) (.tuple ⟨[]⟩) (Snd.H0 (sPut_1 s b)) := by
  unfold sPut_1
  exact fn_of_x hG hM Tryd.func12 (by kernel_rfl) (by kernel_rfl) 400 [.no, .no, .no, .no, .no, .no, .no, .yes, .lit 0, .call [(1001, 1000)] [] 1001 (.tuple ⟨[]⟩) [(1000, Tone.blk (tPut_1 s.tones_0 b))]] (J T0 (J T0 (J T0 (J T0 (J T0 (J T0 (J T0 (J T1 (J (by decide : ((4 : Int) ≠ 0)) (J (Eq.refl (0 : Int)) (J (by decide : 0 < 4) (J (by decide : ((4 : Int) ≠ 0)) (J (tPut_1_ok s.tones_0 b) trivial))))))))))))) (by kernel_rfl)
theorem sPut_1_w (s : Snd) (b : Int) (w_s : Snd.ok s) (w_b : rng 256 b) : Snd.ok (sPut_1 s b) := by
  unfold sPut_1
  exact (⟨(tPut_1_w s.tones_0 b w_s.tones_0 w_b), w_s.tones_1, w_s.tones_2, w_s.tones_3, w_s.sample⟩ : Snd.ok ({ s with tones_0 := (tPut_1 s.tones_0 b) } : Snd))
def sPut_2 (s : Snd) (b : Int) : Snd :=
  ({ s with tones_0 := (tPut_2 s.tones_0 b) } : Snd)
theorem sPut_2_ok (s : Snd) (b : Int) : FnSpec Tryd.prog 12 1005 [.pointer (some ⟨1000, 0, none⟩), .int .u16 16386, .int .u8 b] ([tb0] ++ (Snd.H0 s)) (.tuple ⟨[]⟩) (Snd.H0 (sPut_2 s b)) := by
  unfold sPut_2
  exact fn_of_x hG hM Tryd.func12 (by kernel_rfl) (by kernel_rfl) 400 [.no, .no, .no, .no, .no, .no, .no, .yes, .lit 0, .call [(0, 0), (1001, 1000)] [] 1001 (.tuple ⟨[]⟩) [(1000, Tone.blk (tPut_2 s.tones_0 b))]] (J T0 (J T0 (J T0 (J T0 (J T0 (J T0 (J T0 (J T1 (J (by decide : ((4 : Int) ≠ 0)) (J (Eq.refl (0 : Int)) (J (by decide : 0 < 4) (J (by decide : ((4 : Int) ≠ 0)) (J (tPut_2_ok s.tones_0 b) trivial))))))))))))) (by kernel_rfl)
theorem sPut_2_w (s : Snd) (b : Int) (w_s : Snd.ok s) (w_b : rng 256 b) : Snd.ok (sPut_2 s b) := by
  unfold sPut_2
  exact (⟨(tPut_2_w s.tones_0 b w_s.tones_0 w_b), w_s.tones_1, w_s.tones_2, w_s.tones_3, w_s.sample⟩ : Snd.ok ({ s with tones_0 := (tPut_2 s.tones_0 b) } : Snd))
def sPut_3 (s : Snd) (b : Int) : Snd :=
  ({ s with tones_0 := (tPut_3 s.tones_0 b) } : Snd)
theorem sPut_3_ok (s : Snd) (b : Int) (w_b : rng 256 b) : FnSpec Tryd.prog 12 1005 [.pointer (some ⟨1000, 0, none⟩), .int .u16 16387, .int .u8 b] ([tb4] ++ (Snd.H0 s)) (.tuple ⟨[]⟩) (Snd.H0 (sPut_3 s b)) := by
  unfold sPut_3
  exact fn_of_x hG hM Tryd.func12 (by kernel_rfl) (by kernel_rfl) 400 [.no, .no, .no, .no, .no, .no, .no, .yes, .lit 0, .call [(4, 4), (1001, 1000)] [] 1001 (.tuple ⟨[]⟩) [(1000, Tone.blk (tPut_3 s.tones_0 b))]] (J T0 (J T0 (J T0 (J T0 (J T0 (J T0 (J T0 (J T1 (J (by decide : ((4 : Int) ≠ 0)) (J (Eq.refl (0 : Int)) (J (by decide : 0 < 4) (J (by decide : ((4 : Int) ≠ 0)) (J (tPut_3_ok s.tones_0 b w_b) trivial))))))))))))) (by kernel_rfl)
theorem sPut_3_w (s : Snd) (b : Int) (w_s : Snd.ok s) (w_b : rng 256 b) : Snd.ok (sPut_3 s b) := by
  unfold sPut_3
  exact (⟨(tPut_3_w s.tones_0 b w_s.tones_0 w_b), w_s.tones_1, w_s.tones_2, w_s.tones_3, w_s.sample⟩ : Snd.ok ({ s with tones_0 := (tPut_3 s.tones_0 b) } : Snd))
def sPut_4 (s : Snd) (b : Int) : Snd :=
  ({ s with tones_1 := (tPut_0 s.tones_1 b) } : Snd)
theorem sPut_4_ok (s : Snd) (b : Int) : FnSpec Tryd.prog 12 1005 [.pointer (some ⟨1000, 0, none⟩), .int .u16 16388, .int .u8 b] (Snd.H0 s) (.tuple ⟨[]⟩) (Snd.H0 (sPut_4 s b)) := by
  unfold sPut_4
  exact fn_of_x hG hM Tryd.func12 (by kernel_rfl) (by kernel_rfl) 400 [.no, .no, .no, .no, .no, .no, .no, .yes, .lit 1, .call [(1002, 1000)] [] 1001 (.tuple ⟨[]⟩) [(1000, Tone.blk (tPut_0 s.tones_1 b))]] (J T0 (J T0 (J T0 (J T0 (J T0 (J T0 (J T0 (J T1 (J (by decide : ((4 : Int) ≠ 0)) (J (Eq.refl (1 : Int)) (J (by decide : 1 < 4) (J (by decide : ((4 : Int) ≠ 0)) (J (tPut_0_ok s.tones_1 b) trivial))))))))))))) (by kernel_rfl)
theorem sPut_4_w (s : Snd) (b : Int) (w_s : Snd.ok s) (w_b : rng 256 b) : Snd.ok (sPut_4 s b) := by
  unfold sPut_4
  exact (⟨w_s.tones_0, (tPut_0_w s.tones_1 b w_s.tones_1 w_b), w_s.tones_2, w_s.tones_3, w_s.sample⟩ : Snd.ok ({ s with tones_1 := (tPut_0 s.tones_1 b) } : Snd))
def sPut_5 (s : Snd) (b : Int) : Snd :=
  ({ s with tones_1 := (tPut_1 s.tones_1 b) } : Snd)
theorem sPut_5_ok (s : Snd) (b : Int) : FnSpec Tryd.prog 12 1005 [.pointer (some ⟨1000, 0, none⟩), .int .u16 16389, .int .u8 b] (Snd.H0 s) (.tuple ⟨[]⟩) (Snd.H0 (sPut_5 s b)) := by
  unfold sPut_5
  exact fn_of_x hG hM Tryd.func12 (by kernel_rfl) (by kernel_rfl) 400 [.no, .no, .no, .no, .no, .no, .no, .yes, .lit 1, .call [(1002, 1000)] [] 1001 (.tuple ⟨[]⟩) [(1000, Tone.blk (tPut_1 s.tones_1 b))]] (J T0 (J T0 (J T0 (J T0 (J T0 (J T0 (J T0 (J T1 (J (by decide : ((4 : Int) ≠ 0)) (J (Eq.refl (1 : Int)) (J (by decide : 1 < 4) (J (by decide : ((4 : Int) ≠ 0)) (J (tPut_1_ok s.tones_1 b) trivial))))))))))))) (by kernel_rfl)
theorem sPut_5_w (s : Snd) (b : Int) (w_s : Snd.ok s) (w_b : rng 256 b) : Snd.ok (sPut_5 s b) := by
  unfold sPut_5
  exact (⟨w_s.tones_0, (tPut_1_w s.tones_1 b w_s.tones_1 w_b), w_s.tones_2, w_s.tones_3, w_s.sample⟩ : Snd.ok ({ s with tones_1 := (tPut_1 s.tones_1 b) } : Snd))
def sPut_6 (s : Snd) (b : Int) : Snd :=
  ({ s with tones_1 := (tPut_2 s.tones_1 b) } : Snd)
theorem sPut_6_ok (s : Snd) (b : Int) : FnSpec Tryd.prog 12 1005 [.pointer (some ⟨1000, 0, none⟩), .int .u16 16390, .int .u8 b] ([tb0] ++ (Snd.H0 s)) (.tuple ⟨[]⟩) (Snd.H0 (sPut_6 s b)) := by
  unfold sPut_6
  exact fn_of_x hG hM Tryd.func12 (by kernel_rfl) (by kernel_rfl) 400 [.no, .no, .no, .no, .no, .no, .no, .yes, .lit 1, .call [(0, 0), (1002, 1000)] [] 1001 (.tuple ⟨[]⟩) [(1000, Tone.blk (tPut_2 s.tones_1 b))]] (J T0 (J T0 (J T0 (J T0 (J T0 (J T0 (J T0 (J T1 (J (by decide : ((4 : Int) ≠ 0)) (J (Eq.refl (1 : Int)) (J (by decide : 1 < 4) (J (by decide : ((4 : Int) ≠ 0)) (J (tPut_2_ok s.tones_1 b) trivial))))))))))))) (by kernel_rfl)
theorem sPut_6_w (s : Snd) (b : Int) (w_s : Snd.ok s) (w_b : rng 256 b) : Snd.ok (sPut_6 s b) := by
  unfold sPut_6
  exact (⟨w_s.tones_0, (tPut_2_w s.tones_1 b w_s.tones_1 w_b), w_s.tones_2, w_s.tones_3, w_s.sample⟩ : Snd.ok ({ s with tones_1 := (tPut_2 s.tones_1 b) } : Snd))
def sPut_7 (s : Snd) (b : Int) : Snd :=
  ({ s with tones_1 := (tPut_3 s.tones_1 b) } : Snd)
theorem sPut_7_ok (s : Snd) (b : Int) (w_b : rng 256 b) : FnSpec Tryd.prog 12 1005 [.pointer (some ⟨1000, 0, none⟩), .int .u16 16391, .int .u8 b] ([tb4] ++ (Snd.H0 s)) (.tuple ⟨[]⟩) (Snd.H0 (sPut_7 s b)) := by
  unfold sPut_7
  exact fn_of_x hG hM Tryd.func12 (by kernel_rfl) (by kernel_rfl) 400 [.no, .no, .no, .no, .no, .no, .no, .yes, .lit 1, .call [(4, 4), (1002, 1000)] [] 1001 (.tuple ⟨[]⟩) [(1000, Tone.blk (tPut_3 s.tones_1 b))]] (J T0 (J T0 (J T0 (J T0 (J T0 (J T0 (J T0 (J T1 (J (by decide : ((4 : Int) ≠ 0)) (J (Eq.refl (1 : Int)) (J (by decide : 1 < 4) (J (by decide : ((4 : Int) ≠ 0)) (J (tPut_3_ok s.tones_1 b w_b) trivial))))))))))))) (by kernel_rfl)
theorem sPut_7_w (s : Snd) (b : Int) (w_s : Snd.ok s) (w_b : rng 256 b) : Snd.ok (sPut_7 s b) := by
  unfold sPut_7
  exact (⟨w_s.tones_0, (tPut_3_w s.tones_1 b w_s.tones_1 w_b), w_s.tones_2, w_s.tones_3, w_s.sample⟩ : Snd.ok ({ s with tones_1 := (tPut_3 s.tones_1 b) } : Snd))
def sPut_8 (s : Snd) (b : Int) : Snd :=
  ({ s with tones_2 := (tPut_0 s.tones_2 b) } : Snd)
theorem sPut_8_ok (s : Snd) (b : Int) : FnSpec Tryd.prog 12 1005 [.pointer (some ⟨1000, 0, none⟩), .int .u16 16392, .int .u8 b] (Snd.H0 s) (.tuple ⟨[]⟩) (Snd.H0 (sPut_8 s b)) := by
  unfold sPut_8
  exact fn_of_x hG hM Tryd.func12 (by kernel_rfl) (by kernel_rfl) 400 [.no, .no, .no, .no, .no, .no, .no, .yes, .lit 2, .call [(1003, 1000)] [] 1001 (.tuple ⟨[]⟩) [(1000, Tone.blk (tPut_0 s.tones_2 b))]] (J T0 (J T0 (J T0 (J T0 (J T0 (J T0 (J T0 (J T1 (J (by decide : ((4 : Int) ≠ 0)) (J (Eq.refl (2 : Int)) (J (by decide : 2 < 4) (J (by decide : ((4 : Int) ≠ 0)) (J (tPut_0_ok s.tones_2 b) trivial))))))))))))) (by kernel_rfl)
theorem sPut_8_w (s : Snd) (b : Int) (w_s : Snd.ok s) (w_b : rng 256 b) : Snd.ok (sPut_8 s b) := by
  unfold sPut_8
  exact (⟨w_s.tones_0, w_s.tones_1, (tPut_0_w s.tones_2 b w_s.tones_2 w_b), w_s.tones_3, w_s.sample⟩ : Snd.ok ({ s with tones_2 := (tPut_0 s.tones_2 b) } : Snd))
def sPut_9 (s : Snd) (b : Int) : Snd :=
  ({ s with tones_2 := (tPut_1 s.tones_2 b) } : Snd)
theorem sPut_9_ok (s : Snd) (b : Int) : FnSpec Tryd.prog 12 1005 [.pointer (some ⟨1000, 0, none⟩), .int .u16 16393, .int .u8 b] (Snd.H0 s) (.tuple ⟨[]⟩) (Snd.H0 (sPut_9 s b)) := by
  unfold sPut_9
  exact fn_of_x hG hM Tryd.func12 (by kernel_rfl) (by kernel_rfl) 400 [.no, .no, .no, .no, .no, .no, .no, .yes, .lit 2, .call [(1003, 1000)] [] 1001 (.tuple ⟨[]⟩) [(1000, Tone.blk (tPut_1 s.tones_2 b))]] (J T0 (J T0 (J T0 (J T0 (J T0 (J T0 (J T0 (J T1 (J (by decide : ((4 : Int) ≠ 0)) (J (Eq.refl (2 : Int)) (J (by decide : 2 < 4) (J (by decide : ((4 : Int) ≠ 0)) (J (tPut_1_ok s.tones_2 b) trivial))))))))))))) (by kernel_rfl)
theorem sPut_9_w (s : Snd) (b : Int) (w_s : Snd.ok s) (w_b : rng 256 b) : Snd.ok (sPut_9 s b) := by
  unfold sPut_9
  exact (⟨w_s.tones_0, w_s.tones_1, (tPut_1_w s.tones_2 b w_s.tones_2 w_b), w_s.tones_3, w_s.sample⟩ : Snd.ok ({ s with tones_2 := (tPut_1 s.tones_2 b) } : Snd))
def sPut_10 (s : Snd) (b : Int) : Snd :=
  ({ s with tones_2 := (tPut_2 s.tones_2 b) } : Snd)
theorem sPut_10_ok (s : Snd) (b : Int) : FnSpec Tryd.prog 12 1005 [.pointer (some ⟨1000, 0, none⟩), .int .u16 16394, .int .u8 b] ([tb0] ++ (Snd.H0 s)) (.tuple ⟨[]⟩) (Snd.H0 (sPut_10 s b)) := by
  unfold sPut_10
  exact fn_of_x hG hM Tryd.func12 (by kernel_rfl) (by kernel_rfl) 400 [.no, .no, .no, .no, .no, .no, .no, .yes, .lit 2, .call [(0, 0), (1003, 1000)] [] 1001 (.tuple ⟨[]⟩) [(1000, Tone.blk (tPut_2 s.tones_2 b))]] (J T0 (J T0 (J T0 (J T0 (J T0 (J T0 (J T0 (J T1 (J (by decide : ((4 : Int) ≠ 0)) (J (Eq.refl (2 : Int)) (J (by decide : 2 < 4) (J (by decide : ((4 : Int) ≠ 0)) (J (tPut_2_ok s.tones_2 b) trivial))))))))))))) (by kernel_rfl)
theorem sPut_10_w (s : Snd) (b : Int) (w_s : Snd.ok s) (w_b : rng 256 b) : Snd.ok (sPut_10 s b) := by
  unfold sPut_10
  exact (⟨w_s.tones_0, w_s.tones_1, (tPut_2_w s.tones_2 b w_s.tones_2 w_b), w_s.tones_3, w_s.sample⟩ : Snd.ok ({ s with tones_2 := (tPut_2 s.tones_2 b) } : Snd))
def sPut_11 (s : Snd) (b : Int) : Snd :=
  ({ s with tones_2 := (tPut_3 s.tones_2 b) } : Snd)
theorem sPut_11_ok (s : Snd) (b : Int) (w_b : rng 256 b) : FnSpec Tryd.prog 12 1005 [.pointer (some ⟨1000, 0, none⟩), .int .u16 16395, .int .u8 b] ([tb4] ++ (Snd.H0 s)) (.tuple ⟨[]⟩) (Snd.H0 (sPut_11 s b)) := by
  unfold sPut_11
  exact fn_of_x hG hM Tryd.func12 (by kernel_rfl) (by kernel_rfl) 400 [.no, .no, .no, .no, .no, .no, .no, .yes, .lit 2, .call [(4, 4), (1003, 1000)] [] 1001 (.tuple ⟨[]⟩) [(1000, Tone.blk (tPut_3 s.tones_2 b))]] (J T0 (J T0 (J T0 (J T0 (J T0 (J T0 (J T0 (J T1 (J (by decide : ((4 : Int) ≠ 0)) (J (Eq.refl (2 : Int)) (J (by decide : 2 < 4) (J (by decide : ((4 : Int) ≠ 0)) (J (tPut_3_ok s.tones_2 b w_b) trivial))))))))))))) (by kernel_rfl)
theorem sPut_11_w (s : Snd) (b : Int) (w_s : Snd.ok s) (w_b : rng 256 b) : Snd.ok (sPut_11 s b) := by
  unfold sPut_11
  exact (⟨w_s.tones_0, w_s.tones_1, (tPut_3_w s.tones_2 b w_s.tones_2 w_b), w_s.tones_3, w_s.sample⟩ : Snd.ok ({ s with tones_2 := (tPut_3 s.tones_2 b) } : Snd))
def sPut_12 (s : Snd) (b : Int) : Snd :=
  ({ s with tones_3 := (tPut_0 s.tones_3 b) } : Snd)
theorem sPut_12_ok (s : Snd) (b : Int) : FnSpec Tryd.prog 12 1005 [.pointer (some ⟨1000, 0, none⟩), .int .u16 16396, .int .u8 b] (Snd.H0 s) (.tuple ⟨[]⟩) (Snd.H0 (sPut_12 s b)) := by
  unfold sPut_12
  exact fn_of_x hG hM Tryd.func12 (by kernel_rfl) (by kernel_rfl) 400 [.no, .no, .no, .no, .no, .no, .no, .yes, .lit 3, .call [(1004, 1000)] [] 1001 (.tuple ⟨[]⟩) [(1000, Tone.blk (tPut_0 s.tones_3 b))]] (J T0 (J T0 (J T0 (J T0 (J T0 (J T0 (J T0 (J T1 (J (by decide : ((4 : Int) ≠ 0)) (J (Eq.refl (3 : Int)) (J (by decide : 3 < 4) (J (by decide : ((4 : Int) ≠ 0)) (J (tPut_0_ok s.tones_3 b) trivial))))))))))))) (by kernel_rfl)
theorem sPut_12_w (s : Snd) (b : Int) (w_s : Snd.ok s) (w_b : rng 256 b) : Snd.ok (sPut_12 s b) := by
  unfold sPut_12
  exact (⟨w_s.tones_0, w_s.tones_1, w_s.tones_2, (tPut_0_w s.tones_3 b w_s.tones_3 w_b), w_s.sample⟩ : Snd.ok ({ s with tones_3 := (tPut_0 s.tones_3 b) } : Snd))
def sPut_13 (s : Snd) (b : Int) : Snd :=
  ({ s with tones_3 := (tPut_1 s.tones_3 b) } : Snd)
theorem sPut_13_ok (s : Snd) (b : Int) : FnSpec Tryd.prog 12 1005 [.pointer (some ⟨1000, 0, none⟩), .int .u16 16397, .int .u8 b] (Snd.H0 s) (.tuple ⟨[]⟩) (Snd.H0 (sPut_13 s b)) := by
  unfold sPut_13
  exact fn_of_x hG hM Tryd.func12 (by kernel_rfl) (by kernel_rfl) 400 [.no, .no, .no, .no, .no, .no, .no, .yes, .lit 3, .call [(1004, 1000)] [] 1001 (.tuple ⟨[]⟩) [(1000, Tone.blk (tPut_1 s.tones_3 b))]] (J T0 (J T0 (J T0 (J T0 (J T0 (J T0 (J T0 (J T1 (J (by decide : ((4 : Int) ≠ 0)) (J (Eq.refl (3 : Int)) (J (by decide : 3 < 4) (J (by decide : ((4 : Int) ≠ 0)) (J (tPut_1_ok s.tones_3 b) trivial))))))))))))) (by kernel_rfl)
theorem sPut_13_w (s : Snd) (b : Int) (w_s : Snd.ok s) (w_b : rng 256 b) : Snd.ok (sPut_13 s b) := by
  unfold sPut_13
  exact (⟨w_s.tones_0, w_s.tones_1, w_s.tones_2, (tPut_1_w s.tones_3 b w_s.tones_3 w_b), w_s.sample⟩ : Snd.ok ({ s with tones_3 := (tPut_1 s.tones_3 b) } : Snd))
def sPut_14 (s : Snd) (b : Int) : Snd :=
  ({ s with tones_3 := (tPut_2 s.tones_3 b) } : Snd)
theorem sPut_14_ok (s : Snd) (b : Int) : FnSpec Tryd.prog 12 1005 [.pointer (some ⟨1000, 0, none⟩), .int .u16 16398, .int .u8 b] ([tb0] ++ (Snd.H0 s)) (.tuple ⟨[]⟩) (Snd.H0 (sPut_14 s b)) := by
  unfold sPut_14
  exact fn_of_x hG hM Tryd.func12 (by kernel_rfl) (by kernel_rfl) 400 [.no, .no, .no, .no, .no, .no, .no, .yes, .lit 3, .call [(0, 0), (1004, 1000)] [] 1001 (.tuple ⟨[]⟩) [(1000, Tone.blk (tPut_2 s.tones_3 b))]] (J T0 (J T0 (J T0 (J T0 (J T0 (J T0 (J T0 (J T1 (J (by decide : ((4 : Int) ≠ 0)) (J (Eq.refl (3 : Int)) (J (by decide : 3 < 4) (J (by decide : ((4 : Int) ≠ 0)) (J (tPut_2_ok s.tones_3 b) trivial))))))))))))) (by kernel_rfl)
theorem sPut_14_w (s : Snd) (b : Int) (w_s : Snd.ok s) (w_b : rng 256 b) : Snd.ok (sPut_14 s b) := by
  unfold sPut_14
  exact (⟨w_s.tones_0, w_s.tones_1, w_s.tones_2, (tPut_2_w s.tones_3 b w_s.tones_3 w_b), w_s.sample⟩ : Snd.ok ({ s with tones_3 := (tPut_2 s.tones_3 b) } : Snd))
def sPut_15 (s : Snd) (b : Int) : Snd :=
  ({ s with tones_3 := (tPut_3 s.tones_3 b) } : Snd)
theorem sPut_15_ok (s : Snd) (b : Int) (w_b : rng 256 b) : FnSpec Tryd.prog 12 1005 [.pointer (some ⟨1000, 0, none⟩), .int .u16 16399, .int .u8 b] ([tb4] ++ (Snd.H0 s)) (.tuple ⟨[]⟩) (Snd.H0 (sPut_15 s b)) := by
  unfold sPut_15
  exact fn_of_x hG hM Tryd.func12 (by kernel_rfl) (by kernel_rfl) 400 [.no, .no, .no, .no, .no, .no, .no, .yes, .lit 3, .call [(4, 4), (1004, 1000)] [] 1001 (.tuple ⟨[]⟩) [(1000, Tone.blk (tPut_3 s.tones_3 b))]] (J T0 (J T0 (J T0 (J T0 (J T0 (J T0 (J T0 (J T1 (J (by decide : ((4 : Int) ≠ 0)) (J (Eq.refl (3 : Int)) (J (by decide : 3 < 4) (J (by decide : ((4 : Int) ≠ 0)) (J (tPut_3_ok s.tones_3 b w_b) trivial))))))))))))) (by kernel_rfl)
theorem sPut_15_w (s : Snd) (b : Int) (w_s : Snd.ok s) (w_b : rng 256 b) : Snd.ok (sPut_15 s b) := by
  unfold sPut_15
  exact (⟨w_s.tones_0, w_s.tones_1, w_s.tones_2, (tPut_3_w s.tones_3 b w_s.tones_3 w_b), w_s.sample⟩ : Snd.ok ({ s with tones_3 := (tPut_3 s.tones_3 b) } : Snd))
def sPut_16 (s : Snd) (b : Int) : Snd :=
  (mPut_0 s b)
theorem sPut_16_ok (s : Snd) (b : Int) : FnSpec Tryd.prog 12 1005 [.pointer (some ⟨1000, 0, none⟩), .int .u16 16400, .int .u8 b] (Snd.H0 s) (.tuple ⟨[]⟩) (Snd.H0 (sPut_16 s b)) := by
  unfold sPut_16
  exact fn_of_x hG hM Tryd.func12 (by kernel_rfl) (by kernel_rfl) 400 [.no, .no, .no, .no, .no, .no, .no, .no, .yes, .call [(1000, 1000), (1001, 1001), (1002, 1002), (1003, 1003), (1004, 1004)] [] 1005 (.tuple ⟨[]⟩) (Snd.H0 (mPut_0 s b))] (J T0 (J T0 (J T0 (J T0 (J T0 (J T0 (J T0 (J T0 (J T1 (J (mPut_0_ok s b) trivial)))))))))) (by kernel_rfl)
theorem sPut_16_w (s : Snd) (b : Int) (w_s : Snd.ok s) (w_b : rng 256 b) : Snd.ok (sPut_16 s b) := by
  unfold sPut_16
  exact (mPut_0_w s b w_s w_b)
def sPut_17 (s : Snd) (b : Int) : Snd :=
  (mPut_1 s b)
theorem sPut_17_ok (s : Snd) (b : Int) : FnSpec Tryd.prog 12 1005 [.pointer (some ⟨1000, 0, none⟩), .int .u16 16401, .int .u8 b] (Snd.H0 s) (.tuple ⟨[]⟩) (Snd.H0 (sPut_17 s b)) := by
  unfold sPut_17
  exact fn_of_x hG hM Tryd.func12 (by kernel_rfl) (by kernel_rfl) 400 [.no, .no, .no, .no, .no, .no, .no, .no, .yes, .call [(1000, 1000), (1001, 1001), (1002, 1002), (1003, 1003), (1004, 1004)] [] 1005 (.tuple ⟨[]⟩) (Snd.H0 (mPut_1 s b))] (J T0 (J T0 (J T0 (J T0 (J T0 (J T0 (J T0 (J T0 (J T1 (J (mPut_1_ok s b) trivial)))))))))) (by kernel_rfl)
theorem sPut_17_w (s : Snd) (b : Int) (w_s : Snd.ok s) (w_b : rng 256 b) : Snd.ok (sPut_17 s b) := by
  unfold sPut_17
  exact (mPut_1_w s b w_s w_b)
def sPut_18 (s : Snd) (b : Int) : Snd :=
  (mPut_2 s b)
theorem sPut_18_ok (s : Snd) (b : Int) : FnSpec Tryd.prog 12 1005 [.pointer (some ⟨1000, 0, none⟩), .int .u16 16402, .int .u8 b] (Snd.H0 s) (.tuple ⟨[]⟩) (Snd.H0 (sPut_18 s b)) := by
  unfold sPut_18
  exact fn_of_x hG hM Tryd.func12 (by kernel_rfl) (by kernel_rfl) 400 [.no, .no, .no, .no, .no, .no, .no, .no, .yes, .call [(1000, 1000), (1001, 1001), (1002, 1002), (1003, 1003), (1004, 1004)] [] 1005 (.tuple ⟨[]⟩) (Snd.H0 (mPut_2 s b))] (J T0 (J T0 (J T0 (J T0 (J T0 (J T0 (J T0 (J T0 (J T1 (J (mPut_2_ok s b) trivial)))))))))) (by kernel_rfl)
theorem sPut_18_w (s : Snd) (b : Int) (w_s : Snd.ok s) (w_b : rng 256 b) : Snd.ok (sPut_18 s b) := by
  unfold sPut_18
  exact (mPut_2_w s b w_s w_b)
def sPut_19 (s : Snd) (b : Int) : Snd :=
  (mPut_3 s b)
theorem sPut_19_ok (s : Snd) (b : Int) : FnSpec Tryd.prog 12 1005 [.pointer (some ⟨1000, 0, none⟩), .int .u16 16403, .int .u8 b] (Snd.H0 s) (.tuple ⟨[]⟩) (Snd.H0 (sPut_19 s b)) := by
  unfold sPut_19
  exact fn_of_x hG hM Tryd.func12 (by kernel_rfl) (by kernel_rfl) 400 [.no, .no, .no, .no, .no, .no, .no, .no, .yes, .call [(1000, 1000), (1001, 1001), (1002, 1002), (1003, 1003), (1004, 1004)] [] 1005 (.tuple ⟨[]⟩) (Snd.H0 (mPut_3 s b))] (J T0 (J T0 (J T0 (J T0 (J T0 (J T0 (J T0 (J T0 (J T1 (J (mPut_3_ok s b) trivial)))))))))) (by kernel_rfl)
theorem sPut_19_w (s : Snd) (b : Int) (w_s : Snd.ok s) (w_b : rng 256 b) : Snd.ok (sPut_19 s b) := by
  unfold sPut_19
  exact (mPut_3_w s b w_s w_b)
def sPut_20 (s : Snd) (b : Int) : Unit :=
  ()
theorem sPut_20_ok (s : Snd) (b : Int) : FnSpec Tryd.prog 12 1005 [.pointer (some ⟨1000, 0, none⟩), .int .u16 16404, .int .u8 b] (Snd.H0 s) (.tuple ⟨[]⟩) (Snd.H0 s) := by
  exact fn_of_x hG hM Tryd.func12 (by kernel_rfl) (by kernel_rfl) 400 [.no, .no, .no, .no, .no, .no, .no, .no, .no, .no, .no] (J T0 (J T0 (J T0 (J T0 (J T0 (J T0 (J T0 (J T0 (J T0 (J T0 (J T0 trivial))))))))))) (by kernel_rfl)
def sPut_21 (s : Snd) (b : Int) : Snd :=
  (mEnable ({ s with tones_0 := (tEnable s.tones_0 ((bAnd .u8 (bShr .u8 b 0) 1) != 0)), tones_1 := (tEnable s.tones_1 ((bAnd .u8 (bShr .u8 b 1) 1) != 0)), tones_2 := (tEnable s.tones_2 ((bAnd .u8 (bShr .u8 b 2) 1) != 0)), tones_3 := (tEnable s.tones_3 ((bAnd .u8 (bShr .u8 b 3) 1) != 0)) } : Snd) ((bAnd .u8 b 16) != 0))
theorem sPut_21_ok (s : Snd) (b : Int) : FnSpec Tryd.prog 12 1005 [.pointer (some ⟨1000, 0, none⟩), .int .u16 16405, .int .u8 b] (Snd.H0 s) (.tuple ⟨[]⟩) (Snd.H0 (sPut_21 s b)) := by
  unfold sPut_21
  exact fn_of_x hG hM Tryd.func12 (by kernel_rfl) (by kernel_rfl) 400 [.no, .no, .no, .no, .no, .no, .no, .no, .no, .yes, .unroll, .yes, .lit 0, .call [(1001, 1000)] [] 1001 (.tuple ⟨[]⟩) [(1000, Tone.blk (tEnable s.tones_0 ((bAnd .u8 (bShr .u8 b 0) 1) != 0)))], .unroll, .yes, .lit 1, .call [(1002, 1000)] [] 1001 (.tuple ⟨[]⟩) [(1000, Tone.blk (tEnable s.tones_1 ((bAnd .u8 (bShr .u8 b 1) 1) != 0)))], .unroll, .yes, .lit 2, .call [(1003, 1000)] [] 1001 (.tuple ⟨[]⟩) [(1000, Tone.blk (tEnable s.tones_2 ((bAnd .u8 (bShr .u8 b 2) 1) != 0)))], .unroll, .yes, .lit 3, .call [(1004, 1000)] [] 1001 (.tuple ⟨[]⟩) [(1000, Tone.blk (tEnable s.tones_3 ((bAnd .u8 (bShr .u8 b 3) 1) != 0)))], .unroll, .no, .call [(1000, 1000), (1001, 1001), (1002, 1002), (1003, 1003), (1004, 1004)] [] 1005 (.tuple ⟨[]⟩) (Snd.H0 (mEnable ({ s with tones_0 := (tEnable s.tones_0 ((bAnd .u8 (bShr .u8 b 0) 1) != 0)), tones_1 := (tEnable s.tones_1 ((bAnd .u8 (bShr .u8 b 1) 1) != 0)), tones_2 := (tEnable s.tones_2 ((bAnd .u8 (bShr .u8 b 2) 1) != 0)), tones_3 := (tEnable s.tones_3 ((bAnd .u8 (bShr .u8 b 3) 1) != 0)) } : Snd) ((bAnd .u8 b 16) != 0)))] (J T0 (J T0 (J T0 (J T0 (J T0 (J T0 (J T0 (J T0 (J T0 (J T1 (J T1 (J (Eq.refl (0 : Int)) (J (by decide : 0 < 4) (J (by decide : (0 : Int) ≤ 0) (J (tEnable_ok s.tones_0 ((bAnd .u8 (bShr .u8 b 0) 1) != 0)) (J T1 (J (Eq.refl (1 : Int)) (J (by decide : 1 < 4) (J (by decide : (0 : Int) ≤ 1) (J (tEnable_ok s.tones_1 ((bAnd .u8 (bShr .u8 b 1) 1) != 0)) (J T1 (J (Eq.refl (2 : Int)) (J (by decide : 2 < 4) (J (by decide : (0 : Int) ≤ 2) (J (tEnable_ok s.tones_2 ((bAnd .u8 (bShr .u8 b 2) 1) != 0)) (J T1 (J (Eq.refl (3 : Int)) (J (by decide : 3 < 4) (J (by decide : (0 : Int) ≤ 3) (J (tEnable_ok s.tones_3 ((bAnd .u8 (bShr .u8 b 3) 1) != 0)) (J T0 (J (mEnable_ok ({ s with tones_0 := (tEnable s.tones_0 ((bAnd .u8 (bShr .u8 b 0) 1) != 0)), tones_1 := (tEnable s.tones_1 ((bAnd .u8 (bShr .u8 b 1) 1) != 0)), tones_2 := (tEnable s.tones_2 ((bAnd .u8 (bShr .u8 b 2) 1) != 0)), tones_3 := (tEnable s.tones_3 ((bAnd .u8 (bShr .u8 b 3) 1) != 0)) } : Snd) ((bAnd .u8 b 16) != 0)) trivial)))))))))))))))))))))))))))))))) (by kernel_rfl)
theorem sPut_21_w (s : Snd) (b : Int) (w_s : Snd.ok s) (w_b : rng 256 b) : Snd.ok (sPut_21 s b) := by
  unfold sPut_21
  exact (mEnable_w ({ s with tones_0 := (tEnable s.tones_0 ((bAnd .u8 (bShr .u8 b 0) 1) != 0)), tones_1 := (tEnable s.tones_1 ((bAnd .u8 (bShr .u8 b 1) 1) != 0)), tones_2 := (tEnable s.tones_2 ((bAnd .u8 (bShr .u8 b 2) 1) != 0)), tones_3 := (tEnable s.tones_3 ((bAnd .u8 (bShr .u8 b 3) 1) != 0)) } : Snd) ((bAnd .u8 b 16) != 0) (⟨(tEnable_w s.tones_0 ((bAnd .u8 (bShr .u8 b 0) 1) != 0) w_s.tones_0), (tEnable_w s.tones_1 ((bAnd .u8 (bShr .u8 b 1) 1) != 0) w_s.tones_1), (tEnable_w s.tones_2 ((bAnd .u8 (bShr .u8 b 2) 1) != 0) w_s.tones_2), (tEnable_w s.tones_3 ((bAnd .u8 (bShr .u8 b 3) 1) != 0) w_s.tones_3), w_s.sample⟩ : Snd.ok ({ s with tones_0 := (tEnable s.tones_0 ((bAnd .u8 (bShr .u8 b 0) 1) != 0)), tones_1 := (tEnable s.tones_1 ((bAnd .u8 (bShr .u8 b 1) 1) != 0)), tones_2 := (tEnable s.tones_2 ((bAnd .u8 (bShr .u8 b 2) 1) != 0)), tones_3 := (tEnable s.tones_3 ((bAnd .u8 (bShr .u8 b 3) 1) != 0)) } : Snd)))
def sPut_22 (s : Snd) (b : Int) : Unit :=
  ()
theorem sPut_22_ok (s : Snd) (b : Int) : FnSpec Tryd.prog 12 1005 [.pointer (some ⟨1000, 0, none⟩), .int .u16 16406, .int .u8 b] (Snd.H0 s) (.tuple ⟨[]⟩) (Snd.H0 s) := by
  exact fn_of_x hG hM Tryd.func12 (by kernel_rfl) (by kernel_rfl) 400 [.no, .no, .no, .no, .no, .no, .no, .no, .no, .no, .no] (J T0 (J T0 (J T0 (J T0 (J T0 (J T0 (J T0 (J T0 (J T0 (J T0 (J T0 trivial))))))))))) (by kernel_rfl)
def sPut_23 (s : Snd) (b : Int) : Snd :=
  (sRestart s b)
theorem sPut_23_ok (s : Snd) (b : Int) : FnSpec Tryd.prog 12 1005 [.pointer (some ⟨1000, 0, none⟩), .int .u16 16407, .int .u8 b] (Snd.H0 s) (.tuple ⟨[]⟩) (Snd.H0 (sPut_23 s b)) := by
  unfold sPut_23
  exact fn_of_x hG hM Tryd.func12 (by kernel_rfl) (by kernel_rfl) 400 [.no, .no, .no, .no, .no, .no, .no, .no, .no, .no, .yes, .call [(1000, 1000), (1001, 1001), (1002, 1002), (1003, 1003), (1004, 1004)] [] 1005 (.tuple ⟨[]⟩) (Snd.H0 (sRestart s b))] (J T0 (J T0 (J T0 (J T0 (J T0 (J T0 (J T0 (J T0 (J T0 (J T0 (J T1 (J (sRestart_ok s b) trivial)))))))))))) (by kernel_rfl)
theorem sPut_23_w (s : Snd) (b : Int) (w_s : Snd.ok s) (w_b : rng 256 b) : Snd.ok (sPut_23 s b) := by
  unfold sPut_23
  exact (sRestart_w s b w_s w_b)
def sTick_0 (s : Snd) : Snd :=
  if ((i64.wrap (s.count + 1)) != 7457) = true then
    if ((i64.wrap (s.count + 1)) != 14913) = true then
      if ((i64.wrap (s.count + 1)) != 22371) = true then
        if ((i64.wrap (s.count + 1)) != 29829) = true then
          if (decide ((i64.wrap (s.count + 1)) > 29829)) = true then
            ({ s with count := 0 } : Snd)
          else
            ({ s with count := (i64.wrap (s.count + 1)) } : Snd)
        else
          if s.irq = true then
            if (decide ((i64.wrap (s.count + 1)) > 29829)) = true then
              ({ tones_0 := (tHalf (tQuarter s.tones_0)), tones_1 := (tHalf (tQuarter s.tones_1)), tones_2 := (tHalf (tQuarter s.tones_2)), tones_3 := (tHalf (tQuarter s.tones_3)), sample := s.sample, count := 0, manner := s.manner, bars := s.bars, irq := true, even := s.even } : Snd)
            else
              ({ tones_0 := (tHalf (tQuarter s.tones_0)), tones_1 := (tHalf (tQuarter s.tones_1)), tones_2 := (tHalf (tQuarter s.tones_2)), tones_3 := (tHalf (tQuarter s.tones_3)), sample := s.sample, count := (i64.wrap (s.count + 1)), manner := s.manner, bars := s.bars, irq := true, even := s.even } : Snd)
          else
            if (decide ((i64.wrap (s.count + 1)) > 29829)) = true then
              ({ tones_0 := (tHalf (tQuarter s.tones_0)), tones_1 := (tHalf (tQuarter s.tones_1)), tones_2 := (tHalf (tQuarter s.tones_2)), tones_3 := (tHalf (tQuarter s.tones_3)), sample := s.sample, count := 0, manner := s.manner, bars := s.bars, irq := (!s.bars), even := s.even } : Snd)
            else
              ({ tones_0 := (tHalf (tQuarter s.tones_0)), tones_1 := (tHalf (tQuarter s.tones_1)), tones_2 := (tHalf (tQuarter s.tones_2)), tones_3 := (tHalf (tQuarter s.tones_3)), sample := s.sample, count := (i64.wrap (s.count + 1)), manner := s.manner, bars := s.bars, irq := (!s.bars), even := s.even } : Snd)
      else
        if s.irq = true then
          if (decide ((i64.wrap (s.count + 1)) > 29829)) = true then
            ({ tones_0 := (tQuarter s.tones_0), tones_1 := (tQuarter s.tones_1), tones_2 := (tQuarter s.tones_2), tones_3 := (tQuarter s.tones_3), sample := s.sample, count := 0, manner := s.manner, bars := s.bars, irq := true, even := s.even } : Snd)
          else
            ({ tones_0 := (tQuarter s.tones_0), tones_1 := (tQuarter s.tones_1), tones_2 := (tQuarter s.tones_2), tones_3 := (tQuarter s.tones_3), sample := s.sample, count := (i64.wrap (s.count + 1)), manner := s.manner, bars := s.bars, irq := true, even := s.even } : Snd)
        else
          if (decide ((i64.wrap (s.count + 1)) > 29829)) = true then
            ({ tones_0 := (tQuarter s.tones_0), tones_1 := (tQuarter s.tones_1), tones_2 := (tQuarter s.tones_2), tones_3 := (tQuarter s.tones_3), sample := s.sample, count := 0, manner := s.manner, bars := s.bars, irq := false, even := s.even } : Snd)
          else
            ({ tones_0 := (tQuarter s.tones_0), tones_1 := (tQuarter s.tones_1), tones_2 := (tQuarter s.tones_2), tones_3 := (tQuarter s.tones_3), sample := s.sample, count := (i64.wrap (s.count + 1)), manner := s.manner, bars := s.bars, irq := false, even := s.even } : Snd)
    else
      if s.irq = true then
        if (decide ((i64.wrap (s.count + 1)) > 29829)) = true then
          ({ tones_0 := (tHalf (tQuarter s.tones_0)), tones_1 := (tHalf (tQuarter s.tones_1)), tones_2 := (tHalf (tQuarter s.tones_2)), tones_3 := (tHalf (tQuarter s.tones_3)), sample := s.sample, count := 0, manner := s.manner, bars := s.bars, irq := true, even := s.even } : Snd)
        else
          ({ tones_0 := (tHalf (tQuarter s.tones_0)), tones_1 := (tHalf (tQuarter s.tones_1)), tones_2 := (tHalf (tQuarter s.tones_2)), tones_3 := (tHalf (tQuarter s.tones_3)), sample := s.sample, count := (i64.wrap (s.count + 1)), manner := s.manner, bars := s.bars, irq := true, even := s.even } : Snd)
      else
        if (decide ((i64.wrap (s.count + 1)) > 29829)) = true then
          ({ tones_0 := (tHalf (tQuarter s.tones_0)), tones_1 := (tHalf (tQuarter s.tones_1)), tones_2 := (tHalf (tQuarter s.tones_2)), tones_3 := (tHalf (tQuarter s.tones_3)), sample := s.sample, count := 0, manner := s.manner, bars := s.bars, irq := false, even := s.even } : Snd)
        else
          ({ tones_0 := (tHalf (tQuarter s.tones_0)), tones_1 := (tHalf (tQuarter s.tones_1)), tones_2 := (tHalf (tQuarter s.tones_2)), tones_3 := (tHalf (tQuarter s.tones_3)), sample := s.sample, count := (i64.wrap (s.count + 1)), manner := s.manner, bars := s.bars, irq := false, even := s.even } : Snd)
  else
    if s.irq = true then
      if (decide ((i64.wrap (s.count + 1)) > 29829)) = true then
        ({ tones_0 := (tQuarter s.tones_0), tones_1 := (tQuarter s.tones_1), tones_2 := (tQuarter s.tones_2), tones_3 := (tQuarter s.tones_3), sample := s.sample, count := 0, manner := s.manner, bars := s.bars, irq := true, even := s.even } : Snd)
      else
        ({ tones_0 := (tQuarter s.tones_0), tones_1 := (tQuarter s.tones_1), tones_2 := (tQuarter s.tones_2), tones_3 := (tQuarter s.tones_3), sample := s.sample, count := (i64.wrap (s.count + 1)), manner := s.manner, bars := s.bars, irq := true, even := s.even } : Snd)
    else
      if (decide ((i64.wrap (s.count + 1)) > 29829)) = true then
        ({ tones_0 := (tQuarter s.tones_0), tones_1 := (tQuarter s.tones_1), tones_2 := (tQuarter s.tones_2), tones_3 := (tQuarter s.tones_3), sample := s.sample, count := 0, manner := s.manner, bars := s.bars, irq := false, even := s.even } : Snd)
      else
        ({ tones_0 := (tQuarter s.tones_0), tones_1 := (tQuarter s.tones_1), tones_2 := (tQuarter s.tones_2), tones_3 := (tQuarter s.tones_3), sample := s.sample, count := (i64.wrap (s.count + 1)), manner := s.manner, bars := s.bars, irq := false, even := s.even } : Snd)
theorem sTick_0_ok (s : Snd) (hm : s.manner = 0) : FnSpec Tryd.prog 35 1005 [.pointer (some ⟨1000, 0, none⟩)] ([tb1] ++ (Snd.H0 s)) (.tuple ⟨[]⟩) (Snd.H0 (sTick_0 s)) := by
  unfold sTick_0
  rcases bt ((i64.wrap (s.count + 1)) != 7457) with c1 | c1
  · rw [if_pos c1]
    rcases bt ((i64.wrap (s.count + 1)) != 14913) with c2 | c2
    · rw [if_pos c2]
      rcases bt ((i64.wrap (s.count + 1)) != 22371) with c3 | c3
      · rw [if_pos c3]
        rcases bt ((i64.wrap (s.count + 1)) != 29829) with c4 | c4
        · rw [if_pos c4]
          rcases bt (decide ((i64.wrap (s.count + 1)) > 29829)) with c5 | c5
          · rw [if_pos c5]
            exact fn_of_x hG hM Tryd.func35 (by kernel_rfl) (by kernel_rfl) 400 [.eq 14 (.int .i64 0), .lit 0, .unroll, .yes, .lit 0, .yes, .unroll, .yes, .lit 1, .yes, .unroll, .yes, .lit 2, .yes, .unroll, .yes, .lit 3, .yes, .unroll, .no, .eq 67 (.int .i64 0), .lit 0, .lit 3, .yes] (J (congrArg (Value.int .i64) hm : Value.int .i64 s.manner = Value.int .i64 0) (J (Eq.refl (0 : Int)) (J (by decide : 0 < 2) (J T1 (J (Eq.refl (0 : Int)) (J (by decide : 0 < 4) (J c1 (J T1 (J (Eq.refl (1 : Int)) (J (by decide : 1 < 4) (J c2 (J T1 (J (Eq.refl (2 : Int)) (J (by decide : 2 < 4) (J c3 (J T1 (J (Eq.refl (3 : Int)) (J (by decide : 3 < 4) (J c4 (J T0 (J (congrArg (Value.int .i64) hm : Value.int .i64 s.manner = Value.int .i64 0) (J (Eq.refl (0 : Int)) (J (by decide : 0 < 2) (J (Eq.refl (3 : Int)) (J (by decide : 3 < 4) (J c5 trivial)))))))))))))))))))))))))) (by kernel_rfl)
          · rw [if_neg (nt c5)]
            exact fn_of_x hG hM Tryd.func35 (by kernel_rfl) (by kernel_rfl) 400 [.eq 14 (.int .i64 0), .lit 0, .unroll, .yes, .lit 0, .yes, .unroll, .yes, .lit 1, .yes, .unroll, .yes, .lit 2, .yes, .unroll, .yes, .lit 3, .yes, .unroll, .no, .eq 67 (.int .i64 0), .lit 0, .lit 3, .no] (J (congrArg (Value.int .i64) hm : Value.int .i64 s.manner = Value.int .i64 0) (J (Eq.refl (0 : Int)) (J (by decide : 0 < 2) (J T1 (J (Eq.refl (0 : Int)) (J (by decide : 0 < 4) (J c1 (J T1 (J (Eq.refl (1 : Int)) (J (by decide : 1 < 4) (J c2 (J T1 (J (Eq.refl (2 : Int)) (J (by decide : 2 < 4) (J c3 (J T1 (J (Eq.refl (3 : Int)) (J (by decide : 3 < 4) (J c4 (J T0 (J (congrArg (Value.int .i64) hm : Value.int .i64 s.manner = Value.int .i64 0) (J (Eq.refl (0 : Int)) (J (by decide : 0 < 2) (J (Eq.refl (3 : Int)) (J (by decide : 3 < 4) (J c5 trivial)))))))))))))))))))))))))) (by kernel_rfl)
        · rw [if_neg (nt c4)]
          rcases bt s.irq with c5 | c5
          · rw [if_pos c5]
            rcases bt (decide ((i64.wrap (s.count + 1)) > 29829)) with c6 | c6
            · rw [if_pos c6]
              exact fn_of_x hG hM Tryd.func35 (by kernel_rfl) (by kernel_rfl) 400 [.eq 14 (.int .i64 0), .lit 0, .unroll, .yes, .lit 0, .yes, .unroll, .yes, .lit 1, .yes, .unroll, .yes, .lit 2, .yes, .unroll, .yes, .lit 3, .no, .call [(1000, 1000), (1001, 1001), (1002, 1002), (1003, 1003), (1004, 1004)] [] 1005 (.tuple ⟨[]⟩) (Snd.H0 ({ s with tones_0 := (tQuarter s.tones_0), tones_1 := (tQuarter s.tones_1), tones_2 := (tQuarter s.tones_2), tones_3 := (tQuarter s.tones_3), count := (i64.wrap (s.count + 1)) } : Snd)), .yes, .call [(1000, 1000), (1001, 1001), (1002, 1002), (1003, 1003), (1004, 1004)] [] 1005 (.tuple ⟨[]⟩) (Snd.H0 ({ s with tones_0 := (tHalf (tQuarter s.tones_0)), tones_1 := (tHalf (tQuarter s.tones_1)), tones_2 := (tHalf (tQuarter s.tones_2)), tones_3 := (tHalf (tQuarter s.tones_3)), count := (i64.wrap (s.count + 1)) } : Snd)), .yes, .yes, .yes, .yes, .yes, .yes, .yes, .unroll, .no, .eq 67 (.int .i64 0), .lit 0, .lit 3, .yes] (J (congrArg (Value.int .i64) hm : Value.int .i64 s.manner = Value.int .i64 0) (J (Eq.refl (0 : Int)) (J (by decide : 0 < 2) (J T1 (J (Eq.refl (0 : Int)) (J (by decide : 0 < 4) (J c1 (J T1 (J (Eq.refl (1 : Int)) (J (by decide : 1 < 4) (J c2 (J T1 (J (Eq.refl (2 : Int)) (J (by decide : 2 < 4) (J c3 (J T1 (J (Eq.refl (3 : Int)) (J (by decide : 3 < 4) (J c4 (J (sAllQ_ok ({ s with count := (i64.wrap (s.count + 1)) } : Snd)) (J (by decide : ((2 : Int) ≠ 0)) (J T1 (J (sAllH_ok ({ s with tones_0 := (tQuarter s.tones_0), tones_1 := (tQuarter s.tones_1), tones_2 := (tQuarter s.tones_2), tones_3 := (tQuarter s.tones_3), count := (i64.wrap (s.count + 1)) } : Snd)) (J c5 (J c5 (J c5 (J c5 (J c5 (J c5 (J c5 (J T0 (J (congrArg (Value.int .i64) hm : Value.int .i64 s.manner = Value.int .i64 0) (J (Eq.refl (0 : Int)) (J (by decide : 0 < 2) (J (Eq.refl (3 : Int)) (J (by decide : 3 < 4) (J c6 trivial))))))))))))))))))))))))))))))))))))) (by kernel_rfl)
            · rw [if_neg (nt c6)]
              exact fn_of_x hG hM Tryd.func35 (by kernel_rfl) (by kernel_rfl) 400 [.eq 14 (.int .i64 0), .lit 0, .unroll, .yes, .lit 0, .yes, .unroll, .yes, .lit 1, .yes, .unroll, .yes, .lit 2, .yes, .unroll, .yes, .lit 3, .no, .call [(1000, 1000), (1001, 1001), (1002, 1002), (1003, 1003), (1004, 1004)] [] 1005 (.tuple ⟨[]⟩) (Snd.H0 ({ s with tones_0 := (tQuarter s.tones_0), tones_1 := (tQuarter s.tones_1), tones_2 := (tQuarter s.tones_2), tones_3 := (tQuarter s.tones_3), count := (i64.wrap (s.count + 1)) } : Snd)), .yes, .call [(1000, 1000), (1001, 1001), (1002, 1002), (1003, 1003), (1004, 1004)] [] 1005 (.tuple ⟨[]⟩) (Snd.H0 ({ s with tones_0 := (tHalf (tQuarter s.tones_0)), tones_1 := (tHalf (tQuarter s.tones_1)), tones_2 := (tHalf (tQuarter s.tones_2)), tones_3 := (tHalf (tQuarter s.tones_3)), count := (i64.wrap (s.count + 1)) } : Snd)), .yes, .yes, .yes, .yes, .yes, .yes, .yes, .unroll, .no, .eq 67 (.int .i64 0), .lit 0, .lit 3, .no] (J (congrArg (Value.int .i64) hm : Value.int .i64 s.manner = Value.int .i64 0) (J (Eq.refl (0 : Int)) (J (by decide : 0 < 2) (J T1 (J (Eq.refl (0 : Int)) (J (by decide : 0 < 4) (J c1 (J T1 (J (Eq.refl (1 : Int)) (J (by decide : 1 < 4) (J c2 (J T1 (J (Eq.refl (2 : Int)) (J (by decide : 2 < 4) (J c3 (J T1 (J (Eq.refl (3 : Int)) (J (by decide : 3 < 4) (J c4 (J (sAllQ_ok ({ s with count := (i64.wrap (s.count + 1)) } : Snd)) (J (by decide : ((2 : Int) ≠ 0)) (J T1 (J (sAllH_ok ({ s with tones_0 := (tQuarter s.tones_0), tones_1 := (tQuarter s.tones_1), tones_2 := (tQuarter s.tones_2), tones_3 := (tQuarter s.tones_3), count := (i64.wrap (s.count + 1)) } : Snd)) (J c5 (J c5 (J c5 (J c5 (J c5 (J c5 (J c5 (J T0 (J (congrArg (Value.int .i64) hm : Value.int .i64 s.manner = Value.int .i64 0) (J (Eq.refl (0 : Int)) (J (by decide : 0 < 2) (J (Eq.refl (3 : Int)) (J (by decide : 3 < 4) (J c6 trivial))))))))))))))))))))))))))))))))))))) (by kernel_rfl)
          · rw [if_neg (nt c5)]
            rcases bt (decide ((i64.wrap (s.count + 1)) > 29829)) with c6 | c6
            · rw [if_pos c6]
              exact fn_of_x hG hM Tryd.func35 (by kernel_rfl) (by kernel_rfl) 400 [.eq 14 (.int .i64 0), .lit 0, .unroll, .yes, .lit 0, .yes, .unroll, .yes, .lit 1, .yes, .unroll, .yes, .lit 2, .yes, .unroll, .yes, .lit 3, .no, .call [(1000, 1000), (1001, 1001), (1002, 1002), (1003, 1003), (1004, 1004)] [] 1005 (.tuple ⟨[]⟩) (Snd.H0 ({ s with tones_0 := (tQuarter s.tones_0), tones_1 := (tQuarter s.tones_1), tones_2 := (tQuarter s.tones_2), tones_3 := (tQuarter s.tones_3), count := (i64.wrap (s.count + 1)) } : Snd)), .yes, .call [(1000, 1000), (1001, 1001), (1002, 1002), (1003, 1003), (1004, 1004)] [] 1005 (.tuple ⟨[]⟩) (Snd.H0 ({ s with tones_0 := (tHalf (tQuarter s.tones_0)), tones_1 := (tHalf (tQuarter s.tones_1)), tones_2 := (tHalf (tQuarter s.tones_2)), tones_3 := (tHalf (tQuarter s.tones_3)), count := (i64.wrap (s.count + 1)) } : Snd)), .no, .no, .no, .yes, .yes, .yes, .yes, .eq 46 (.int .i64 0), .yes, .no, .yes, .no, .yes, .yes, .yes, .yes, .yes, .no, .yes, .no, .unroll, .no, .eq 67 (.int .i64 0), .lit 0, .lit 3, .yes] (J (congrArg (Value.int .i64) hm : Value.int .i64 s.manner = Value.int .i64 0) (J (Eq.refl (0 : Int)) (J (by decide : 0 < 2) (J T1 (J (Eq.refl (0 : Int)) (J (by decide : 0 < 4) (J c1 (J T1 (J (Eq.refl (1 : Int)) (J (by decide : 1 < 4) (J c2 (J T1 (J (Eq.refl (2 : Int)) (J (by decide : 2 < 4) (J c3 (J T1 (J (Eq.refl (3 : Int)) (J (by decide : 3 < 4) (J c4 (J (sAllQ_ok ({ s with count := (i64.wrap (s.count + 1)) } : Snd)) (J (by decide : ((2 : Int) ≠ 0)) (J T1 (J (sAllH_ok ({ s with tones_0 := (tQuarter s.tones_0), tones_1 := (tQuarter s.tones_1), tones_2 := (tQuarter s.tones_2), tones_3 := (tQuarter s.tones_3), count := (i64.wrap (s.count + 1)) } : Snd)) (J c5 (J c5 (J c5 (J T1 (J T1 (J T1 (J T1 (J (congrArg (Value.int .i64) hm : Value.int .i64 s.manner = Value.int .i64 0) (J T1 (J c5 (J T1 (J c5 (J T1 (J T1 (J T1 (J T1 (J T1 (J c5 (J T1 (J c5 (J T0 (J (congrArg (Value.int .i64) hm : Value.int .i64 s.manner = Value.int .i64 0) (J (Eq.refl (0 : Int)) (J (by decide : 0 < 2) (J (Eq.refl (3 : Int)) (J (by decide : 3 < 4) (J c6 trivial)))))))))))))))))))))))))))))))))))))))))))))))))) (by kernel_rfl)
            · rw [if_neg (nt c6)]
              exact fn_of_x hG hM Tryd.func35 (by kernel_rfl) (by kernel_rfl) 400 [.eq 14 (.int .i64 0), .lit 0, .unroll, .yes, .lit 0, .yes, .unroll, .yes, .lit 1, .yes, .unroll, .yes, .lit 2, .yes, .unroll, .yes, .lit 3, .no, .call [(1000, 1000), (1001, 1001), (1002, 1002), (1003, 1003), (1004, 1004)] [] 1005 (.tuple ⟨[]⟩) (Snd.H0 ({ s with tones_0 := (tQuarter s.tones_0), tones_1 := (tQuarter s.tones_1), tones_2 := (tQuarter s.tones_2), tones_3 := (tQuarter s.tones_3), count := (i64.wrap (s.count + 1)) } : Snd)), .yes, .call [(1000, 1000), (1001, 1001), (1002, 1002), (1003, 1003), (1004, 1004)] [] 1005 (.tuple ⟨[]⟩) (Snd.H0 ({ s with tones_0 := (tHalf (tQuarter s.tones_0)), tones_1 := (tHalf (tQuarter s.tones_1)), tones_2 := (tHalf (tQuarter s.tones_2)), tones_3 := (tHalf (tQuarter s.tones_3)), count := (i64.wrap (s.count + 1)) } : Snd)), .no, .no, .no, .yes, .yes, .yes, .yes, .eq 46 (.int .i64 0), .yes, .no, .yes, .no, .yes, .yes, .yes, .yes, .yes, .no, .yes, .no, .unroll, .no, .eq 67 (.int .i64 0), .lit 0, .lit 3, .no] (J (congrArg (Value.int .i64) hm : Value.int .i64 s.manner = Value.int .i64 0) (J (Eq.refl (0 : Int)) (J (by decide : 0 < 2) (J T1 (J (Eq.refl (0 : Int)) (J (by decide : 0 < 4) (J c1 (J T1 (J (Eq.refl (1 : Int)) (J (by decide : 1 < 4) (J c2 (J T1 (J (Eq.refl (2 : Int)) (J (by decide : 2 < 4) (J c3 (J T1 (J (Eq.refl (3 : Int)) (J (by decide : 3 < 4) (J c4 (J (sAllQ_ok ({ s with count := (i64.wrap (s.count + 1)) } : Snd)) (J (by decide : ((2 : Int) ≠ 0)) (J T1 (J (sAllH_ok ({ s with tones_0 := (tQuarter s.tones_0), tones_1 := (tQuarter s.tones_1), tones_2 := (tQuarter s.tones_2), tones_3 := (tQuarter s.tones_3), count := (i64.wrap (s.count + 1)) } : Snd)) (J c5 (J c5 (J c5 (J T1 (J T1 (J T1 (J T1 (J (congrArg (Value.int .i64) hm : Value.int .i64 s.manner = Value.int .i64 0) (J T1 (J c5 (J T1 (J c5 (J T1 (J T1 (J T1 (J T1 (J T1 (J c5 (J T1 (J c5 (J T0 (J (congrArg (Value.int .i64) hm : Value.int .i64 s.manner = Value.int .i64 0) (J (Eq.refl (0 : Int)) (J (by decide : 0 < 2) (J (Eq.refl (3 : Int)) (J (by decide : 3 < 4) (J c6 trivial)))))))))))))))))))))))))))))))))))))))))))))))))) (by kernel_rfl)
      · rw [if_neg (nt c3)]
        rcases bt s.irq with c4 | c4
        · rw [if_pos c4]
          rcases bt (decide ((i64.wrap (s.count + 1)) > 29829)) with c5 | c5
          · rw [if_pos c5]
            exact fn_of_x hG hM Tryd.func35 (by kernel_rfl) (by kernel_rfl) 400 [.eq 14 (.int .i64 0), .lit 0, .unroll, .yes, .lit 0, .yes, .unroll, .yes, .lit 1, .yes, .unroll, .yes, .lit 2, .no, .call [(1000, 1000), (1001, 1001), (1002, 1002), (1003, 1003), (1004, 1004)] [] 1005 (.tuple ⟨[]⟩) (Snd.H0 ({ s with tones_0 := (tQuarter s.tones_0), tones_1 := (tQuarter s.tones_1), tones_2 := (tQuarter s.tones_2), tones_3 := (tQuarter s.tones_3), count := (i64.wrap (s.count + 1)) } : Snd)), .no, .yes, .yes, .yes, .yes, .yes, .yes, .yes, .unroll, .yes, .lit 3, .yes, .unroll, .no, .eq 67 (.int .i64 0), .lit 0, .lit 3, .yes] (J (congrArg (Value.int .i64) hm : Value.int .i64 s.manner = Value.int .i64 0) (J (Eq.refl (0 : Int)) (J (by decide : 0 < 2) (J T1 (J (Eq.refl (0 : Int)) (J (by decide : 0 < 4) (J c1 (J T1 (J (Eq.refl (1 : Int)) (J (by decide : 1 < 4) (J c2 (J T1 (J (Eq.refl (2 : Int)) (J (by decide : 2 < 4) (J c3 (J (sAllQ_ok ({ s with count := (i64.wrap (s.count + 1)) } : Snd)) (J (by decide : ((2 : Int) ≠ 0)) (J T0 (J c4 (J c4 (J c4 (J c4 (J c4 (J c4 (J c4 (J T1 (J (Eq.refl (3 : Int)) (J (by decide : 3 < 4) (J (lit_n_n (b := 29829) c3 (by decide)) (J T0 (J (congrArg (Value.int .i64) hm : Value.int .i64 s.manner = Value.int .i64 0) (J (Eq.refl (0 : Int)) (J (by decide : 0 < 2) (J (Eq.refl (3 : Int)) (J (by decide : 3 < 4) (J c5 trivial)))))))))))))))))))))))))))))))))))) (by kernel_rfl)
          · rw [if_neg (nt c5)]
            exact fn_of_x hG hM Tryd.func35 (by kernel_rfl) (by kernel_rfl) 400 [.eq 14 (.int .i64 0), .lit 0, .unroll, .yes, .lit 0, .yes, .unroll, .yes, .lit 1, .yes, .unroll, .yes, .lit 2, .no, .call [(1000, 1000), (1001, 1001), (1002, 1002), (1003, 1003), (1004, 1004)] [] 1005 (.tuple ⟨[]⟩) (Snd.H0 ({ s with tones_0 := (tQuarter s.tones_0), tones_1 := (tQuarter s.tones_1), tones_2 := (tQuarter s.tones_2), tones_3 := (tQuarter s.tones_3), count := (i64.wrap (s.count + 1)) } : Snd)), .no, .yes, .yes, .yes, .yes, .yes, .yes, .yes, .unroll, .yes, .lit 3, .yes, .unroll, .no, .eq 67 (.int .i64 0), .lit 0, .lit 3, .no] (J (congrArg (Value.int .i64) hm : Value.int .i64 s.manner = Value.int .i64 0) (J (Eq.refl (0 : Int)) (J (by decide : 0 < 2) (J T1 (J (Eq.refl (0 : Int)) (J (by decide : 0 < 4) (J c1 (J T1 (J (Eq.refl (1 : Int)) (J (by decide : 1 < 4) (J c2 (J T1 (J (Eq.refl (2 : Int)) (J (by decide : 2 < 4) (J c3 (J (sAllQ_ok ({ s with count := (i64.wrap (s.count + 1)) } : Snd)) (J (by decide : ((2 : Int) ≠ 0)) (J T0 (J c4 (J c4 (J c4 (J c4 (J c4 (J c4 (J c4 (J T1 (J (Eq.refl (3 : Int)) (J (by decide : 3 < 4) (J (lit_n_n (b := 29829) c3 (by decide)) (J T0 (J (congrArg (Value.int .i64) hm : Value.int .i64 s.manner = Value.int .i64 0) (J (Eq.refl (0 : Int)) (J (by decide : 0 < 2) (J (Eq.refl (3 : Int)) (J (by decide : 3 < 4) (J c5 trivial)))))))))))))))))))))))))))))))))))) (by kernel_rfl)
        · rw [if_neg (nt c4)]
          rcases bt (decide ((i64.wrap (s.count + 1)) > 29829)) with c5 | c5
          · rw [if_pos c5]
            exact fn_of_x hG hM Tryd.func35 (by kernel_rfl) (by kernel_rfl) 400 [.eq 14 (.int .i64 0), .lit 0, .unroll, .yes, .lit 0, .yes, .unroll, .yes, .lit 1, .yes, .unroll, .yes, .lit 2, .no, .call [(1000, 1000), (1001, 1001), (1002, 1002), (1003, 1003), (1004, 1004)] [] 1005 (.tuple ⟨[]⟩) (Snd.H0 ({ s with tones_0 := (tQuarter s.tones_0), tones_1 := (tQuarter s.tones_1), tones_2 := (tQuarter s.tones_2), tones_3 := (tQuarter s.tones_3), count := (i64.wrap (s.count + 1)) } : Snd)), .no, .no, .no, .no, .no, .no, .no, .no, .no, .no, .no, .no, .no, .no, .no, .no, .no, .no, .no, .no, .unroll, .yes, .lit 3, .yes, .unroll, .no, .eq 67 (.int .i64 0), .lit 0, .lit 3, .yes] (J (congrArg (Value.int .i64) hm : Value.int .i64 s.manner = Value.int .i64 0) (J (Eq.refl (0 : Int)) (J (by decide : 0 < 2) (J T1 (J (Eq.refl (0 : Int)) (J (by decide : 0 < 4) (J c1 (J T1 (J (Eq.refl (1 : Int)) (J (by decide : 1 < 4) (J c2 (J T1 (J (Eq.refl (2 : Int)) (J (by decide : 2 < 4) (J c3 (J (sAllQ_ok ({ s with count := (i64.wrap (s.count + 1)) } : Snd)) (J (by decide : ((2 : Int) ≠ 0)) (J T0 (J c4 (J c4 (J c4 (J T0 (J T0 (J T0 (J T0 (J T0 (J c4 (J T0 (J c4 (J T0 (J T0 (J T0 (J T0 (J T0 (J c4 (J T0 (J c4 (J T1 (J (Eq.refl (3 : Int)) (J (by decide : 3 < 4) (J (lit_n_n (b := 29829) c3 (by decide)) (J T0 (J (congrArg (Value.int .i64) hm : Value.int .i64 s.manner = Value.int .i64 0) (J (Eq.refl (0 : Int)) (J (by decide : 0 < 2) (J (Eq.refl (3 : Int)) (J (by decide : 3 < 4) (J c5 trivial)))))))))))))))))))))))))))))))))))))))))))))))) (by kernel_rfl)
          · rw [if_neg (nt c5)]
            exact fn_of_x hG hM Tryd.func35 (by kernel_rfl) (by kernel_rfl) 400 [.eq 14 (.int .i64 0), .lit 0, .unroll, .yes, .lit 0, .yes, .unroll, .yes, .lit 1, .yes, .unroll, .yes, .lit 2, .no, .call [(1000, 1000), (1001, 1001), (1002, 1002), (1003, 1003), (1004, 1004)] [] 1005 (.tuple ⟨[]⟩) (Snd.H0 ({ s with tones_0 := (tQuarter s.tones_0), tones_1 := (tQuarter s.tones_1), tones_2 := (tQuarter s.tones_2), tones_3 := (tQuarter s.tones_3), count := (i64.wrap (s.count + 1)) } : Snd)), .no, .no, .no, .no, .no, .no, .no, .no, .no, .no, .no, .no, .no, .no, .no, .no, .no, .no, .no, .no, .unroll, .yes, .lit 3, .yes, .unroll, .no, .eq 67 (.int .i64 0), .lit 0, .lit 3, .no] (J (congrArg (Value.int .i64) hm : Value.int .i64 s.manner = Value.int .i64 0) (J (Eq.refl (0 : Int)) (J (by decide : 0 < 2) (J T1 (J (Eq.refl (0 : Int)) (J (by decide : 0 < 4) (J c1 (J T1 (J (Eq.refl (1 : Int)) (J (by decide : 1 < 4) (J c2 (J T1 (J (Eq.refl (2 : Int)) (J (by decide : 2 < 4) (J c3 (J (sAllQ_ok ({ s with count := (i64.wrap (s.count + 1)) } : Snd)) (J (by decide : ((2 : Int) ≠ 0)) (J T0 (J c4 (J c4 (J c4 (J T0 (J T0 (J T0 (J T0 (J T0 (J c4 (J T0 (J c4 (J T0 (J T0 (J T0 (J T0 (J T0 (J c4 (J T0 (J c4 (J T1 (J (Eq.refl (3 : Int)) (J (by decide : 3 < 4) (J (lit_n_n (b := 29829) c3 (by decide)) (J T0 (J (congrArg (Value.int .i64) hm : Value.int .i64 s.manner = Value.int .i64 0) (J (Eq.refl (0 : Int)) (J (by decide : 0 < 2) (J (Eq.refl (3 : Int)) (J (by decide : 3 < 4) (J c5 trivial)))))))))))))))))))))))))))))))))))))))))))))))) (by kernel_rfl)
    · rw [if_neg (nt c2)]
      rcases bt s.irq with c3 | c3
      · rw [if_pos c3]
        rcases bt (decide ((i64.wrap (s.count + 1)) > 29829)) with c4 | c4
        · rw [if_pos c4]
          exact fn_of_x hG hM Tryd.func35 (by kernel_rfl) (by kernel_rfl) 400 [.eq 14 (.int .i64 0), .lit 0, .unroll, .yes, .lit 0, .yes, .unroll, .yes, .lit 1, .no, .call [(1000, 1000), (1001, 1001), (1002, 1002), (1003, 1003), (1004, 1004)] [] 1005 (.tuple ⟨[]⟩) (Snd.H0 ({ s with tones_0 := (tQuarter s.tones_0), tones_1 := (tQuarter s.tones_1), tones_2 := (tQuarter s.tones_2), tones_3 := (tQuarter s.tones_3), count := (i64.wrap (s.count + 1)) } : Snd)), .yes, .call [(1000, 1000), (1001, 1001), (1002, 1002), (1003, 1003), (1004, 1004)] [] 1005 (.tuple ⟨[]⟩) (Snd.H0 ({ s with tones_0 := (tHalf (tQuarter s.tones_0)), tones_1 := (tHalf (tQuarter s.tones_1)), tones_2 := (tHalf (tQuarter s.tones_2)), tones_3 := (tHalf (tQuarter s.tones_3)), count := (i64.wrap (s.count + 1)) } : Snd)), .yes, .yes, .yes, .yes, .yes, .yes, .yes, .unroll, .yes, .lit 2, .yes, .unroll, .yes, .lit 3, .yes, .unroll, .no, .eq 67 (.int .i64 0), .lit 0, .lit 3, .yes] (J (congrArg (Value.int .i64) hm : Value.int .i64 s.manner = Value.int .i64 0) (J (Eq.refl (0 : Int)) (J (by decide : 0 < 2) (J T1 (J (Eq.refl (0 : Int)) (J (by decide : 0 < 4) (J c1 (J T1 (J (Eq.refl (1 : Int)) (J (by decide : 1 < 4) (J c2 (J (sAllQ_ok ({ s with count := (i64.wrap (s.count + 1)) } : Snd)) (J (by decide : ((2 : Int) ≠ 0)) (J T1 (J (sAllH_ok ({ s with tones_0 := (tQuarter s.tones_0), tones_1 := (tQuarter s.tones_1), tones_2 := (tQuarter s.tones_2), tones_3 := (tQuarter s.tones_3), count := (i64.wrap (s.count + 1)) } : Snd)) (J c3 (J c3 (J c3 (J c3 (J c3 (J c3 (J c3 (J T1 (J (Eq.refl (2 : Int)) (J (by decide : 2 < 4) (J (lit_n_n (b := 22371) c2 (by decide)) (J T1 (J (Eq.refl (3 : Int)) (J (by decide : 3 < 4) (J (lit_n_n (b := 29829) c2 (by decide)) (J T0 (J (congrArg (Value.int .i64) hm : Value.int .i64 s.manner = Value.int .i64 0) (J (Eq.refl (0 : Int)) (J (by decide : 0 < 2) (J (Eq.refl (3 : Int)) (J (by decide : 3 < 4) (J c4 trivial))))))))))))))))))))))))))))))))))))) (by kernel_rfl)
        · rw [if_neg (nt c4)]
          exact fn_of_x hG hM Tryd.func35 (by kernel_rfl) (by kernel_rfl) 400 [.eq 14 (.int .i64 0), .lit 0, .unroll, .yes, .lit 0, .yes, .unroll, .yes, .lit 1, .no, .call [(1000, 1000), (1001, 1001), (1002, 1002), (1003, 1003), (1004, 1004)] [] 1005 (.tuple ⟨[]⟩) (Snd.H0 ({ s with tones_0 := (tQuarter s.tones_0), tones_1 := (tQuarter s.tones_1), tones_2 := (tQuarter s.tones_2), tones_3 := (tQuarter s.tones_3), count := (i64.wrap (s.count + 1)) } : Snd)), .yes, .call [(1000, 1000), (1001, 1001), (1002, 1002), (1003, 1003), (1004, 1004)] [] 1005 (.tuple ⟨[]⟩) (Snd.H0 ({ s with tones_0 := (tHalf (tQuarter s.tones_0)), tones_1 := (tHalf (tQuarter s.tones_1)), tones_2 := (tHalf (tQuarter s.tones_2)), tones_3 := (tHalf (tQuarter s.tones_3)), count := (i64.wrap (s.count + 1)) } : Snd)), .yes, .yes, .yes, .yes, .yes, .yes, .yes, .unroll, .yes, .lit 2, .yes, .unroll, .yes, .lit 3, .yes, .unroll, .no, .eq 67 (.int .i64 0), .lit 0, .lit 3, .no] (J (congrArg (Value.int .i64) hm : Value.int .i64 s.manner = Value.int .i64 0) (J (Eq.refl (0 : Int)) (J (by decide : 0 < 2) (J T1 (J (Eq.refl (0 : Int)) (J (by decide : 0 < 4) (J c1 (J T1 (J (Eq.refl (1 : Int)) (J (by decide : 1 < 4) (J c2 (J (sAllQ_ok ({ s with count := (i64.wrap (s.count + 1)) } : Snd)) (J (by decide : ((2 : Int) ≠ 0)) (J T1 (J (sAllH_ok ({ s with tones_0 := (tQuarter s.tones_0), tones_1 := (tQuarter s.tones_1), tones_2 := (tQuarter s.tones_2), tones_3 := (tQuarter s.tones_3), count := (i64.wrap (s.count + 1)) } : Snd)) (J c3 (J c3 (J c3 (J c3 (J c3 (J c3 (J c3 (J T1 (J (Eq.refl (2 : Int)) (J (by decide : 2 < 4) (J (lit_n_n (b := 22371) c2 (by decide)) (J T1 (J (Eq.refl (3 : Int)) (J (by decide : 3 < 4) (J (lit_n_n (b := 29829) c2 (by decide)) (J T0 (J (congrArg (Value.int .i64) hm : Value.int .i64 s.manner = Value.int .i64 0) (J (Eq.refl (0 : Int)) (J (by decide : 0 < 2) (J (Eq.refl (3 : Int)) (J (by decide : 3 < 4) (J c4 trivial))))))))))))))))))))))))))))))))))))) (by kernel_rfl)
      · rw [if_neg (nt c3)]
        rcases bt (decide ((i64.wrap (s.count + 1)) > 29829)) with c4 | c4
        · rw [if_pos c4]
          exact fn_of_x hG hM Tryd.func35 (by kernel_rfl) (by kernel_rfl) 400 [.eq 14 (.int .i64 0), .lit 0, .unroll, .yes, .lit 0, .yes, .unroll, .yes, .lit 1, .no, .call [(1000, 1000), (1001, 1001), (1002, 1002), (1003, 1003), (1004, 1004)] [] 1005 (.tuple ⟨[]⟩) (Snd.H0 ({ s with tones_0 := (tQuarter s.tones_0), tones_1 := (tQuarter s.tones_1), tones_2 := (tQuarter s.tones_2), tones_3 := (tQuarter s.tones_3), count := (i64.wrap (s.count + 1)) } : Snd)), .yes, .call [(1000, 1000), (1001, 1001), (1002, 1002), (1003, 1003), (1004, 1004)] [] 1005 (.tuple ⟨[]⟩) (Snd.H0 ({ s with tones_0 := (tHalf (tQuarter s.tones_0)), tones_1 := (tHalf (tQuarter s.tones_1)), tones_2 := (tHalf (tQuarter s.tones_2)), tones_3 := (tHalf (tQuarter s.tones_3)), count := (i64.wrap (s.count + 1)) } : Snd)), .no, .no, .no, .no, .no, .no, .no, .no, .no, .no, .no, .no, .no, .no, .no, .no, .no, .no, .no, .unroll, .yes, .lit 2, .yes, .unroll, .yes, .lit 3, .yes, .unroll, .no, .eq 67 (.int .i64 0), .lit 0, .lit 3, .yes] (J (congrArg (Value.int .i64) hm : Value.int .i64 s.manner = Value.int .i64 0) (J (Eq.refl (0 : Int)) (J (by decide : 0 < 2) (J T1 (J (Eq.refl (0 : Int)) (J (by decide : 0 < 4) (J c1 (J T1 (J (Eq.refl (1 : Int)) (J (by decide : 1 < 4) (J c2 (J (sAllQ_ok ({ s with count := (i64.wrap (s.count + 1)) } : Snd)) (J (by decide : ((2 : Int) ≠ 0)) (J T1 (J (sAllH_ok ({ s with tones_0 := (tQuarter s.tones_0), tones_1 := (tQuarter s.tones_1), tones_2 := (tQuarter s.tones_2), tones_3 := (tQuarter s.tones_3), count := (i64.wrap (s.count + 1)) } : Snd)) (J c3 (J c3 (J c3 (J T0 (J T0 (J T0 (J T0 (J T0 (J c3 (J T0 (J c3 (J T0 (J T0 (J T0 (J T0 (J T0 (J c3 (J T0 (J c3 (J T1 (J (Eq.refl (2 : Int)) (J (by decide : 2 < 4) (J (lit_n_n (b := 22371) c2 (by decide)) (J T1 (J (Eq.refl (3 : Int)) (J (by decide : 3 < 4) (J (lit_n_n (b := 29829) c2 (by decide)) (J T0 (J (congrArg (Value.int .i64) hm : Value.int .i64 s.manner = Value.int .i64 0) (J (Eq.refl (0 : Int)) (J (by decide : 0 < 2) (J (Eq.refl (3 : Int)) (J (by decide : 3 < 4) (J c4 trivial))))))))))))))))))))))))))))))))))))))))))))))))) (by kernel_rfl)
        · rw [if_neg (nt c4)]
          exact fn_of_x hG hM Tryd.func35 (by kernel_rfl) (by kernel_rfl) 400 [.eq 14 (.int .i64 0), .lit 0, .unroll, .yes, .lit 0, .yes, .unroll, .yes, .lit 1, .no, .call [(1000, 1000), (1001, 1001), (1002, 1002), (1003, 1003), (1004, 1004)] [] 1005 (.tuple ⟨[]⟩) (Snd.H0 ({ s with tones_0 := (tQuarter s.tones_0), tones_1 := (tQuarter s.tones_1), tones_2 := (tQuarter s.tones_2), tones_3 := (tQuarter s.tones_3), count := (i64.wrap (s.count + 1)) } : Snd)), .yes, .call [(1000, 1000), (1001, 1001), (1002, 1002), (1003, 1003), (1004, 1004)] [] 1005 (.tuple ⟨[]⟩) (Snd.H0 ({ s with tones_0 := (tHalf (tQuarter s.tones_0)), tones_1 := (tHalf (tQuarter s.tones_1)), tones_2 := (tHalf (tQuarter s.tones_2)), tones_3 := (tHalf (tQuarter s.tones_3)), count := (i64.wrap (s.count + 1)) } : Snd)), .no, .no, .no, .no, .no, .no, .no, .no, .no, .no, .no, .no, .no, .no, .no, .no, .no, .no, .no, .unroll, .yes, .lit 2, .yes, .unroll, .yes, .lit 3, .yes, .unroll, .no, .eq 67 (.int .i64 0), .lit 0, .lit 3, .no] (J (congrArg (Value.int .i64) hm : Value.int .i64 s.manner = Value.int .i64 0) (J (Eq.refl (0 : Int)) (J (by decide : 0 < 2) (J T1 (J (Eq.refl (0 : Int)) (J (by decide : 0 < 4) (J c1 (J T1 (J (Eq.refl (1 : Int)) (J (by decide : 1 < 4) (J c2 (J (sAllQ_ok ({ s with count := (i64.wrap (s.count + 1)) } : Snd)) (J (by decide : ((2 : Int) ≠ 0)) (J T1 (J (sAllH_ok ({ s with tones_0 := (tQuarter s.tones_0), tones_1 := (tQuarter s.tones_1), tones_2 := (tQuarter s.tones_2), tones_3 := (tQuarter s.tones_3), count := (i64.wrap (s.count + 1)) } : Snd)) (J c3 (J c3 (J c3 (J T0 (J T0 (J T0 (J T0 (J T0 (J c3 (J T0 (J c3 (J T0 (J T0 (J T0 (J T0 (J T0 (J c3 (J T0 (J c3 (J T1 (J (Eq.refl (2 : Int)) (J (by decide : 2 < 4) (J (lit_n_n (b := 22371) c2 (by decide)) (J T1 (J (Eq.refl (3 : Int)) (J (by decide : 3 < 4) (J (lit_n_n (b := 29829) c2 (by decide)) (J T0 (J (congrArg (Value.int .i64) hm : Value.int .i64 s.manner = Value.int .i64 0) (J (Eq.refl (0 : Int)) (J (by decide : 0 < 2) (J (Eq.refl (3 : Int)) (J (by decide : 3 < 4) (J c4 trivial))))))))))))))))))))))))))))))))))))))))))))))))) (by kernel_rfl)
  · rw [if_neg (nt c1)]
    rcases bt s.irq with c2 | c2
    · rw [if_pos c2]
      rcases bt (decide ((i64.wrap (s.count + 1)) > 29829)) with c3 | c3
      · rw [if_pos c3]
        exact fn_of_x hG hM Tryd.func35 (by kernel_rfl) (by kernel_rfl) 400 [.eq 14 (.int .i64 0), .lit 0, .unroll, .yes, .lit 0, .no, .call [(1000, 1000), (1001, 1001), (1002, 1002), (1003, 1003), (1004, 1004)] [] 1005 (.tuple ⟨[]⟩) (Snd.H0 ({ s with tones_0 := (tQuarter s.tones_0), tones_1 := (tQuarter s.tones_1), tones_2 := (tQuarter s.tones_2), tones_3 := (tQuarter s.tones_3), count := (i64.wrap (s.count + 1)) } : Snd)), .no, .yes, .yes, .yes, .yes, .yes, .yes, .yes, .unroll, .yes, .lit 1, .yes, .unroll, .yes, .lit 2, .yes, .unroll, .yes, .lit 3, .yes, .unroll, .no, .eq 67 (.int .i64 0), .lit 0, .lit 3, .yes] (J (congrArg (Value.int .i64) hm : Value.int .i64 s.manner = Value.int .i64 0) (J (Eq.refl (0 : Int)) (J (by decide : 0 < 2) (J T1 (J (Eq.refl (0 : Int)) (J (by decide : 0 < 4) (J c1 (J (sAllQ_ok ({ s with count := (i64.wrap (s.count + 1)) } : Snd)) (J (by decide : ((2 : Int) ≠ 0)) (J T0 (J c2 (J c2 (J c2 (J c2 (J c2 (J c2 (J c2 (J T1 (J (Eq.refl (1 : Int)) (J (by decide : 1 < 4) (J (lit_n_n (b := 14913) c1 (by decide)) (J T1 (J (Eq.refl (2 : Int)) (J (by decide : 2 < 4) (J (lit_n_n (b := 22371) c1 (by decide)) (J T1 (J (Eq.refl (3 : Int)) (J (by decide : 3 < 4) (J (lit_n_n (b := 29829) c1 (by decide)) (J T0 (J (congrArg (Value.int .i64) hm : Value.int .i64 s.manner = Value.int .i64 0) (J (Eq.refl (0 : Int)) (J (by decide : 0 < 2) (J (Eq.refl (3 : Int)) (J (by decide : 3 < 4) (J c3 trivial)))))))))))))))))))))))))))))))))))) (by kernel_rfl)
      · rw [if_neg (nt c3)]
        exact fn_of_x hG hM Tryd.func35 (by kernel_rfl) (by kernel_rfl) 400 [.eq 14 (.int .i64 0), .lit 0, .unroll, .yes, .lit 0, .no, .call [(1000, 1000), (1001, 1001), (1002, 1002), (1003, 1003), (1004, 1004)] [] 1005 (.tuple ⟨[]⟩) (Snd.H0 ({ s with tones_0 := (tQuarter s.tones_0), tones_1 := (tQuarter s.tones_1), tones_2 := (tQuarter s.tones_2), tones_3 := (tQuarter s.tones_3), count := (i64.wrap (s.count + 1)) } : Snd)), .no, .yes, .yes, .yes, .yes, .yes, .yes, .yes, .unroll, .yes, .lit 1, .yes, .unroll, .yes, .lit 2, .yes, .unroll, .yes, .lit 3, .yes, .unroll, .no, .eq 67 (.int .i64 0), .lit 0, .lit 3, .no] (J (congrArg (Value.int .i64) hm : Value.int .i64 s.manner = Value.int .i64 0) (J (Eq.refl (0 : Int)) (J (by decide : 0 < 2) (J T1 (J (Eq.refl (0 : Int)) (J (by decide : 0 < 4) (J c1 (J (sAllQ_ok ({ s with count := (i64.wrap (s.count + 1)) } : Snd)) (J (by decide : ((2 : Int) ≠ 0)) (J T0 (J c2 (J c2 (J c2 (J c2 (J c2 (J c2 (J c2 (J T1 (J (Eq.refl (1 : Int)) (J (by decide : 1 < 4) (J (lit_n_n (b := 14913) c1 (by decide)) (J T1 (J (Eq.refl (2 : Int)) (J (by decide : 2 < 4) (J (lit_n_n (b := 22371) c1 (by decide)) (J T1 (J (Eq.refl (3 : Int)) (J (by decide : 3 < 4) (J (lit_n_n (b := 29829) c1 (by decide)) (J T0 (J (congrArg (Value.int .i64) hm : Value.int .i64 s.manner = Value.int .i64 0) (J (Eq.refl (0 : Int)) (J (by decide : 0 < 2) (J (Eq.refl (3 : Int)) (J (by decide : 3 < 4) (J c3 trivial)))))))))))))))))))))))))))))))))))) (by kernel_rfl)
    · rw [if_neg (nt c2)]
      rcases bt (decide ((i64.wrap (s.count + 1)) > 29829)) with c3 | c3
      · rw [if_pos c3]
        exact fn_of_x hG hM Tryd.func35 (by kernel_rfl) (by kernel_rfl) 400 [.eq 14 (.int .i64 0), .lit 0, .unroll, .yes, .lit 0, .no, .call [(1000, 1000), (1001, 1001), (1002, 1002), (1003, 1003), (1004, 1004)] [] 1005 (.tuple ⟨[]⟩) (Snd.H0 ({ s with tones_0 := (tQuarter s.tones_0), tones_1 := (tQuarter s.tones_1), tones_2 := (tQuarter s.tones_2), tones_3 := (tQuarter s.tones_3), count := (i64.wrap (s.count + 1)) } : Snd)), .no, .no, .no, .no, .no, .no, .no, .no, .no, .no, .no, .no, .no, .no, .no, .no, .no, .no, .no, .no, .unroll, .yes, .lit 1, .yes, .unroll, .yes, .lit 2, .yes, .unroll, .yes, .lit 3, .yes, .unroll, .no, .eq 67 (.int .i64 0), .lit 0, .lit 3, .yes] (J (congrArg (Value.int .i64) hm : Value.int .i64 s.manner = Value.int .i64 0) (J (Eq.refl (0 : Int)) (J (by decide : 0 < 2) (J T1 (J (Eq.refl (0 : Int)) (J (by decide : 0 < 4) (J c1 (J (sAllQ_ok ({ s with count := (i64.wrap (s.count + 1)) } : Snd)) (J (by decide : ((2 : Int) ≠ 0)) (J T0 (J c2 (J c2 (J c2 (J T0 (J T0 (J T0 (J T0 (J T0 (J c2 (J T0 (J c2 (J T0 (J T0 (J T0 (J T0 (J T0 (J c2 (J T0 (J c2 (J T1 (J (Eq.refl (1 : Int)) (J (by decide : 1 < 4) (J (lit_n_n (b := 14913) c1 (by decide)) (J T1 (J (Eq.refl (2 : Int)) (J (by decide : 2 < 4) (J (lit_n_n (b := 22371) c1 (by decide)) (J T1 (J (Eq.refl (3 : Int)) (J (by decide : 3 < 4) (J (lit_n_n (b := 29829) c1 (by decide)) (J T0 (J (congrArg (Value.int .i64) hm : Value.int .i64 s.manner = Value.int .i64 0) (J (Eq.refl (0 : Int)) (J (by decide : 0 < 2) (J (Eq.refl (3 : Int)) (J (by decide : 3 < 4) (J c3 trivial)))))))))))))))))))))))))))))))))))))))))))))))) (by kernel_rfl)
      · rw [if_neg (nt c3)]
        exact fn_of_x hG hM Tryd.func35 (by kernel_rfl) (by kernel_rfl) 400 [.eq 14 (.int .i64 0), .lit 0, .unroll, .yes, .lit 0, .no, .call [(1000, 1000), (1001, 1001), (1002, 1002), (1003, 1003), (1004, 1004)] [] 1005 (.tuple ⟨[]⟩) (Snd.H0 ({ s with tones_0 := (tQuarter s.tones_0), tones_1 := (tQuarter s.tones_1), tones_2 := (tQuarter s.tones_2), tones_3 := (tQuarter s.tones_3), count := (i64.wrap (s.count + 1)) } : Snd)), .no, .no, .no, .no, .no, .no, .no, .no, .no, .no, .no, .no, .no, .no, .no, .no, .no, .no, .no, .no, .unroll, .yes, .lit 1, .yes, .unroll, .yes, .lit 2, .yes, .unroll, .yes, .lit 3, .yes, .unroll, .no, .eq 67 (.int .i64 0), .lit 0, .lit 3, .no] (J (congrArg (Value.int .i64) hm : Value.int .i64 s.manner = Value.int .i64 0) (J (Eq.refl (0 : Int)) (J (by decide : 0 < 2) (J T1 (J (Eq.refl (0 : Int)) (J (by decide : 0 < 4) (J c1 (J (sAllQ_ok ({ s with count := (i64.wrap (s.count + 1)) } : Snd)) (J (by decide : ((2 : Int) ≠ 0)) (J T0 (J c2 (J c2 (J c2 (J T0 (J T0 (J T0 (J T0 (J T0 (J c2 (J T0 (J c2 (J T0 (J T0 (J T0 (J T0 (J T0 (J c2 (J T0 (J c2 (J T1 (J (Eq.refl (1 : Int)) (J (by decide : 1 < 4) (J (lit_n_n (b := 14913) c1 (by decide)) (J T1 (J (Eq.refl (2 : Int)) (J (by decide : 2 < 4) (J (lit_n_n (b := 22371) c1 (by decide)) (J T1 (J (Eq.refl (3 : Int)) (J (by decide : 3 < 4) (J (lit_n_n (b := 29829) c1 (by decide)) (J T0 (J (congrArg (Value.int .i64) hm : Value.int .i64 s.manner = Value.int .i64 0) (J (Eq.refl (0 : Int)) (J (by decide : 0 < 2) (J (Eq.refl (3 : Int)) (J (by decide : 3 < 4) (J c3 trivial)))))))))))))))))))))))))))))))))))))))))))))))) (by kernel_rfl)
theorem sTick_0_w (s : Snd) (w_s : Snd.ok s) (hm : s.manner = 0) : Snd.ok (sTick_0 s) := by
  unfold sTick_0
  rcases bt ((i64.wrap (s.count + 1)) != 7457) with c1 | c1
  · rw [if_pos c1]
    rcases bt ((i64.wrap (s.count + 1)) != 14913) with c2 | c2
    · rw [if_pos c2]
      rcases bt ((i64.wrap (s.count + 1)) != 22371) with c3 | c3
      · rw [if_pos c3]
        rcases bt ((i64.wrap (s.count + 1)) != 29829) with c4 | c4
        · rw [if_pos c4]
          rcases bt (decide ((i64.wrap (s.count + 1)) > 29829)) with c5 | c5
          · rw [if_pos c5]
            exact (⟨w_s.tones_0, w_s.tones_1, w_s.tones_2, w_s.tones_3, w_s.sample⟩ : Snd.ok ({ s with count := 0 } : Snd))
          · rw [if_neg (nt c5)]
            exact (⟨w_s.tones_0, w_s.tones_1, w_s.tones_2, w_s.tones_3, w_s.sample⟩ : Snd.ok ({ s with count := (i64.wrap (s.count + 1)) } : Snd))
        · rw [if_neg (nt c4)]
          rcases bt s.irq with c5 | c5
          · rw [if_pos c5]
            rcases bt (decide ((i64.wrap (s.count + 1)) > 29829)) with c6 | c6
            · rw [if_pos c6]
              exact (⟨(tHalf_w (tQuarter s.tones_0) (tQuarter_w s.tones_0 w_s.tones_0)), (tHalf_w (tQuarter s.tones_1) (tQuarter_w s.tones_1 w_s.tones_1)), (tHalf_w (tQuarter s.tones_2) (tQuarter_w s.tones_2 w_s.tones_2)), (tHalf_w (tQuarter s.tones_3) (tQuarter_w s.tones_3 w_s.tones_3)), w_s.sample⟩ : Snd.ok ({ tones_0 := (tHalf (tQuarter s.tones_0)), tones_1 := (tHalf (tQuarter s.tones_1)), tones_2 := (tHalf (tQuarter s.tones_2)), tones_3 := (tHalf (tQuarter s.tones_3)), sample := s.sample, count := 0, manner := s.manner, bars := s.bars, irq := true, even := s.even } : Snd))
            · rw [if_neg (nt c6)]
              exact (⟨(tHalf_w (tQuarter s.tones_0) (tQuarter_w s.tones_0 w_s.tones_0)), (tHalf_w (tQuarter s.tones_1) (tQuarter_w s.tones_1 w_s.tones_1)), (tHalf_w (tQuarter s.tones_2) (tQuarter_w s.tones_2 w_s.tones_2)), (tHalf_w (tQuarter s.tones_3) (tQuarter_w s.tones_3 w_s.tones_3)), w_s.sample⟩ : Snd.ok ({ tones_0 := (tHalf (tQuarter s.tones_0)), tones_1 := (tHalf (tQuarter s.tones_1)), tones_2 := (tHalf (tQuarter s.tones_2)), tones_3 := (tHalf (tQuarter s.tones_3)), sample := s.sample, count := (i64.wrap (s.count + 1)), manner := s.manner, bars := s.bars, irq := true, even := s.even } : Snd))
          · rw [if_neg (nt c5)]
            rcases bt (decide ((i64.wrap (s.count + 1)) > 29829)) with c6 | c6
            · rw [if_pos c6]
              exact (⟨(tHalf_w (tQuarter s.tones_0) (tQuarter_w s.tones_0 w_s.tones_0)), (tHalf_w (tQuarter s.tones_1) (tQuarter_w s.tones_1 w_s.tones_1)), (tHalf_w (tQuarter s.tones_2) (tQuarter_w s.tones_2 w_s.tones_2)), (tHalf_w (tQuarter s.tones_3) (tQuarter_w s.tones_3 w_s.tones_3)), w_s.sample⟩ : Snd.ok ({ tones_0 := (tHalf (tQuarter s.tones_0)), tones_1 := (tHalf (tQuarter s.tones_1)), tones_2 := (tHalf (tQuarter s.tones_2)), tones_3 := (tHalf (tQuarter s.tones_3)), sample := s.sample, count := 0, manner := s.manner, bars := s.bars, irq := (!s.bars), even := s.even } : Snd))
            · rw [if_neg (nt c6)]
              exact (⟨(tHalf_w (tQuarter s.tones_0) (tQuarter_w s.tones_0 w_s.tones_0)), (tHalf_w (tQuarter s.tones_1) (tQuarter_w s.tones_1 w_s.tones_1)), (tHalf_w (tQuarter s.tones_2) (tQuarter_w s.tones_2 w_s.tones_2)), (tHalf_w (tQuarter s.tones_3) (tQuarter_w s.tones_3 w_s.tones_3)), w_s.sample⟩ : Snd.ok ({ tones_0 := (tHalf (tQuarter s.tones_0)), tones_1 := (tHalf (tQuarter s.tones_1)), tones_2 := (tHalf (tQuarter s.tones_2)), tones_3 := (tHalf (tQuarter s.tones_3)), sample := s.sample, count := (i64.wrap (s.count + 1)), manner := s.manner, bars := s.bars, irq := (!s.bars), even := s.even } : Snd))
      · rw [if_neg (nt c3)]
        rcases bt s.irq with c4 | c4
        · rw [if_pos c4]
          rcases bt (decide ((i64.wrap (s.count + 1)) > 29829)) with c5 | c5
          · rw [if_pos c5]
            exact (⟨(tQuarter_w s.tones_0 w_s.tones_0), (tQuarter_w s.tones_1 w_s.tones_1), (tQuarter_w s.tones_2 w_s.tones_2), (tQuarter_w s.tones_3 w_s.tones_3), w_s.sample⟩ : Snd.ok ({ tones_0 := (tQuarter s.tones_0), tones_1 := (tQuarter s.tones_1), tones_2 := (tQuarter s.tones_2), tones_3 := (tQuarter s.tones_3), sample := s.sample, count := 0, manner := s.manner, bars := s.bars, irq := true, even := s.even } : Snd))
          · rw [if_neg (nt c5)]
            exact (⟨(tQuarter_w s.tones_0 w_s.tones_0), (tQuarter_w s.tones_1 w_s.tones_1), (tQuarter_w s.tones_2 w_s.tones_2), (tQuarter_w s.tones_3 w_s.tones_3), w_s.sample⟩ : Snd.ok ({ tones_0 := (tQuarter s.tones_0), tones_1 := (tQuarter s.tones_1), tones_2 := (tQuarter s.tones_2), tones_3 := (tQuarter s.tones_3), sample := s.sample, count := (i64.wrap (s.count + 1)), manner := s.manner, bars := s.bars, irq := true, even := s.even } : Snd))
        · rw [if_neg (nt c4)]
          rcases bt (decide ((i64.wrap (s.count + 1)) > 29829)) with c5 | c5
          · rw [if_pos c5]
            exact (⟨(tQuarter_w s.tones_0 w_s.tones_0), (tQuarter_w s.tones_1 w_s.tones_1), (tQuarter_w s.tones_2 w_s.tones_2), (tQuarter_w s.tones_3 w_s.tones_3), w_s.sample⟩ : Snd.ok ({ tones_0 := (tQuarter s.tones_0), tones_1 := (tQuarter s.tones_1), tones_2 := (tQuarter s.tones_2), tones_3 := (tQuarter s.tones_3), sample := s.sample, count := 0, manner := s.manner, bars := s.bars, irq := false, even := s.even } : Snd))
          · rw [if_neg (nt c5)]
            exact (⟨(tQuarter_w s.tones_0 w_s.tones_0), (tQuarter_w s.tones_1 w_s.tones_1), (tQuarter_w s.tones_2 w_s.tones_2), (tQuarter_w s.tones_3 w_s.tones_3), w_s.sample⟩ : Snd.ok ({ tones_0 := (tQuarter s.tones_0), tones_1 := (tQuarter s.tones_1), tones_2 := (tQuarter s.tones_2), tones_3 := (tQuarter s.tones_3), sample := s.sample, count := (i64.wrap (s.count + 1)), manner := s.manner, bars := s.bars, irq := false, even := s.even } : Snd))
    · rw [if_neg (nt c2)]
      rcases bt s.irq with c3 | c3
      · rw [if_pos c3]
        rcases bt (decide ((i64.wrap (s.count + 1)) > 29829)) with c4 | c4
        · rw [if_pos c4]
          exact (⟨(tHalf_w (tQuarter s.tones_0) (tQuarter_w s.tones_0 w_s.tones_0)), (tHalf_w (tQuarter s.tones_1) (tQuarter_w s.tones_1 w_s.tones_1)), (tHalf_w (tQuarter s.tones_2) (tQuarter_w s.tones_2 w_s.tones_2)), (tHalf_w (tQuarter s.tones_3) (tQuarter_w s.tones_3 w_s.tones_3)), w_s.sample⟩ : Snd.ok ({ tones_0 := (tHalf (tQuarter s.tones_0)), tones_1 := (tHalf (tQuarter s.tones_1)), tones_2 := (tHalf (tQuarter s.tones_2)), tones_3 := (tHalf (tQuarter s.tones_3)), sample := s.sample, count := 0, manner := s.manner, bars := s.bars, irq := true, even := s.even } : Snd))
        · rw [if_neg (nt c4)]
          exact (⟨(tHalf_w (tQuarter s.tones_0) (tQuarter_w s.tones_0 w_s.tones_0)), (tHalf_w (tQuarter s.tones_1) (tQuarter_w s.tones_1 w_s.tones_1)), (tHalf_w (tQuarter s.tones_2) (tQuarter_w s.tones_2 w_s.tones_2)), (tHalf_w (tQuarter s.tones_3) (tQuarter_w s.tones_3 w_s.tones_3)), w_s.sample⟩ : Snd.ok ({ tones_0 := (tHalf (tQuarter s.tones_0)), tones_1 := (tHalf (tQuarter s.tones_1)), tones_2 := (tHalf (tQuarter s.tones_2)), tones_3 := (tHalf (tQuarter s.tones_3)), sample := s.sample, count := (i64.wrap (s.count + 1)), manner := s.manner, bars := s.bars, irq := true, even := s.even } : Snd))
      · rw [if_neg (nt c3)]
        rcases bt (decide ((i64.wrap (s.count + 1)) > 29829)) with c4 | c4
        · rw [if_pos c4]
          exact (⟨(tHalf_w (tQuarter s.tones_0) (tQuarter_w s.tones_0 w_s.tones_0)), (tHalf_w (tQuarter s.tones_1) (tQuarter_w s.tones_1 w_s.tones_1)), (tHalf_w (tQuarter s.tones_2) (tQuarter_w s.tones_2 w_s.tones_2)), (tHalf_w (tQuarter s.tones_3) (tQuarter_w s.tones_3 w_s.tones_3)), w_s.sample⟩ : Snd.ok ({ tones_0 := (tHalf (tQuarter s.tones_0)), tones_1 := (tHalf (tQuarter s.tones_1)), tones_2 := (tHalf (tQuarter s.tones_2)), tones_3 := (tHalf (tQuarter s.tones_3)), sample := s.sample, count := 0, manner := s.manner, bars := s.bars, irq := false, even := s.even } : Snd))
        · rw [if_neg (nt c4)]
          exact (⟨(tHalf_w (tQuarter s.tones_0) (tQuarter_w s.tones_0 w_s.tones_0)), (tHalf_w (tQuarter s.tones_1) (tQuarter_w s.tones_1 w_s.tones_1)), (tHalf_w (tQuarter s.tones_2) (tQuarter_w s.tones_2 w_s.tones_2)), (tHalf_w (tQuarter s.tones_3) (tQuarter_w s.tones_3 w_s.tones_3)), w_s.sample⟩ : Snd.ok ({ tones_0 := (tHalf (tQuarter s.tones_0)), tones_1 := (tHalf (tQuarter s.tones_1)), tones_2 := (tHalf (tQuarter s.tones_2)), tones_3 := (tHalf (tQuarter s.tones_3)), sample := s.sample, count := (i64.wrap (s.count + 1)), manner := s.manner, bars := s.bars, irq := false, even := s.even } : Snd))
  · rw [if_neg (nt c1)]
    rcases bt s.irq with c2 | c2
    · rw [if_pos c2]
      rcases bt (decide ((i64.wrap (s.count + 1)) > 29829)) with c3 | c3
      · rw [if_pos c3]
        exact (⟨(tQuarter_w s.tones_0 w_s.tones_0), (tQuarter_w s.tones_1 w_s.tones_1), (tQuarter_w s.tones_2 w_s.tones_2), (tQuarter_w s.tones_3 w_s.tones_3), w_s.sample⟩ : Snd.ok ({ tones_0 := (tQuarter s.tones_0), tones_1 := (tQuarter s.tones_1), tones_2 := (tQuarter s.tones_2), tones_3 := (tQuarter s.tones_3), sample := s.sample, count := 0, manner := s.manner, bars := s.bars, irq := true, even := s.even } : Snd))
      · rw [if_neg (nt c3)]
        exact (⟨(tQuarter_w s.tones_0 w_s.tones_0), (tQuarter_w s.tones_1 w_s.tones_1), (tQuarter_w s.tones_2 w_s.tones_2), (tQuarter_w s.tones_3 w_s.tones_3), w_s.sample⟩ : Snd.ok ({ tones_0 := (tQuarter s.tones_0), tones_1 := (tQuarter s.tones_1), tones_2 := (tQuarter s.tones_2), tones_3 := (tQuarter s.tones_3), sample := s.sample, count := (i64.wrap (s.count + 1)), manner := s.manner, bars := s.bars, irq := true, even := s.even } : Snd))
    · rw [if_neg (nt c2)]
      rcases bt (decide ((i64.wrap (s.count + 1)) > 29829)) with c3 | c3
      · rw [if_pos c3]
        exact (⟨(tQuarter_w s.tones_0 w_s.tones_0), (tQuarter_w s.tones_1 w_s.tones_1), (tQuarter_w s.tones_2 w_s.tones_2), (tQuarter_w s.tones_3 w_s.tones_3), w_s.sample⟩ : Snd.ok ({ tones_0 := (tQuarter s.tones_0), tones_1 := (tQuarter s.tones_1), tones_2 := (tQuarter s.tones_2), tones_3 := (tQuarter s.tones_3), sample := s.sample, count := 0, manner := s.manner, bars := s.bars, irq := false, even := s.even } : Snd))
      · rw [if_neg (nt c3)]
        exact (⟨(tQuarter_w s.tones_0 w_s.tones_0), (tQuarter_w s.tones_1 w_s.tones_1), (tQuarter_w s.tones_2 w_s.tones_2), (tQuarter_w s.tones_3 w_s.tones_3), w_s.sample⟩ : Snd.ok ({ tones_0 := (tQuarter s.tones_0), tones_1 := (tQuarter s.tones_1), tones_2 := (tQuarter s.tones_2), tones_3 := (tQuarter s.tones_3), sample := s.sample, count := (i64.wrap (s.count + 1)), manner := s.manner, bars := s.bars, irq := false, even := s.even } : Snd))
def sTick_1 (s : Snd) : Snd :=
  if ((i64.wrap (s.count + 1)) != 7457) = true then
    if ((i64.wrap (s.count + 1)) != 14913) = true then
      if ((i64.wrap (s.count + 1)) != 22371) = true then
        if ((i64.wrap (s.count + 1)) != 37281) = true then
          if (decide ((i64.wrap (s.count + 1)) > 37281)) = true then
            ({ s with count := 0 } : Snd)
          else
            ({ s with count := (i64.wrap (s.count + 1)) } : Snd)
        else
          if s.irq = true then
            if (decide ((i64.wrap (s.count + 1)) > 37281)) = true then
              ({ tones_0 := (tHalf (tQuarter s.tones_0)), tones_1 := (tHalf (tQuarter s.tones_1)), tones_2 := (tHalf (tQuarter s.tones_2)), tones_3 := (tHalf (tQuarter s.tones_3)), sample := s.sample, count := 0, manner := s.manner, bars := s.bars, irq := true, even := s.even } : Snd)
            else
              ({ tones_0 := (tHalf (tQuarter s.tones_0)), tones_1 := (tHalf (tQuarter s.tones_1)), tones_2 := (tHalf (tQuarter s.tones_2)), tones_3 := (tHalf (tQuarter s.tones_3)), sample := s.sample, count := (i64.wrap (s.count + 1)), manner := s.manner, bars := s.bars, irq := true, even := s.even } : Snd)
          else
            if (decide ((i64.wrap (s.count + 1)) > 37281)) = true then
              ({ tones_0 := (tHalf (tQuarter s.tones_0)), tones_1 := (tHalf (tQuarter s.tones_1)), tones_2 := (tHalf (tQuarter s.tones_2)), tones_3 := (tHalf (tQuarter s.tones_3)), sample := s.sample, count := 0, manner := s.manner, bars := s.bars, irq := false, even := s.even } : Snd)
            else
              ({ tones_0 := (tHalf (tQuarter s.tones_0)), tones_1 := (tHalf (tQuarter s.tones_1)), tones_2 := (tHalf (tQuarter s.tones_2)), tones_3 := (tHalf (tQuarter s.tones_3)), sample := s.sample, count := (i64.wrap (s.count + 1)), manner := s.manner, bars := s.bars, irq := false, even := s.even } : Snd)
      else
        if s.irq = true then
          if (decide ((i64.wrap (s.count + 1)) > 37281)) = true then
            ({ tones_0 := (tQuarter s.tones_0), tones_1 := (tQuarter s.tones_1), tones_2 := (tQuarter s.tones_2), tones_3 := (tQuarter s.tones_3), sample := s.sample, count := 0, manner := s.manner, bars := s.bars, irq := true, even := s.even } : Snd)
          else
            ({ tones_0 := (tQuarter s.tones_0), tones_1 := (tQuarter s.tones_1), tones_2 := (tQuarter s.tones_2), tones_3 := (tQuarter s.tones_3), sample := s.sample, count := (i64.wrap (s.count + 1)), manner := s.manner, bars := s.bars, irq := true, even := s.even } : Snd)
        else
          if (decide ((i64.wrap (s.count + 1)) > 37281)) = true then
            ({ tones_0 := (tQuarter s.tones_0), tones_1 := (tQuarter s.tones_1), tones_2 := (tQuarter s.tones_2), tones_3 := (tQuarter s.tones_3), sample := s.sample, count := 0, manner := s.manner, bars := s.bars, irq := false, even := s.even } : Snd)
          else
            ({ tones_0 := (tQuarter s.tones_0), tones_1 := (tQuarter s.tones_1), tones_2 := (tQuarter s.tones_2), tones_3 := (tQuarter s.tones_3), sample := s.sample, count := (i64.wrap (s.count + 1)), manner := s.manner, bars := s.bars, irq := false, even := s.even } : Snd)
    else
      if s.irq = true then
        if (decide ((i64.wrap (s.count + 1)) > 37281)) = true then
          ({ tones_0 := (tHalf (tQuarter s.tones_0)), tones_1 := (tHalf (tQuarter s.tones_1)), tones_2 := (tHalf (tQuarter s.tones_2)), tones_3 := (tHalf (tQuarter s.tones_3)), sample := s.sample, count := 0, manner := s.manner, bars := s.bars, irq := true, even := s.even } : Snd)
        else
          ({ tones_0 := (tHalf (tQuarter s.tones_0)), tones_1 := (tHalf (tQuarter s.tones_1)), tones_2 := (tHalf (tQuarter s.tones_2)), tones_3 := (tHalf (tQuarter s.tones_3)), sample := s.sample, count := (i64.wrap (s.count + 1)), manner := s.manner, bars := s.bars, irq := true, even := s.even } : Snd)
      else
        if (decide ((i64.wrap (s.count + 1)) > 37281)) = true then
          ({ tones_0 := (tHalf (tQuarter s.tones_0)), tones_1 := (tHalf (tQuarter s.tones_1)), tones_2 := (tHalf (tQuarter s.tones_2)), tones_3 := (tHalf (tQuarter s.tones_3)), sample := s.sample, count := 0, manner := s.manner, bars := s.bars, irq := false, even := s.even } : Snd)
        else
          ({ tones_0 := (tHalf (tQuarter s.tones_0)), tones_1 := (tHalf (tQuarter s.tones_1)), tones_2 := (tHalf (tQuarter s.tones_2)), tones_3 := (tHalf (tQuarter s.tones_3)), sample := s.sample, count := (i64.wrap (s.count + 1)), manner := s.manner, bars := s.bars, irq := false, even := s.even } : Snd)
  else
    if s.irq = true then
      if (decide ((i64.wrap (s.count + 1)) > 37281)) = true then
        ({ tones_0 := (tQuarter s.tones_0), tones_1 := (tQuarter s.tones_1), tones_2 := (tQuarter s.tones_2), tones_3 := (tQuarter s.tones_3), sample := s.sample, count := 0, manner := s.manner, bars := s.bars, irq := true, even := s.even } : Snd)
      else
        ({ tones_0 := (tQuarter s.tones_0), tones_1 := (tQuarter s.tones_1), tones_2 := (tQuarter s.tones_2), tones_3 := (tQuarter s.tones_3), sample := s.sample, count := (i64.wrap (s.count + 1)), manner := s.manner, bars := s.bars, irq := true, even := s.even } : Snd)
    else
      if (decide ((i64.wrap (s.count + 1)) > 37281)) = true then
        ({ tones_0 := (tQuarter s.tones_0), tones_1 := (tQuarter s.tones_1), tones_2 := (tQuarter s.tones_2), tones_3 := (tQuarter s.tones_3), sample := s.sample, count := 0, manner := s.manner, bars := s.bars, irq := false, even := s.even } : Snd)
      else
        ({ tones_0 := (tQuarter s.tones_0), tones_1 := (tQuarter s.tones_1), tones_2 := (tQuarter s.tones_2), tones_3 := (tQuarter s.tones_3), sample := s.sample, count := (i64.wrap (s.count + 1)), manner := s.manner, bars := s.bars, irq := false, even := s.even } : Snd)
theorem sTick_1_ok (s : Snd) (hm : s.manner = 1) : FnSpec Tryd.prog 35 1005 [.pointer (some ⟨1000, 0, none⟩)] ([tb1] ++ (Snd.H0 s)) (.tuple ⟨[]⟩) (Snd.H0 (sTick_1 s)) := by
  unfold sTick_1
  rcases bt ((i64.wrap (s.count + 1)) != 7457) with c1 | c1
  · rw [if_pos c1]
    rcases bt ((i64.wrap (s.count + 1)) != 14913) with c2 | c2
    · rw [if_pos c2]
      rcases bt ((i64.wrap (s.count + 1)) != 22371) with c3 | c3
      · rw [if_pos c3]
        rcases bt ((i64.wrap (s.count + 1)) != 37281) with c4 | c4
        · rw [if_pos c4]
          rcases bt (decide ((i64.wrap (s.count + 1)) > 37281)) with c5 | c5
          · rw [if_pos c5]
            exact fn_of_x hG hM Tryd.func35 (by kernel_rfl) (by kernel_rfl) 400 [.eq 14 (.int .i64 1), .lit 1, .unroll, .yes, .lit 0, .yes, .unroll, .yes, .lit 1, .yes, .unroll, .yes, .lit 2, .yes, .unroll, .yes, .lit 3, .yes, .unroll, .no, .eq 67 (.int .i64 1), .lit 1, .lit 3, .yes] (J (congrArg (Value.int .i64) hm : Value.int .i64 s.manner = Value.int .i64 1) (J (Eq.refl (1 : Int)) (J (by decide : 1 < 2) (J T1 (J (Eq.refl (0 : Int)) (J (by decide : 0 < 4) (J c1 (J T1 (J (Eq.refl (1 : Int)) (J (by decide : 1 < 4) (J c2 (J T1 (J (Eq.refl (2 : Int)) (J (by decide : 2 < 4) (J c3 (J T1 (J (Eq.refl (3 : Int)) (J (by decide : 3 < 4) (J c4 (J T0 (J (congrArg (Value.int .i64) hm : Value.int .i64 s.manner = Value.int .i64 1) (J (Eq.refl (1 : Int)) (J (by decide : 1 < 2) (J (Eq.refl (3 : Int)) (J (by decide : 3 < 4) (J c5 trivial)))))))))))))))))))))))))) (by kernel_rfl)
          · rw [if_neg (nt c5)]
            exact fn_of_x hG hM Tryd.func35 (by kernel_rfl) (by kernel_rfl) 400 [.eq 14 (.int .i64 1), .lit 1, .unroll, .yes, .lit 0, .yes, .unroll, .yes, .lit 1, .yes, .unroll, .yes, .lit 2, .yes, .unroll, .yes, .lit 3, .yes, .unroll, .no, .eq 67 (.int .i64 1), .lit 1, .lit 3, .no] (J (congrArg (Value.int .i64) hm : Value.int .i64 s.manner = Value.int .i64 1) (J (Eq.refl (1 : Int)) (J (by decide : 1 < 2) (J T1 (J (Eq.refl (0 : Int)) (J (by decide : 0 < 4) (J c1 (J T1 (J (Eq.refl (1 : Int)) (J (by decide : 1 < 4) (J c2 (J T1 (J (Eq.refl (2 : Int)) (J (by decide : 2 < 4) (J c3 (J T1 (J (Eq.refl (3 : Int)) (J (by decide : 3 < 4) (J c4 (J T0 (J (congrArg (Value.int .i64) hm : Value.int .i64 s.manner = Value.int .i64 1) (J (Eq.refl (1 : Int)) (J (by decide : 1 < 2) (J (Eq.refl (3 : Int)) (J (by decide : 3 < 4) (J c5 trivial)))))))))))))))))))))))))) (by kernel_rfl)
        · rw [if_neg (nt c4)]
          rcases bt s.irq with c5 | c5
          · rw [if_pos c5]
            rcases bt (decide ((i64.wrap (s.count + 1)) > 37281)) with c6 | c6
            · rw [if_pos c6]
              exact fn_of_x hG hM Tryd.func35 (by kernel_rfl) (by kernel_rfl) 400 [.eq 14 (.int .i64 1), .lit 1, .unroll, .yes, .lit 0, .yes, .unroll, .yes, .lit 1, .yes, .unroll, .yes, .lit 2, .yes, .unroll, .yes, .lit 3, .no, .call [(1000, 1000), (1001, 1001), (1002, 1002), (1003, 1003), (1004, 1004)] [] 1005 (.tuple ⟨[]⟩) (Snd.H0 ({ s with tones_0 := (tQuarter s.tones_0), tones_1 := (tQuarter s.tones_1), tones_2 := (tQuarter s.tones_2), tones_3 := (tQuarter s.tones_3), count := (i64.wrap (s.count + 1)) } : Snd)), .yes, .call [(1000, 1000), (1001, 1001), (1002, 1002), (1003, 1003), (1004, 1004)] [] 1005 (.tuple ⟨[]⟩) (Snd.H0 ({ s with tones_0 := (tHalf (tQuarter s.tones_0)), tones_1 := (tHalf (tQuarter s.tones_1)), tones_2 := (tHalf (tQuarter s.tones_2)), tones_3 := (tHalf (tQuarter s.tones_3)), count := (i64.wrap (s.count + 1)) } : Snd)), .yes, .yes, .yes, .yes, .yes, .yes, .yes, .unroll, .no, .eq 67 (.int .i64 1), .lit 1, .lit 3, .yes] (J (congrArg (Value.int .i64) hm : Value.int .i64 s.manner = Value.int .i64 1) (J (Eq.refl (1 : Int)) (J (by decide : 1 < 2) (J T1 (J (Eq.refl (0 : Int)) (J (by decide : 0 < 4) (J c1 (J T1 (J (Eq.refl (1 : Int)) (J (by decide : 1 < 4) (J c2 (J T1 (J (Eq.refl (2 : Int)) (J (by decide : 2 < 4) (J c3 (J T1 (J (Eq.refl (3 : Int)) (J (by decide : 3 < 4) (J c4 (J (sAllQ_ok ({ s with count := (i64.wrap (s.count + 1)) } : Snd)) (J (by decide : ((2 : Int) ≠ 0)) (J T1 (J (sAllH_ok ({ s with tones_0 := (tQuarter s.tones_0), tones_1 := (tQuarter s.tones_1), tones_2 := (tQuarter s.tones_2), tones_3 := (tQuarter s.tones_3), count := (i64.wrap (s.count + 1)) } : Snd)) (J c5 (J c5 (J c5 (J c5 (J c5 (J c5 (J c5 (J T0 (J (congrArg (Value.int .i64) hm : Value.int .i64 s.manner = Value.int .i64 1) (J (Eq.refl (1 : Int)) (J (by decide : 1 < 2) (J (Eq.refl (3 : Int)) (J (by decide : 3 < 4) (J c6 trivial))))))))))))))))))))))))))))))))))))) (by kernel_rfl)
            · rw [if_neg (nt c6)]
              exact fn_of_x hG hM Tryd.func35 (by kernel_rfl) (by kernel_rfl) 400 [.eq 14 (.int .i64 1), .lit 1, .unroll, .yes, .lit 0, .yes, .unroll, .yes, .lit 1, .yes, .unroll, .yes, .lit 2, .yes, .unroll, .yes, .lit 3, .no, .call [(1000, 1000), (1001, 1001), (1002, 1002), (1003, 1003), (1004, 1004)] [] 1005 (.tuple ⟨[]⟩) (Snd.H0 ({ s with tones_0 := (tQuarter s.tones_0), tones_1 := (tQuarter s.tones_1), tones_2 := (tQuarter s.tones_2), tones_3 := (tQuarter s.tones_3), count := (i64.wrap (s.count + 1)) } : Snd)), .yes, .call [(1000, 1000), (1001, 1001), (1002, 1002), (1003, 1003), (1004, 1004)] [] 1005 (.tuple ⟨[]⟩) (Snd.H0 ({ s with tones_0 := (tHalf (tQuarter s.tones_0)), tones_1 := (tHalf (tQuarter s.tones_1)), tones_2 := (tHalf (tQuarter s.tones_2)), tones_3 := (tHalf (tQuarter s.tones_3)), count := (i64.wrap (s.count + 1)) } : Snd)), .yes, .yes, .yes, .yes, .yes, .yes, .yes, .unroll, .no, .eq 67 (.int .i64 1), .lit 1, .lit 3, .no] (J (congrArg (Value.int .i64) hm : Value.int .i64 s.manner = Value.int .i64 1) (J (Eq.refl (1 : Int)) (J (by decide : 1 < 2) (J T1 (J (Eq.refl (0 : Int)) (J (by decide : 0 < 4) (J c1 (J T1 (J (Eq.refl (1 : Int)) (J (by decide : 1 < 4) (J c2 (J T1 (J (Eq.refl (2 : Int)) (J (by decide : 2 < 4) (J c3 (J T1 (J (Eq.refl (3 : Int)) (J (by decide : 3 < 4) (J c4 (J (sAllQ_ok ({ s with count := (i64.wrap (s.count + 1)) } : Snd)) (J (by decide : ((2 : Int) ≠ 0)) (J T1 (J (sAllH_ok ({ s with tones_0 := (tQuarter s.tones_0), tones_1 := (tQuarter s.tones_1), tones_2 := (tQuarter s.tones_2), tones_3 := (tQuarter s.tones_3), count := (i64.wrap (s.count + 1)) } : Snd)) (J c5 (J c5 (J c5 (J c5 (J c5 (J c5 (J c5 (J T0 (J (congrArg (Value.int .i64) hm : Value.int .i64 s.manner = Value.int .i64 1) (J (Eq.refl (1 : Int)) (J (by decide : 1 < 2) (J (Eq.refl (3 : Int)) (J (by decide : 3 < 4) (J c6 trivial))))))))))))))))))))))))))))))))))))) (by kernel_rfl)
          · rw [if_neg (nt c5)]
            rcases bt (decide ((i64.wrap (s.count + 1)) > 37281)) with c6 | c6
            · rw [if_pos c6]
              exact fn_of_x hG hM Tryd.func35 (by kernel_rfl) (by kernel_rfl) 400 [.eq 14 (.int .i64 1), .lit 1, .unroll, .yes, .lit 0, .yes, .unroll, .yes, .lit 1, .yes, .unroll, .yes, .lit 2, .yes, .unroll, .yes, .lit 3, .no, .call [(1000, 1000), (1001, 1001), (1002, 1002), (1003, 1003), (1004, 1004)] [] 1005 (.tuple ⟨[]⟩) (Snd.H0 ({ s with tones_0 := (tQuarter s.tones_0), tones_1 := (tQuarter s.tones_1), tones_2 := (tQuarter s.tones_2), tones_3 := (tQuarter s.tones_3), count := (i64.wrap (s.count + 1)) } : Snd)), .yes, .call [(1000, 1000), (1001, 1001), (1002, 1002), (1003, 1003), (1004, 1004)] [] 1005 (.tuple ⟨[]⟩) (Snd.H0 ({ s with tones_0 := (tHalf (tQuarter s.tones_0)), tones_1 := (tHalf (tQuarter s.tones_1)), tones_2 := (tHalf (tQuarter s.tones_2)), tones_3 := (tHalf (tQuarter s.tones_3)), count := (i64.wrap (s.count + 1)) } : Snd)), .no, .no, .no, .yes, .yes, .yes, .yes, .eq 46 (.int .i64 1), .yes, .no, .yes, .no, .no, .no, .no, .no, .no, .no, .no, .no, .unroll, .no, .eq 67 (.int .i64 1), .lit 1, .lit 3, .yes] (J (congrArg (Value.int .i64) hm : Value.int .i64 s.manner = Value.int .i64 1) (J (Eq.refl (1 : Int)) (J (by decide : 1 < 2) (J T1 (J (Eq.refl (0 : Int)) (J (by decide : 0 < 4) (J c1 (J T1 (J (Eq.refl (1 : Int)) (J (by decide : 1 < 4) (J c2 (J T1 (J (Eq.refl (2 : Int)) (J (by decide : 2 < 4) (J c3 (J T1 (J (Eq.refl (3 : Int)) (J (by decide : 3 < 4) (J c4 (J (sAllQ_ok ({ s with count := (i64.wrap (s.count + 1)) } : Snd)) (J (by decide : ((2 : Int) ≠ 0)) (J T1 (J (sAllH_ok ({ s with tones_0 := (tQuarter s.tones_0), tones_1 := (tQuarter s.tones_1), tones_2 := (tQuarter s.tones_2), tones_3 := (tQuarter s.tones_3), count := (i64.wrap (s.count + 1)) } : Snd)) (J c5 (J c5 (J c5 (J T1 (J T1 (J T1 (J T1 (J (congrArg (Value.int .i64) hm : Value.int .i64 s.manner = Value.int .i64 1) (J T1 (J c5 (J T1 (J c5 (J T0 (J T0 (J T0 (J T0 (J T0 (J c5 (J T0 (J c5 (J T0 (J (congrArg (Value.int .i64) hm : Value.int .i64 s.manner = Value.int .i64 1) (J (Eq.refl (1 : Int)) (J (by decide : 1 < 2) (J (Eq.refl (3 : Int)) (J (by decide : 3 < 4) (J c6 trivial)))))))))))))))))))))))))))))))))))))))))))))))))) (by kernel_rfl)
            · rw [if_neg (nt c6)]
              exact fn_of_x hG hM Tryd.func35 (by kernel_rfl) (by kernel_rfl) 400 [.eq 14 (.int .i64 1), .lit 1, .unroll, .yes, .lit 0, .yes, .unroll, .yes, .lit 1, .yes, .unroll, .yes, .lit 2, .yes, .unroll, .yes, .lit 3, .no, .call [(1000, 1000), (1001, 1001), (1002, 1002), (1003, 1003), (1004, 1004)] [] 1005 (.tuple ⟨[]⟩) (Snd.H0 ({ s with tones_0 := (tQuarter s.tones_0), tones_1 := (tQuarter s.tones_1), tones_2 := (tQuarter s.tones_2), tones_3 := (tQuarter s.tones_3), count := (i64.wrap (s.count + 1)) } : Snd)), .yes, .call [(1000, 1000), (1001, 1001), (1002, 1002), (1003, 1003), (1004, 1004)] [] 1005 (.tuple ⟨[]⟩) (Snd.H0 ({ s with tones_0 := (tHalf (tQuarter s.tones_0)), tones_1 := (tHalf (tQuarter s.tones_1)), tones_2 := (tHalf (tQuarter s.tones_2)), tones_3 := (tHalf (tQuarter s.tones_3)), count := (i64.wrap (s.count + 1)) } : Snd)), .no, .no, .no, .yes, .yes, .yes, .yes, .eq 46 (.int .i64 1), .yes, .no, .yes, .no, .no, .no, .no, .no, .no, .no, .no, .no, .unroll, .no, .eq 67 (.int .i64 1), .lit 1, .lit 3, .no] (J (congrArg (Value.int .i64) hm : Value.int .i64 s.manner = Value.int .i64 1) (J (Eq.refl (1 : Int)) (J (by decide : 1 < 2) (J T1 (J (Eq.refl (0 : Int)) (J (by decide : 0 < 4) (J c1 (J T1 (J (Eq.refl (1 : Int)) (J (by decide : 1 < 4) (J c2 (J T1 (J (Eq.refl (2 : Int)) (J (by decide : 2 < 4) (J c3 (J T1 (J (Eq.refl (3 : Int)) (J (by decide : 3 < 4) (J c4 (J (sAllQ_ok ({ s with count := (i64.wrap (s.count + 1)) } : Snd)) (J (by decide : ((2 : Int) ≠ 0)) (J T1 (J (sAllH_ok ({ s with tones_0 := (tQuarter s.tones_0), tones_1 := (tQuarter s.tones_1), tones_2 := (tQuarter s.tones_2), tones_3 := (tQuarter s.tones_3), count := (i64.wrap (s.count + 1)) } : Snd)) (J c5 (J c5 (J c5 (J T1 (J T1 (J T1 (J T1 (J (congrArg (Value.int .i64) hm : Value.int .i64 s.manner = Value.int .i64 1) (J T1 (J c5 (J T1 (J c5 (J T0 (J T0 (J T0 (J T0 (J T0 (J c5 (J T0 (J c5 (J T0 (J (congrArg (Value.int .i64) hm : Value.int .i64 s.manner = Value.int .i64 1) (J (Eq.refl (1 : Int)) (J (by decide : 1 < 2) (J (Eq.refl (3 : Int)) (J (by decide : 3 < 4) (J c6 trivial)))))))))))))))))))))))))))))))))))))))))))))))))) (by kernel_rfl)
      · rw [if_neg (nt c3)]
        rcases bt s.irq with c4 | c4
        · rw [if_pos c4]
          rcases bt (decide ((i64.wrap (s.count + 1)) > 37281)) with c5 | c5
          · rw [if_pos c5]
            exact fn_of_x hG hM Tryd.func35 (by kernel_rfl) (by kernel_rfl) 400 [.eq 14 (.int .i64 1), .lit 1, .unroll, .yes, .lit 0, .yes, .unroll, .yes, .lit 1, .yes, .unroll, .yes, .lit 2, .no, .call [(1000, 1000), (1001, 1001), (1002, 1002), (1003, 1003), (1004, 1004)] [] 1005 (.tuple ⟨[]⟩) (Snd.H0 ({ s with tones_0 := (tQuarter s.tones_0), tones_1 := (tQuarter s.tones_1), tones_2 := (tQuarter s.tones_2), tones_3 := (tQuarter s.tones_3), count := (i64.wrap (s.count + 1)) } : Snd)), .no, .yes, .yes, .yes, .yes, .yes, .yes, .yes, .unroll, .yes, .lit 3, .yes, .unroll, .no, .eq 67 (.int .i64 1), .lit 1, .lit 3, .yes] (J (congrArg (Value.int .i64) hm : Value.int .i64 s.manner = Value.int .i64 1) (J (Eq.refl (1 : Int)) (J (by decide : 1 < 2) (J T1 (J (Eq.refl (0 : Int)) (J (by decide : 0 < 4) (J c1 (J T1 (J (Eq.refl (1 : Int)) (J (by decide : 1 < 4) (J c2 (J T1 (J (Eq.refl (2 : Int)) (J (by decide : 2 < 4) (J c3 (J (sAllQ_ok ({ s with count := (i64.wrap (s.count + 1)) } : Snd)) (J (by decide : ((2 : Int) ≠ 0)) (J T0 (J c4 (J c4 (J c4 (J c4 (J c4 (J c4 (J c4 (J T1 (J (Eq.refl (3 : Int)) (J (by decide : 3 < 4) (J (lit_n_n (b := 37281) c3 (by decide)) (J T0 (J (congrArg (Value.int .i64) hm : Value.int .i64 s.manner = Value.int .i64 1) (J (Eq.refl (1 : Int)) (J (by decide : 1 < 2) (J (Eq.refl (3 : Int)) (J (by decide : 3 < 4) (J c5 trivial)))))))))))))))))))))))))))))))))))) (by kernel_rfl)
          · rw [if_neg (nt c5)]
            exact fn_of_x hG hM Tryd.func35 (by kernel_rfl) (by kernel_rfl) 400 [.eq 14 (.int .i64 1), .lit 1, .unroll, .yes, .lit 0, .yes, .unroll, .yes, .lit 1, .yes, .unroll, .yes, .lit 2, .no, .call [(1000, 1000), (1001, 1001), (1002, 1002), (1003, 1003), (1004, 1004)] [] 1005 (.tuple ⟨[]⟩) (Snd.H0 ({ s with tones_0 := (tQuarter s.tones_0), tones_1 := (tQuarter s.tones_1), tones_2 := (tQuarter s.tones_2), tones_3 := (tQuarter s.tones_3), count := (i64.wrap (s.count + 1)) } : Snd)), .no, .yes, .yes, .yes, .yes, .yes, .yes, .yes, .unroll, .yes, .lit 3, .yes, .unroll, .no, .eq 67 (.int .i64 1), .lit 1, .lit 3, .no] (J (congrArg (Value.int .i64) hm : Value.int .i64 s.manner = Value.int .i64 1) (J (Eq.refl (1 : Int)) (J (by decide : 1 < 2) (J T1 (J (Eq.refl (0 : Int)) (J (by decide : 0 < 4) (J c1 (J T1 (J (Eq.refl (1 : Int)) (J (by decide : 1 < 4) (J c2 (J T1 (J (Eq.refl (2 : Int)) (J (by decide : 2 < 4) (J c3 (J (sAllQ_ok ({ s with count := (i64.wrap (s.count + 1)) } : Snd)) (J (by decide : ((2 : Int) ≠ 0)) (J T0 (J c4 (J c4 (J c4 (J c4 (J c4 (J c4 (J c4 (J T1 (J (Eq.refl (3 : Int)) (J (by decide : 3 < 4) (J (lit_n_n (b := 37281) c3 (by decide)) (J T0 (J (congrArg (Value.int .i64) hm : Value.int .i64 s.manner = Value.int .i64 1) (J (Eq.refl (1 : Int)) (J (by decide : 1 < 2) (J (Eq.refl (3 : Int)) (J (by decide : 3 < 4) (J c5 trivial)))))))))))))))))))))))))))))))))))) (by kernel_rfl)
        · rw [if_neg (nt c4)]
          rcases bt (decide ((i64.wrap (s.count + 1)) > 37281)) with c5 | c5
          · rw [if_pos c5]
            exact fn_of_x hG hM Tryd.func35 (by kernel_rfl) (by kernel_rfl) 400 [.eq 14 (.int .i64 1), .lit 1, .unroll, .yes, .lit 0, .yes, .unroll, .yes, .lit 1, .yes, .unroll, .yes, .lit 2, .no, .call [(1000, 1000), (1001, 1001), (1002, 1002), (1003, 1003), (1004, 1004)] [] 1005 (.tuple ⟨[]⟩) (Snd.H0 ({ s with tones_0 := (tQuarter s.tones_0), tones_1 := (tQuarter s.tones_1), tones_2 := (tQuarter s.tones_2), tones_3 := (tQuarter s.tones_3), count := (i64.wrap (s.count + 1)) } : Snd)), .no, .no, .no, .no, .no, .no, .no, .no, .no, .no, .no, .no, .no, .no, .no, .no, .no, .no, .no, .no, .unroll, .yes, .lit 3, .yes, .unroll, .no, .eq 67 (.int .i64 1), .lit 1, .lit 3, .yes] (J (congrArg (Value.int .i64) hm : Value.int .i64 s.manner = Value.int .i64 1) (J (Eq.refl (1 : Int)) (J (by decide : 1 < 2) (J T1 (J (Eq.refl (0 : Int)) (J (by decide : 0 < 4) (J c1 (J T1 (J (Eq.refl (1 : Int)) (J (by decide : 1 < 4) (J c2 (J T1 (J (Eq.refl (2 : Int)) (J (by decide : 2 < 4) (J c3 (J (sAllQ_ok ({ s with count := (i64.wrap (s.count + 1)) } : Snd)) (J (by decide : ((2 : Int) ≠ 0)) (J T0 (J c4 (J c4 (J c4 (J T0 (J T0 (J T0 (J T0 (J T0 (J c4 (J T0 (J c4 (J T0 (J T0 (J T0 (J T0 (J T0 (J c4 (J T0 (J c4 (J T1 (J (Eq.refl (3 : Int)) (J (by decide : 3 < 4) (J (lit_n_n (b := 37281) c3 (by decide)) (J T0 (J (congrArg (Value.int .i64) hm : Value.int .i64 s.manner = Value.int .i64 1) (J (Eq.refl (1 : Int)) (J (by decide : 1 < 2) (J (Eq.refl (3 : Int)) (J (by decide : 3 < 4) (J c5 trivial)))))))))))))))))))))))))))))))))))))))))))))))) (by kernel_rfl)
          · rw [if_neg (nt c5)]
            exact fn_of_x hG hM Tryd.func35 (by kernel_rfl) (by kernel_rfl) 400 [.eq 14 (.int .i64 1), .lit 1, .unroll, .yes, .lit 0, .yes, .unroll, .yes, .lit 1, .yes, .unroll, .yes, .lit 2, .no, .call [(1000, 1000), (1001, 1001), (1002, 1002), (1003, 1003), (1004, 1004)] [] 1005 (.tuple ⟨[]⟩) (Snd.H0 ({ s with tones_0 := (tQuarter s.tones_0), tones_1 := (tQuarter s.tones_1), tones_2 := (tQuarter s.tones_2), tones_3 := (tQuarter s.tones_3), count := (i64.wrap (s.count + 1)) } : Snd)), .no, .no, .no, .no, .no, .no, .no, .no, .no, .no, .no, .no, .no, .no, .no, .no, .no, .no, .no, .no, .unroll, .yes, .lit 3, .yes, .unroll, .no, .eq 67 (.int .i64 1), .lit 1, .lit 3, .no] (J (congrArg (Value.int .i64) hm : Value.int .i64 s.manner = Value.int .i64 1) (J (Eq.refl (1 : Int)) (J (by decide : 1 < 2) (J T1 (J (Eq.refl (0 : Int)) (J (by decide : 0 < 4) (J c1 (J T1 (J (Eq.refl (1 : Int)) (J (by decide : 1 < 4) (J c2 (J T1 (J (Eq.refl (2 : Int)) (J (by decide : 2 < 4) (J c3 (J (sAllQ_ok ({ s with count := (i64.wrap (s.count + 1)) } : Snd)) (J (by decide : ((2 : Int) ≠ 0)) (J T0 (J c4 (J c4 (J c4 (J T0 (J T0 (J T0 (J T0 (J T0 (J c4 (J T0 (J c4 (J T0 (J T0 (J T0 (J T0 (J T0 (J c4 (J T0 (J c4 (J T1 (J (Eq.refl (3 : Int)) (J (by decide : 3 < 4) (J (lit_n_n (b := 37281) c3 (by decide)) (J T0 (J (congrArg (Value.int .i64) hm : Value.int .i64 s.manner = Value.int .i64 1) (J (Eq.refl (1 : Int)) (J (by decide : 1 < 2) (J (Eq.refl (3 : Int)) (J (by decide : 3 < 4) (J c5 trivial)))))))))))))))))))))))))))))))))))))))))))))))) (by kernel_rfl)
    · rw [if_neg (nt c2)]
      rcases bt s.irq with c3 | c3
      · rw [if_pos c3]
        rcases bt (decide ((i64.wrap (s.count + 1)) > 37281)) with c4 | c4
        · rw [if_pos c4]
          exact fn_of_x hG hM Tryd.func35 (by kernel_rfl) (by kernel_rfl) 400 [.eq 14 (.int .i64 1), .lit 1, .unroll, .yes, .lit 0, .yes, .unroll, .yes, .lit 1, .no, .call [(1000, 1000), (1001, 1001), (1002, 1002), (1003, 1003), (1004, 1004)] [] 1005 (.tuple ⟨[]⟩) (Snd.H0 ({ s with tones_0 := (tQuarter s.tones_0), tones_1 := (tQuarter s.tones_1), tones_2 := (tQuarter s.tones_2), tones_3 := (tQuarter s.tones_3), count := (i64.wrap (s.count + 1)) } : Snd)), .yes, .call [(1000, 1000), (1001, 1001), (1002, 1002), (1003, 1003), (1004, 1004)] [] 1005 (.tuple ⟨[]⟩) (Snd.H0 ({ s with tones_0 := (tHalf (tQuarter s.tones_0)), tones_1 := (tHalf (tQuarter s.tones_1)), tones_2 := (tHalf (tQuarter s.tones_2)), tones_3 := (tHalf (tQuarter s.tones_3)), count := (i64.wrap (s.count + 1)) } : Snd)), .yes, .yes, .yes, .yes, .yes, .yes, .yes, .unroll, .yes, .lit 2, .yes, .unroll, .yes, .lit 3, .yes, .unroll, .no, .eq 67 (.int .i64 1), .lit 1, .lit 3, .yes] (J (congrArg (Value.int .i64) hm : Value.int .i64 s.manner = Value.int .i64 1) (J (Eq.refl (1 : Int)) (J (by decide : 1 < 2) (J T1 (J (Eq.refl (0 : Int)) (J (by decide : 0 < 4) (J c1 (J T1 (J (Eq.refl (1 : Int)) (J (by decide : 1 < 4) (J c2 (J (sAllQ_ok ({ s with count := (i64.wrap (s.count + 1)) } : Snd)) (J (by decide : ((2 : Int) ≠ 0)) (J T1 (J (sAllH_ok ({ s with tones_0 := (tQuarter s.tones_0), tones_1 := (tQuarter s.tones_1), tones_2 := (tQuarter s.tones_2), tones_3 := (tQuarter s.tones_3), count := (i64.wrap (s.count + 1)) } : Snd)) (J c3 (J c3 (J c3 (J c3 (J c3 (J c3 (J c3 (J T1 (J (Eq.refl (2 : Int)) (J (by decide : 2 < 4) (J (lit_n_n (b := 22371) c2 (by decide)) (J T1 (J (Eq.refl (3 : Int)) (J (by decide : 3 < 4) (J (lit_n_n (b := 37281) c2 (by decide)) (J T0 (J (congrArg (Value.int .i64) hm : Value.int .i64 s.manner = Value.int .i64 1) (J (Eq.refl (1 : Int)) (J (by decide : 1 < 2) (J (Eq.refl (3 : Int)) (J (by decide : 3 < 4) (J c4 trivial))))))))))))))))))))))))))))))))))))) (by kernel_rfl)
        · rw [if_neg (nt c4)]
          exact fn_of_x hG hM Tryd.func35 (by kernel_rfl) (by kernel_rfl) 400 [.eq 14 (.int .i64 1), .lit 1, .unroll, .yes, .lit 0, .yes, .unroll, .yes, .lit 1, .no, .call [(1000, 1000), (1001, 1001), (1002, 1002), (1003, 1003), (1004, 1004)] [] 1005 (.tuple ⟨[]⟩) (Snd.H0 ({ s with tones_0 := (tQuarter s.tones_0), tones_1 := (tQuarter s.tones_1), tones_2 := (tQuarter s.tones_2), tones_3 := (tQuarter s.tones_3), count := (i64.wrap (s.count + 1)) } : Snd)), .yes, .call [(1000, 1000), (1001, 1001), (1002, 1002), (1003, 1003), (1004, 1004)] [] 1005 (.tuple ⟨[]⟩) (Snd.H0 ({ s with tones_0 := (tHalf (tQuarter s.tones_0)), tones_1 := (tHalf (tQuarter s.tones_1)), tones_2 := (tHalf (tQuarter s.tones_2)), tones_3 := (tHalf (tQuarter s.tones_3)), count := (i64.wrap (s.count + 1)) } : Snd)), .yes, .yes, .yes, .yes, .yes, .yes, .yes, .unroll, .yes, .lit 2, .yes, .unroll, .yes, .lit 3, .yes, .unroll, .no, .eq 67 (.int .i64 1), .lit 1, .lit 3, .no] (J (congrArg (Value.int .i64) hm : Value.int .i64 s.manner = Value.int .i64 1) (J (Eq.refl (1 : Int)) (J (by decide : 1 < 2) (J T1 (J (Eq.refl (0 : Int)) (J (by decide : 0 < 4) (J c1 (J T1 (J (Eq.refl (1 : Int)) (J (by decide : 1 < 4) (J c2 (J (sAllQ_ok ({ s with count := (i64.wrap (s.count + 1)) } : Snd)) (J (by decide : ((2 : Int) ≠ 0)) (J T1 (J (sAllH_ok ({ s with tones_0 := (tQuarter s.tones_0), tones_1 := (tQuarter s.tones_1), tones_2 := (tQuarter s.tones_2), tones_3 := (tQuarter s.tones_3), count := (i64.wrap (s.count + 1)) } : Snd)) (J c3 (J c3 (J c3 (J c3 (J c3 (J c3 (J c3 (J T1 (J (Eq.refl (2 : Int)) (J (by decide : 2 < 4) (J (lit_n_n (b := 22371) c2 (by decide)) (J T1 (J (Eq.refl (3 : Int)) (J (by decide : 3 < 4) (J (lit_n_n (b := 37281) c2 (by decide)) (J T0 (J (congrArg (Value.int .i64) hm : Value.int .i64 s.manner = Value.int .i64 1) (J (Eq.refl (1 : Int)) (J (by decide : 1 < 2) (J (Eq.refl (3 : Int)) (J (by decide : 3 < 4) (J c4 trivial))))))))))))))))))))))))))))))))))))) (by kernel_rfl)
      · rw [if_neg (nt c3)]
        rcases bt (decide ((i64.wrap (s.count + 1)) > 37281)) with c4 | c4
        · rw [if_pos c4]
          exact fn_of_x hG hM Tryd.func35 (by kernel_rfl) (by kernel_rfl) 400 [.eq 14 (.int .i64 1), .lit 1, .unroll, .yes, .lit 0, .yes, .unroll, .yes, .lit 1, .no, .call [(1000, 1000), (1001, 1001), (1002, 1002), (1003, 1003), (1004, 1004)] [] 1005 (.tuple ⟨[]⟩) (Snd.H0 ({ s with tones_0 := (tQuarter s.tones_0), tones_1 := (tQuarter s.tones_1), tones_2 := (tQuarter s.tones_2), tones_3 := (tQuarter s.tones_3), count := (i64.wrap (s.count + 1)) } : Snd)), .yes, .call [(1000, 1000), (1001, 1001), (1002, 1002), (1003, 1003), (1004, 1004)] [] 1005 (.tuple ⟨[]⟩) (Snd.H0 ({ s with tones_0 := (tHalf (tQuarter s.tones_0)), tones_1 := (tHalf (tQuarter s.tones_1)), tones_2 := (tHalf (tQuarter s.tones_2)), tones_3 := (tHalf (tQuarter s.tones_3)), count := (i64.wrap (s.count + 1)) } : Snd)), .no, .no, .no, .no, .no, .no, .no, .no, .no, .no, .no, .no, .no, .no, .no, .no, .no, .no, .no, .unroll, .yes, .lit 2, .yes, .unroll, .yes, .lit 3, .yes, .unroll, .no, .eq 67 (.int .i64 1), .lit 1, .lit 3, .yes] (J (congrArg (Value.int .i64) hm : Value.int .i64 s.manner = Value.int .i64 1) (J (Eq.refl (1 : Int)) (J (by decide : 1 < 2) (J T1 (J (Eq.refl (0 : Int)) (J (by decide : 0 < 4) (J c1 (J T1 (J (Eq.refl (1 : Int)) (J (by decide : 1 < 4) (J c2 (J (sAllQ_ok ({ s with count := (i64.wrap (s.count + 1)) } : Snd)) (J (by decide : ((2 : Int) ≠ 0)) (J T1 (J (sAllH_ok ({ s with tones_0 := (tQuarter s.tones_0), tones_1 := (tQuarter s.tones_1), tones_2 := (tQuarter s.tones_2), tones_3 := (tQuarter s.tones_3), count := (i64.wrap (s.count + 1)) } : Snd)) (J c3 (J c3 (J c3 (J T0 (J T0 (J T0 (J T0 (J T0 (J c3 (J T0 (J c3 (J T0 (J T0 (J T0 (J T0 (J T0 (J c3 (J T0 (J c3 (J T1 (J (Eq.refl (2 : Int)) (J (by decide : 2 < 4) (J (lit_n_n (b := 22371) c2 (by decide)) (J T1 (J (Eq.refl (3 : Int)) (J (by decide : 3 < 4) (J (lit_n_n (b := 37281) c2 (by decide)) (J T0 (J (congrArg (Value.int .i64) hm : Value.int .i64 s.manner = Value.int .i64 1) (J (Eq.refl (1 : Int)) (J (by decide : 1 < 2) (J (Eq.refl (3 : Int)) (J (by decide : 3 < 4) (J c4 trivial))))))))))))))))))))))))))))))))))))))))))))))))) (by kernel_rfl)
        · rw [if_neg (nt c4)]
          exact fn_of_x hG hM Tryd.func35 (by kernel_rfl) (by kernel_rfl) 400 [.eq 14 (.int .i64 1), .lit 1, .unroll, .yes, .lit 0, .yes, .unroll, .yes, .lit 1, .no, .call [(1000, 1000), (1001, 1001), (1002, 1002), (1003, 1003), (1004, 1004)] [] 1005 (.tuple ⟨[]⟩) (Snd.H0 ({ s with tones_0 := (tQuarter s.tones_0), tones_1 := (tQuarter s.tones_1), tones_2 := (tQuarter s.tones_2), tones_3 := (tQuarter s.tones_3), count := (i64.wrap (s.count + 1)) } : Snd)), .yes, .call [(1000, 1000), (1001, 1001), (1002, 1002), (1003, 1003), (1004, 1004)] [] 1005 (.tuple ⟨[]⟩) (Snd.H0 ({ s with tones_0 := (tHalf (tQuarter s.tones_0)), tones_1 := (tHalf (tQuarter s.tones_1)), tones_2 := (tHalf (tQuarter s.tones_2)), tones_3 := (tHalf (tQuarter s.tones_3)), count := (i64.wrap (s.count + 1)) } : Snd)), .no, .no, .no, .no, .no, .no, .no, .no, .no, .no, .no, .no, .no, .no, .no, .no, .no, .no, .no, .unroll, .yes, .lit 2, .yes, .unroll, .yes, .lit 3, .yes, .unroll, .no, .eq 67 (.int .i64 1), .lit 1, .lit 3, .no] (J (congrArg (Value.int .i64) hm : Value.int .i64 s.manner = Value.int .i64 1) (J (Eq.refl (1 : Int)) (J (by decide : 1 < 2) (J T1 (J (Eq.refl (0 : Int)) (J (by decide : 0 < 4) (J c1 (J T1 (J (Eq.refl (1 : Int)) (J (by decide : 1 < 4) (J c2 (J (sAllQ_ok ({ s with count := (i64.wrap (s.count + 1)) } : Snd)) (J (by decide : ((2 : Int) ≠ 0)) (J T1 (J (sAllH_ok ({ s with tones_0 := (tQuarter s.tones_0), tones_1 := (tQuarter s.tones_1), tones_2 := (tQuarter s.tones_2), tones_3 := (tQuarter s.tones_3), count := (i64.wrap (s.count + 1)) } : Snd)) (J c3 (J c3 (J c3 (J T0 (J T0 (J T0 (J T0 (J T0 (J c3 (J T0 (J c3 (J T0 (J T0 (J T0 (J T0 (J T0 (J c3 (J T0 (J c3 (J T1 (J (Eq.refl (2 : Int)) (J (by decide : 2 < 4) (J (lit_n_n (b := 22371) c2 (by decide)) (J T1 (J (Eq.refl (3 : Int)) (J (by decide : 3 < 4) (J (lit_n_n (b := 37281) c2 (by decide)) (J T0 (J (congrArg (Value.int .i64) hm : Value.int .i64 s.manner = Value.int .i64 1) (J (Eq.refl (1 : Int)) (J (by decide : 1 < 2) (J (Eq.refl (3 : Int)) (J (by decide : 3 < 4) (J c4 trivial))))))))))))))))))))))))))))))))))))))))))))))))) (by kernel_rfl)
  · rw [if_neg (nt c1)]
    rcases bt s.irq with c2 | c2
    · rw [if_pos c2]
      rcases bt (decide ((i64.wrap (s.count + 1)) > 37281)) with c3 | c3
      · rw [if_pos c3]
        exact fn_of_x hG hM Tryd.func35 (by kernel_rfl) (by kernel_rfl) 400 [.eq 14 (.int .i64 1), .lit 1, .unroll, .yes, .lit 0, .no, .call [(1000, 1000), (1001, 1001), (1002, 1002), (1003, 1003), (1004, 1004)] [] 1005 (.tuple ⟨[]⟩) (Snd.H0 ({ s with tones_0 := (tQuarter s.tones_0), tones_1 := (tQuarter s.tones_1), tones_2 := (tQuarter s.tones_2), tones_3 := (tQuarter s.tones_3), count := (i64.wrap (s.count + 1)) } : Snd)), .no, .yes, .yes, .yes, .yes, .yes, .yes, .yes, .unroll, .yes, .lit 1, .yes, .unroll, .yes, .lit 2, .yes, .unroll, .yes, .lit 3, .yes, .unroll, .no, .eq 67 (.int .i64 1), .lit 1, .lit 3, .yes] (J (congrArg (Value.int .i64) hm : Value.int .i64 s.manner = Value.int .i64 1) (J (Eq.refl (1 : Int)) (J (by decide : 1 < 2) (J T1 (J (Eq.refl (0 : Int)) (J (by decide : 0 < 4) (J c1 (J (sAllQ_ok ({ s with count := (i64.wrap (s.count + 1)) } : Snd)) (J (by decide : ((2 : Int) ≠ 0)) (J T0 (J c2 (J c2 (J c2 (J c2 (J c2 (J c2 (J c2 (J T1 (J (Eq.refl (1 : Int)) (J (by decide : 1 < 4) (J (lit_n_n (b := 14913) c1 (by decide)) (J T1 (J (Eq.refl (2 : Int)) (J (by decide : 2 < 4) (J (lit_n_n (b := 22371) c1 (by decide)) (J T1 (J (Eq.refl (3 : Int)) (J (by decide : 3 < 4) (J (lit_n_n (b := 37281) c1 (by decide)) (J T0 (J (congrArg (Value.int .i64) hm : Value.int .i64 s.manner = Value.int .i64 1) (J (Eq.refl (1 : Int)) (J (by decide : 1 < 2) (J (Eq.refl (3 : Int)) (J (by decide : 3 < 4) (J c3 trivial)))))))))))))))))))))))))))))))))))) (by kernel_rfl)
      · rw [if_neg (nt c3)]
        exact fn_of_x hG hM Tryd.func35 (by kernel_rfl) (by kernel_rfl) 400 [.eq 14 (.int .i64 1), .lit 1, .unroll, .yes, .lit 0, .no, .call [(1000, 1000), (1001, 1001), (1002, 1002), (1003, 1003), (1004, 1004)] [] 1005 (.tuple ⟨[]⟩) (Snd.H0 ({ s with tones_0 := (tQuarter s.tones_0), tones_1 := (tQuarter s.tones_1), tones_2 := (tQuarter s.tones_2), tones_3 := (tQuarter s.tones_3), count := (i64.wrap (s.count + 1)) } : Snd)), .no, .yes, .yes, .yes, .yes, .yes, .yes, .yes, .unroll, .yes, .lit 1, .yes, .unroll, .yes, .lit 2, .yes, .unroll, .yes, .lit 3, .yes, .unroll, .no, .eq 67 (.int .i64 1), .lit 1, .lit 3, .no] (J (congrArg (Value.int .i64) hm : Value.int .i64 s.manner = Value.int .i64 1) (J (Eq.refl (1 : Int)) (J (by decide : 1 < 2) (J T1 (J (Eq.refl (0 : Int)) (J (by decide : 0 < 4) (J c1 (J (sAllQ_ok ({ s with count := (i64.wrap (s.count + 1)) } : Snd)) (J (by decide : ((2 : Int) ≠ 0)) (J T0 (J c2 (J c2 (J c2 (J c2 (J c2 (J c2 (J c2 (J T1 (J (Eq.refl (1 : Int)) (J (by decide : 1 < 4) (J (lit_n_n (b := 14913) c1 (by decide)) (J T1 (J (Eq.refl (2 : Int)) (J (by decide : 2 < 4) (J (lit_n_n (b := 22371) c1 (by decide)) (J T1 (J (Eq.refl (3 : Int)) (J (by decide : 3 < 4) (J (lit_n_n (b := 37281) c1 (by decide)) (J T0 (J (congrArg (Value.int .i64) hm : Value.int .i64 s.manner = Value.int .i64 1) (J (Eq.refl (1 : Int)) (J (by decide : 1 < 2) (J (Eq.refl (3 : Int)) (J (by decide : 3 < 4) (J c3 trivial)))))))))))))))))))))))))))))))))))) (by kernel_rfl)
    · rw [if_neg (nt c2)]
      rcases bt (decide ((i64.wrap (s.count + 1)) > 37281)) with c3 | c3
      · rw [if_pos c3]
        exact fn_of_x hG hM Tryd.func35 (by kernel_rfl) (by kernel_rfl) 400 [.eq 14 (.int .i64 1), .lit 1, .unroll, .yes, .lit 0, .no, .call [(1000, 1000), (1001, 1001), (1002, 1002), (1003, 1003), (1004, 1004)] [] 1005 (.tuple ⟨[]⟩) (Snd.H0 ({ s with tones_0 := (tQuarter s.tones_0), tones_1 := (tQuarter s.tones_1), tones_2 := (tQuarter s.tones_2), tones_3 := (tQuarter s.tones_3), count := (i64.wrap (s.count + 1)) } : Snd)), .no, .no, .no, .no, .no, .no, .no, .no, .no, .no, .no, .no, .no, .no, .no, .no, .no, .no, .no, .no, .unroll, .yes, .lit 1, .yes, .unroll, .yes, .lit 2, .yes, .unroll, .yes, .lit 3, .yes, .unroll, .no, .eq 67 (.int .i64 1), .lit 1, .lit 3, .yes] (J (congrArg (Value.int .i64) hm : Value.int .i64 s.manner = Value.int .i64 1) (J (Eq.refl (1 : Int)) (J (by decide : 1 < 2) (J T1 (J (Eq.refl (0 : Int)) (J (by decide : 0 < 4) (J c1 (J (sAllQ_ok ({ s with count := (i64.wrap (s.count + 1)) } : Snd)) (J (by decide : ((2 : Int) ≠ 0)) (J T0 (J c2 (J c2 (J c2 (J T0 (J T0 (J T0 (J T0 (J T0 (J c2 (J T0 (J c2 (J T0 (J T0 (J T0 (J T0 (J T0 (J c2 (J T0 (J c2 (J T1 (J (Eq.refl (1 : Int)) (J (by decide : 1 < 4) (J (lit_n_n (b := 14913) c1 (by decide)) (J T1 (J (Eq.refl (2 : Int)) (J (by decide : 2 < 4) (J (lit_n_n (b := 22371) c1 (by decide)) (J T1 (J (Eq.refl (3 : Int)) (J (by decide : 3 < 4) (J (lit_n_n (b := 37281) c1 (by decide)) (J T0 (J (congrArg (Value.int .i64) hm : Value.int .i64 s.manner = Value.int .i64 1) (J (Eq.refl (1 : Int)) (J (by decide : 1 < 2) (J (Eq.refl (3 : Int)) (J (by decide : 3 < 4) (J c3 trivial)))))))))))))))))))))))))))))))))))))))))))))))) (by kernel_rfl)
      · rw [if_neg (nt c3)]
        exact fn_of_x hG hM Tryd.func35 (by kernel_rfl) (by kernel_rfl) 400 [.eq 14 (.int .i64 1), .lit 1, .unroll, .yes, .lit 0, .no, .call [(1000, 1000), (1001, 1001), (1002, 1002), (1003, 1003), (1004, 1004)] [] 1005 (.tuple ⟨[]⟩) (Snd.H0 ({ s with tones_0 := (tQuarter s.tones_0), tones_1 := (tQuarter s.tones_1), tones_2 := (tQuarter s.tones_2), tones_3 := (tQuarter s.tones_3), count := (i64.wrap (s.count + 1)) } : Snd)), .no, .no, .no, .no, .no, .no, .no, .no, .no, .no, .no, .no, .no, .no, .no, .no, .no, .no, .no, .no, .unroll, .yes, .lit 1, .yes, .unroll, .yes, .lit 2, .yes, .unroll, .yes, .lit 3, .yes, .unroll, .no, .eq 67 (.int .i64 1), .lit 1, .lit 3, .no] (J (congrArg (Value.int .i64) hm : Value.int .i64 s.manner = Value.int .i64 1) (J (Eq.refl (1 : Int)) (J (by decide : 1 < 2) (J T1 (J (Eq.refl (0 : Int)) (J (by decide : 0 < 4) (J c1 (J (sAllQ_ok ({ s with count := (i64.wrap (s.count + 1)) } : Snd)) (J (by decide : ((2 : Int) ≠ 0)) (J T0 (J c2 (J c2 (J c2 (J T0 (J T0 (J T0 (J T0 (J T0 (J c2 (J T0 (J c2 (J T0 (J T0 (J T0 (J T0 (J T0 (J c2 (J T0 (J c2 (J T1 (J (Eq.refl (1 : Int)) (J (by decide : 1 < 4) (J (lit_n_n (b := 14913) c1 (by decide)) (J T1 (J (Eq.refl (2 : Int)) (J (by decide : 2 < 4) (J (lit_n_n (b := 22371) c1 (by decide)) (J T1 (J (Eq.refl (3 : Int)) (J (by decide : 3 < 4) (J (lit_n_n (b := 37281) c1 (by decide)) (J T0 (J (congrArg (Value.int .i64) hm : Value.int .i64 s.manner = Value.int .i64 1) (J (Eq.refl (1 : Int)) (J (by decide : 1 < 2) (J (Eq.refl (3 : Int)) (J (by decide : 3 < 4) (J c3 trivial)))))))))))))))))))))))))))))))))))))))))))))))) (by kernel_rfl)
theorem sTick_1_w (s : Snd) (w_s : Snd.ok s) (hm : s.manner = 1) : Snd.ok (sTick_1 s) := by
  unfold sTick_1
  rcases bt ((i64.wrap (s.count + 1)) != 7457) with c1 | c1
  · rw [if_pos c1]
    rcases bt ((i64.wrap (s.count + 1)) != 14913) with c2 | c2
    · rw [if_pos c2]
      rcases bt ((i64.wrap (s.count + 1)) != 22371) with c3 | c3
      · rw [if_pos c3]
        rcases bt ((i64.wrap (s.count + 1)) != 37281) with c4 | c4
        · rw [if_pos c4]
          rcases bt (decide ((i64.wrap (s.count + 1)) > 37281)) with c5 | c5
          · rw [if_pos c5]
            exact (⟨w_s.tones_0, w_s.tones_1, w_s.tones_2, w_s.tones_3, w_s.sample⟩ : Snd.ok ({ s with count := 0 } : Snd))
          · rw [if_neg (nt c5)]
            exact (⟨w_s.tones_0, w_s.tones_1, w_s.tones_2, w_s.tones_3, w_s.sample⟩ : Snd.ok ({ s with count := (i64.wrap (s.count + 1)) } : Snd))
        · rw [if_neg (nt c4)]
          rcases bt s.irq with c5 | c5
          · rw [if_pos c5]
            rcases bt (decide ((i64.wrap (s.count + 1)) > 37281)) with c6 | c6
            · rw [if_pos c6]
              exact (⟨(tHalf_w (tQuarter s.tones_0) (tQuarter_w s.tones_0 w_s.tones_0)), (tHalf_w (tQuarter s.tones_1) (tQuarter_w s.tones_1 w_s.tones_1)), (tHalf_w (tQuarter s.tones_2) (tQuarter_w s.tones_2 w_s.tones_2)), (tHalf_w (tQuarter s.tones_3) (tQuarter_w s.tones_3 w_s.tones_3)), w_s.sample⟩ : Snd.ok ({ tones_0 := (tHalf (tQuarter s.tones_0)), tones_1 := (tHalf (tQuarter s.tones_1)), tones_2 := (tHalf (tQuarter s.tones_2)), tones_3 := (tHalf (tQuarter s.tones_3)), sample := s.sample, count := 0, manner := s.manner, bars := s.bars, irq := true, even := s.even } : Snd))
            · rw [if_neg (nt c6)]
              exact (⟨(tHalf_w (tQuarter s.tones_0) (tQuarter_w s.tones_0 w_s.tones_0)), (tHalf_w (tQuarter s.tones_1) (tQuarter_w s.tones_1 w_s.tones_1)), (tHalf_w (tQuarter s.tones_2) (tQuarter_w s.tones_2 w_s.tones_2)), (tHalf_w (tQuarter s.tones_3) (tQuarter_w s.tones_3 w_s.tones_3)), w_s.sample⟩ : Snd.ok ({ tones_0 := (tHalf (tQuarter s.tones_0)), tones_1 := (tHalf (tQuarter s.tones_1)), tones_2 := (tHalf (tQuarter s.tones_2)), tones_3 := (tHalf (tQuarter s.tones_3)), sample := s.sample, count := (i64.wrap (s.count + 1)), manner := s.manner, bars := s.bars, irq := true, even := s.even } : Snd))
          · rw [if_neg (nt c5)]
            rcases bt (decide ((i64.wrap (s.count + 1)) > 37281)) with c6 | c6
            · rw [if_pos c6]
              exact (⟨(tHalf_w (tQuarter s.tones_0) (tQuarter_w s.tones_0 w_s.tones_0)), (tHalf_w (tQuarter s.tones_1) (tQuarter_w s.tones_1 w_s.tones_1)), (tHalf_w (tQuarter s.tones_2) (tQuarter_w s.tones_2 w_s.tones_2)), (tHalf_w (tQuarter s.tones_3) (tQuarter_w s.tones_3 w_s.tones_3)), w_s.sample⟩ : Snd.ok ({ tones_0 := (tHalf (tQuarter s.tones_0)), tones_1 := (tHalf (tQuarter s.tones_1)), tones_2 := (tHalf (tQuarter s.tones_2)), tones_3 := (tHalf (tQuarter s.tones_3)), sample := s.sample, count := 0, manner := s.manner, bars := s.bars, irq := false, even := s.even } : Snd))
            · rw [if_neg (nt c6)]
              exact (⟨(tHalf_w (tQuarter s.tones_0) (tQuarter_w s.tones_0 w_s.tones_0)), (tHalf_w (tQuarter s.tones_1) (tQuarter_w s.tones_1 w_s.tones_1)), (tHalf_w (tQuarter s.tones_2) (tQuarter_w s.tones_2 w_s.tones_2)), (tHalf_w (tQuarter s.tones_3) (tQuarter_w s.tones_3 w_s.tones_3)), w_s.sample⟩ : Snd.ok ({ tones_0 := (tHalf (tQuarter s.tones_0)), tones_1 := (tHalf (tQuarter s.tones_1)), tones_2 := (tHalf (tQuarter s.tones_2)), tones_3 := (tHalf (tQuarter s.tones_3)), sample := s.sample, count := (i64.wrap (s.count + 1)), manner := s.manner, bars := s.bars, irq := false, even := s.even } : Snd))
      · rw [if_neg (nt c3)]
        rcases bt s.irq with c4 | c4
        · rw [if_pos c4]
          rcases bt (decide ((i64.wrap (s.count + 1)) > 37281)) with c5 | c5
          · rw [if_pos c5]
            exact (⟨(tQuarter_w s.tones_0 w_s.tones_0), (tQuarter_w s.tones_1 w_s.tones_1), (tQuarter_w s.tones_2 w_s.tones_2), (tQuarter_w s.tones_3 w_s.tones_3), w_s.sample⟩ : Snd.ok ({ tones_0 := (tQuarter s.tones_0), tones_1 := (tQuarter s.tones_1), tones_2 := (tQuarter s.tones_2), tones_3 := (tQuarter s.tones_3), sample := s.sample, count := 0, manner := s.manner, bars := s.bars, irq := true, even := s.even } : Snd))
          · rw [if_neg (nt c5)]
            exact (⟨(tQuarter_w s.tones_0 w_s.tones_0), (tQuarter_w s.tones_1 w_s.tones_1), (tQuarter_w s.tones_2 w_s.tones_2), (tQuarter_w s.tones_3 w_s.tones_3), w_s.sample⟩ : Snd.ok ({ tones_0 := (tQuarter s.tones_0), tones_1 := (tQuarter s.tones_1), tones_2 := (tQuarter s.tones_2), tones_3 := (tQuarter s.tones_3), sample := s.sample, count := (i64.wrap (s.count + 1)), manner := s.manner, bars := s.bars, irq := true, even := s.even } : Snd))
        · rw [if_neg (nt c4)]
          rcases bt (decide ((i64.wrap (s.count + 1)) > 37281)) with c5 | c5
          · rw [if_pos c5]
            exact (⟨(tQuarter_w s.tones_0 w_s.tones_0), (tQuarter_w s.tones_1 w_s.tones_1), (tQuarter_w s.tones_2 w_s.tones_2), (tQuarter_w s.tones_3 w_s.tones_3), w_s.sample⟩ : Snd.ok ({ tones_0 := (tQuarter s.tones_0), tones_1 := (tQuarter s.tones_1), tones_2 := (tQuarter s.tones_2), tones_3 := (tQuarter s.tones_3), sample := s.sample, count := 0, manner := s.manner, bars := s.bars, irq := false, even := s.even } : Snd))
          · rw [if_neg (nt c5)]
            exact (⟨(tQuarter_w s.tones_0 w_s.tones_0), (tQuarter_w s.tones_1 w_s.tones_1), (tQuarter_w s.tones_2 w_s.tones_2), (tQuarter_w s.tones_3 w_s.tones_3), w_s.sample⟩ : Snd.ok ({ tones_0 := (tQuarter s.tones_0), tones_1 := (tQuarter s.tones_1), tones_2 := (tQuarter s.tones_2), tones_3 := (tQuarter s.tones_3), sample := s.sample, count := (i64.wrap (s.count + 1)), manner := s.manner, bars := s.bars, irq := false, even := s.even } : Snd))
    · rw [if_neg (nt c2)]
      rcases bt s.irq with c3 | c3
      · rw [if_pos c3]
        rcases bt (decide ((i64.wrap (s.count + 1)) > 37281)) with c4 | c4
        · rw [if_pos c4]
          exact (⟨(tHalf_w (tQuarter s.tones_0) (tQuarter_w s.tones_0 w_s.tones_0)), (tHalf_w (tQuarter s.tones_1) (tQuarter_w s.tones_1 w_s.tones_1)), (tHalf_w (tQuarter s.tones_2) (tQuarter_w s.tones_2 w_s.tones_2)), (tHalf_w (tQuarter s.tones_3) (tQuarter_w s.tones_3 w_s.tones_3)), w_s.sample⟩ : Snd.ok ({ tones_0 := (tHalf (tQuarter s.tones_0)), tones_1 := (tHalf (tQuarter s.tones_1)), tones_2 := (tHalf (tQuarter s.tones_2)), tones_3 := (tHalf (tQuarter s.tones_3)), sample := s.sample, count := 0, manner := s.manner, bars := s.bars, irq := true, even := s.even } : Snd))
        · rw [if_neg (nt c4)]
          exact (⟨(tHalf_w (tQuarter s.tones_0) (tQuarter_w s.tones_0 w_s.tones_0)), (tHalf_w (tQuarter s.tones_1) (tQuarter_w s.tones_1 w_s.tones_1)), (tHalf_w (tQuarter s.tones_2) (tQuarter_w s.tones_2 w_s.tones_2)), (tHalf_w (tQuarter s.tones_3) (tQuarter_w s.tones_3 w_s.tones_3)), w_s.sample⟩ : Snd.ok ({ tones_0 := (tHalf (tQuarter s.tones_0)), tones_1 := (tHalf (tQuarter s.tones_1)), tones_2 := (tHalf (tQuarter s.tones_2)), tones_3 := (tHalf (tQuarter s.tones_3)), sample := s.sample, count := (i64.wrap (s.count + 1)), manner := s.manner, bars := s.bars, irq := true, even := s.even } : Snd))
      · rw [if_neg (nt c3)]
        rcases bt (decide ((i64.wrap (s.count + 1)) > 37281)) with c4 | c4
        · rw [if_pos c4]
          exact (⟨(tHalf_w (tQuarter s.tones_0) (tQuarter_w s.tones_0 w_s.tones_0)), (tHalf_w (tQuarter s.tones_1) (tQuarter_w s.tones_1 w_s.tones_1)), (tHalf_w (tQuarter s.tones_2) (tQuarter_w s.tones_2 w_s.tones_2)), (tHalf_w (tQuarter s.tones_3) (tQuarter_w s.tones_3 w_s.tones_3)), w_s.sample⟩ : Snd.ok ({ tones_0 := (tHalf (tQuarter s.tones_0)), tones_1 := (tHalf (tQuarter s.tones_1)), tones_2 := (tHalf (tQuarter s.tones_2)), tones_3 := (tHalf (tQuarter s.tones_3)), sample := s.sample, count := 0, manner := s.manner, bars := s.bars, irq := false, even := s.even } : Snd))
        · rw [if_neg (nt c4)]
          exact (⟨(tHalf_w (tQuarter s.tones_0) (tQuarter_w s.tones_0 w_s.tones_0)), (tHalf_w (tQuarter s.tones_1) (tQuarter_w s.tones_1 w_s.tones_1)), (tHalf_w (tQuarter s.tones_2) (tQuarter_w s.tones_2 w_s.tones_2)), (tHalf_w (tQuarter s.tones_3) (tQuarter_w s.tones_3 w_s.tones_3)), w_s.sample⟩ : Snd.ok ({ tones_0 := (tHalf (tQuarter s.tones_0)), tones_1 := (tHalf (tQuarter s.tones_1)), tones_2 := (tHalf (tQuarter s.tones_2)), tones_3 := (tHalf (tQuarter s.tones_3)), sample := s.sample, count := (i64.wrap (s.count + 1)), manner := s.manner, bars := s.bars, irq := false, even := s.even } : Snd))
  · rw [if_neg (nt c1)]
    rcases bt s.irq with c2 | c2
    · rw [if_pos c2]
      rcases bt (decide ((i64.wrap (s.count + 1)) > 37281)) with c3 | c3
      · rw [if_pos c3]
        exact (⟨(tQuarter_w s.tones_0 w_s.tones_0), (tQuarter_w s.tones_1 w_s.tones_1), (tQuarter_w s.tones_2 w_s.tones_2), (tQuarter_w s.tones_3 w_s.tones_3), w_s.sample⟩ : Snd.ok ({ tones_0 := (tQuarter s.tones_0), tones_1 := (tQuarter s.tones_1), tones_2 := (tQuarter s.tones_2), tones_3 := (tQuarter s.tones_3), sample := s.sample, count := 0, manner := s.manner, bars := s.bars, irq := true, even := s.even } : Snd))
      · rw [if_neg (nt c3)]
        exact (⟨(tQuarter_w s.tones_0 w_s.tones_0), (tQuarter_w s.tones_1 w_s.tones_1), (tQuarter_w s.tones_2 w_s.tones_2), (tQuarter_w s.tones_3 w_s.tones_3), w_s.sample⟩ : Snd.ok ({ tones_0 := (tQuarter s.tones_0), tones_1 := (tQuarter s.tones_1), tones_2 := (tQuarter s.tones_2), tones_3 := (tQuarter s.tones_3), sample := s.sample, count := (i64.wrap (s.count + 1)), manner := s.manner, bars := s.bars, irq := true, even := s.even } : Snd))
    · rw [if_neg (nt c2)]
      rcases bt (decide ((i64.wrap (s.count + 1)) > 37281)) with c3 | c3
      · rw [if_pos c3]
        exact (⟨(tQuarter_w s.tones_0 w_s.tones_0), (tQuarter_w s.tones_1 w_s.tones_1), (tQuarter_w s.tones_2 w_s.tones_2), (tQuarter_w s.tones_3 w_s.tones_3), w_s.sample⟩ : Snd.ok ({ tones_0 := (tQuarter s.tones_0), tones_1 := (tQuarter s.tones_1), tones_2 := (tQuarter s.tones_2), tones_3 := (tQuarter s.tones_3), sample := s.sample, count := 0, manner := s.manner, bars := s.bars, irq := false, even := s.even } : Snd))
      · rw [if_neg (nt c3)]
        exact (⟨(tQuarter_w s.tones_0 w_s.tones_0), (tQuarter_w s.tones_1 w_s.tones_1), (tQuarter_w s.tones_2 w_s.tones_2), (tQuarter_w s.tones_3 w_s.tones_3), w_s.sample⟩ : Snd.ok ({ tones_0 := (tQuarter s.tones_0), tones_1 := (tQuarter s.tones_1), tones_2 := (tQuarter s.tones_2), tones_3 := (tQuarter s.tones_3), sample := s.sample, count := (i64.wrap (s.count + 1)), manner := s.manner, bars := s.bars, irq := false, even := s.even } : Snd))
end Go.Proofs.YtgpcfjokmonlgaaDoor
namespace Go.Proofs.YtgpcfjokmonlgaaDoor.VX
open Go
set_option linter.unusedVariables false
theorem Own.wid {μ : Mu} {h h1 : HF} (hs : ∀ i B, h i = some B → h1 i = some B) {b : Nat} (o : Own μ h b) : Own μ h1 b := by
  obtain ⟨i, B, e, hro, hb⟩ := o
  exact ⟨i, B, hs i B e, hro, hb⟩
theorem Keeps.wid {μ μ' : Mu} {h h1 h' : HF} {w w' : World} (k : Keeps μ h w μ' h' w') (hs : ∀ i B, h i = some B → h1 i = some B) : Keeps μ h1 w μ' h' w' :=
  { k with
    same := fun b hb ho => k.same b hb fun o => ho (o.wid hs)
    old := fun i B b e m hb => let ⟨i0, B0, e0, m0, r0⟩ := k.old i B b e m hb; ⟨i0, B0, hs i0 B0 e0, m0, r0⟩
    nfz := fun b cs h => (k.nfz b cs h).imp id (Or.imp (Own.wid hs) id) }
theorem FnSpec.wid {P : Program} {g : FuncId} {A : List Value} {H : Heap} {n0 : Nat} {v : Value} {H' : Heap} (f : FnSpec P g n0 A H v H') (H1 : Heap) (hs : subP (lk H1) H) : FnSpec P g n0 A H1 v H' :=
  ⟨f.enters, fun μ w rargs hg hn ha hr => (f.runs μ w rargs hg hn ha (hr.sub (subP_spec hs))).mono fun _ _ ⟨μ', rv, a, b, c, d, k⟩ => ⟨μ', rv, a, b, c, d, k.wid (subP_spec hs)⟩⟩
end Go.Proofs.YtgpcfjokmonlgaaDoor.VX
namespace Go.Proofs.YtgpcfjokmonlgaaDoor
open Go VX
open Go.IntKind (i64 u8 u16)
set_option linter.unusedVariables false
set_option linter.unusedSimpArgs false
set_option maxRecDepth 100000
def sPut_lo (s : Snd) (at_ : Int) (b : Int) : Unit :=
  ()
theorem sPut_lo_ok (s : Snd) (at_ : Int) (b : Int) (h1 : (decide (at_ < 16384)) = true) : FnSpec Tryd.prog 12 1005 [.pointer (some ⟨1000, 0, none⟩), .int .u16 at_, .int .u8 b] (Snd.H0 s) (.tuple ⟨[]⟩) (Snd.H0 s) := by
  exact fn_of_x hG hM Tryd.func12 (by kernel_rfl) (by kernel_rfl) 400 [.no, .no, .no, .yes, .yes, .yes, .yes] (J T0 (J T0 (J T0 (J h1 (J h1 (J h1 (J T1 trivial))))))) (by kernel_rfl)
def sPut_hi (s : Snd) (at_ : Int) (b : Int) : Unit :=
  ()
theorem sPut_hi_ok (s : Snd) (at_ : Int) (b : Int) (h1 : (decide (at_ < 16384)) = false) (h2 : (decide (at_ > 16407)) = true) : FnSpec Tryd.prog 12 1005 [.pointer (some ⟨1000, 0, none⟩), .int .u16 at_, .int .u8 b] (Snd.H0 s) (.tuple ⟨[]⟩) (Snd.H0 s) := by
  exact fn_of_x hG hM Tryd.func12 (by kernel_rfl) (by kernel_rfl) 400 [.no, .no, .no, .no, .no, .no, .yes] (J T0 (J T0 (J T0 (J h1 (J h1 (J h1 (J h2 trivial))))))) (by kernel_rfl)
def sPuts : List (Snd → Int → Snd) := [sPut_0, sPut_1, sPut_2, sPut_3, sPut_4, sPut_5, sPut_6, sPut_7, sPut_8, sPut_9, sPut_10, sPut_11, sPut_12, sPut_13, sPut_14, sPut_15, sPut_16, sPut_17, sPut_18, sPut_19, (fun s _ => s), sPut_21, (fun s _ => s), sPut_23]
def sPut (s : Snd) (at_ b : Int) : Snd := if 16384 ≤ at_ ∧ at_ ≤ 16407 then (sPuts.getD (at_ - 16384).toNat fun s _ => s) s b else s
theorem sPut_ok (s : Snd) (at_ b : Int) (w_s : Snd.ok s) (w_at : rng 65536 at_) (w_b : rng 256 b) : FnSpec Tryd.prog 12 1005 [.pointer (some ⟨1000, 0, none⟩), .int .u16 at_, .int .u8 b] ([tb0, tb4] ++ (Snd.H0 s)) (.tuple ⟨[]⟩) (Snd.H0 (sPut s at_ b)) := by
  by_cases h1 : at_ < 16384
  · have e : sPut s at_ b = s := by unfold sPut; rw [if_neg (by omega)]
    rw [e]
    exact (sPut_lo_ok s at_ b (by simpa using h1)).wid ([tb0, tb4] ++ (Snd.H0 s)) ⟨rfl, rfl, rfl, rfl, rfl, trivial⟩
  by_cases h2 : at_ > 16407
  · have e : sPut s at_ b = s := by unfold sPut; rw [if_neg (by omega)]
    rw [e]
    exact (sPut_hi_ok s at_ b (by simpa using h1) (by simpa using h2)).wid ([tb0, tb4] ++ (Snd.H0 s)) ⟨rfl, rfl, rfl, rfl, rfl, trivial⟩
  obtain h | h | h | h | h | h | h | h | h | h | h | h | h | h | h | h | h | h | h | h | h | h | h | h := (show at_ = 16384 ∨ at_ = 16385 ∨ at_ = 16386 ∨ at_ = 16387 ∨ at_ = 16388 ∨ at_ = 16389 ∨ at_ = 16390 ∨ at_ = 16391 ∨ at_ = 16392 ∨ at_ = 16393 ∨ at_ = 16394 ∨ at_ = 16395 ∨ at_ = 16396 ∨ at_ = 16397 ∨ at_ = 16398 ∨ at_ = 16399 ∨ at_ = 16400 ∨ at_ = 16401 ∨ at_ = 16402 ∨ at_ = 16403 ∨ at_ = 16404 ∨ at_ = 16405 ∨ at_ = 16406 ∨ at_ = 16407 by omega)
  · subst h; exact (sPut_0_ok s b ).wid ([tb0, tb4] ++ (Snd.H0 s)) ⟨rfl, rfl, rfl, rfl, rfl, trivial⟩
  · subst h; exact (sPut_1_ok s b ).wid ([tb0, tb4] ++ (Snd.H0 s)) ⟨rfl, rfl, rfl, rfl, rfl, trivial⟩
  · subst h; exact (sPut_2_ok s b ).wid ([tb0, tb4] ++ (Snd.H0 s)) ⟨rfl, rfl, rfl, rfl, rfl, rfl, trivial⟩
  · subst h; exact (sPut_3_ok s b w_b).wid ([tb0, tb4] ++ (Snd.H0 s)) ⟨rfl, rfl, rfl, rfl, rfl, rfl, trivial⟩
  · subst h; exact (sPut_4_ok s b ).wid ([tb0, tb4] ++ (Snd.H0 s)) ⟨rfl, rfl, rfl, rfl, rfl, trivial⟩
  · subst h; exact (sPut_5_ok s b ).wid ([tb0, tb4] ++ (Snd.H0 s)) ⟨rfl, rfl, rfl, rfl, rfl, trivial⟩
  · subst h; exact (sPut_6_ok s b ).wid ([tb0, tb4] ++ (Snd.H0 s)) ⟨rfl, rfl, rfl, rfl, rfl, rfl, trivial⟩
  · subst h; exact (sPut_7_ok s b w_b).wid ([tb0, tb4] ++ (Snd.H0 s)) ⟨rfl, rfl, rfl, rfl, rfl, rfl, trivial⟩
  · subst h; exact (sPut_8_ok s b ).wid ([tb0, tb4] ++ (Snd.H0 s)) ⟨rfl, rfl, rfl, rfl, rfl, trivial⟩
  · subst h; exact (sPut_9_ok s b ).wid ([tb0, tb4] ++ (Snd.H0 s)) ⟨rfl, rfl, rfl, rfl, rfl, trivial⟩
  · subst h; exact (sPut_10_ok s b ).wid ([tb0, tb4] ++ (Snd.H0 s)) ⟨rfl, rfl, rfl, rfl, rfl, rfl, trivial⟩
  · subst h; exact (sPut_11_ok s b w_b).wid ([tb0, tb4] ++ (Snd.H0 s)) ⟨rfl, rfl, rfl, rfl, rfl, rfl, trivial⟩
  · subst h; exact (sPut_12_ok s b ).wid ([tb0, tb4] ++ (Snd.H0 s)) ⟨rfl, rfl, rfl, rfl, rfl, trivial⟩
  · subst h; exact (sPut_13_ok s b ).wid ([tb0, tb4] ++ (Snd.H0 s)) ⟨rfl, rfl, rfl, rfl, rfl, trivial⟩
  · subst h; exact (sPut_14_ok s b ).wid ([tb0, tb4] ++ (Snd.H0 s)) ⟨rfl, rfl, rfl, rfl, rfl, rfl, trivial⟩
  · subst h; exact (sPut_15_ok s b w_b).wid ([tb0, tb4] ++ (Snd.H0 s)) ⟨rfl, rfl, rfl, rfl, rfl, rfl, trivial⟩
  · subst h; exact (sPut_16_ok s b ).wid ([tb0, tb4] ++ (Snd.H0 s)) ⟨rfl, rfl, rfl, rfl, rfl, trivial⟩
  · subst h; exact (sPut_17_ok s b ).wid ([tb0, tb4] ++ (Snd.H0 s)) ⟨rfl, rfl, rfl, rfl, rfl, trivial⟩
  · subst h; exact (sPut_18_ok s b ).wid ([tb0, tb4] ++ (Snd.H0 s)) ⟨rfl, rfl, rfl, rfl, rfl, trivial⟩
  · subst h; exact (sPut_19_ok s b ).wid ([tb0, tb4] ++ (Snd.H0 s)) ⟨rfl, rfl, rfl, rfl, rfl, trivial⟩
  · subst h; exact (sPut_20_ok s b ).wid ([tb0, tb4] ++ (Snd.H0 s)) ⟨rfl, rfl, rfl, rfl, rfl, trivial⟩
  · subst h; exact (sPut_21_ok s b ).wid ([tb0, tb4] ++ (Snd.H0 s)) ⟨rfl, rfl, rfl, rfl, rfl, trivial⟩
  · subst h; exact (sPut_22_ok s b ).wid ([tb0, tb4] ++ (Snd.H0 s)) ⟨rfl, rfl, rfl, rfl, rfl, trivial⟩
  · subst h; exact (sPut_23_ok s b ).wid ([tb0, tb4] ++ (Snd.H0 s)) ⟨rfl, rfl, rfl, rfl, rfl, trivial⟩
theorem sPut_w (s : Snd) (at_ b : Int) (w_s : Snd.ok s) (w_at : rng 65536 at_) (w_b : rng 256 b) : Snd.ok (sPut s at_ b) := by
  unfold sPut
  split
  · rename_i h
    obtain h | h | h | h | h | h | h | h | h | h | h | h | h | h | h | h | h | h | h | h | h | h | h | h := (show at_ = 16384 ∨ at_ = 16385 ∨ at_ = 16386 ∨ at_ = 16387 ∨ at_ = 16388 ∨ at_ = 16389 ∨ at_ = 16390 ∨ at_ = 16391 ∨ at_ = 16392 ∨ at_ = 16393 ∨ at_ = 16394 ∨ at_ = 16395 ∨ at_ = 16396 ∨ at_ = 16397 ∨ at_ = 16398 ∨ at_ = 16399 ∨ at_ = 16400 ∨ at_ = 16401 ∨ at_ = 16402 ∨ at_ = 16403 ∨ at_ = 16404 ∨ at_ = 16405 ∨ at_ = 16406 ∨ at_ = 16407 by omega)
    · subst h; exact sPut_0_w s b w_s w_b
    · subst h; exact sPut_1_w s b w_s w_b
    · subst h; exact sPut_2_w s b w_s w_b
    · subst h; exact sPut_3_w s b w_s w_b
    · subst h; exact sPut_4_w s b w_s w_b
    · subst h; exact sPut_5_w s b w_s w_b
    · subst h; exact sPut_6_w s b w_s w_b
    · subst h; exact sPut_7_w s b w_s w_b
    · subst h; exact sPut_8_w s b w_s w_b
    · subst h; exact sPut_9_w s b w_s w_b
    · subst h; exact sPut_10_w s b w_s w_b
    · subst h; exact sPut_11_w s b w_s w_b
    · subst h; exact sPut_12_w s b w_s w_b
    · subst h; exact sPut_13_w s b w_s w_b
    · subst h; exact sPut_14_w s b w_s w_b
    · subst h; exact sPut_15_w s b w_s w_b
    · subst h; exact sPut_16_w s b w_s w_b
    · subst h; exact sPut_17_w s b w_s w_b
    · subst h; exact sPut_18_w s b w_s w_b
    · subst h; exact sPut_19_w s b w_s w_b
    · subst h; exact w_s
    · subst h; exact sPut_21_w s b w_s w_b
    · subst h; exact w_s
    · subst h; exact sPut_23_w s b w_s w_b
  · exact w_s
def Man (s : Snd) : Prop := s.manner = 0 ∨ s.manner = 1
def sTick (s : Snd) : Snd := if s.manner = 1 then sTick_1 s else sTick_0 s
theorem sTick_ok (s : Snd) (hm : Man s) : FnSpec Tryd.prog 35 1005 [.pointer (some ⟨1000, 0, none⟩)] ([tb1] ++ (Snd.H0 s)) (.tuple ⟨[]⟩) (Snd.H0 (sTick s)) := by
  unfold sTick
  rcases hm with hm | hm
  · rw [if_neg (by omega)]; exact sTick_0_ok s hm
  · rw [if_pos hm]; exact sTick_1_ok s hm
theorem sTick_w (s : Snd) (w_s : Snd.ok s) (hm : Man s) : Snd.ok (sTick s) := by
  unfold sTick
  rcases hm with hm | hm
  · rw [if_neg (by omega)]; exact sTick_0_w s w_s hm
  · rw [if_pos hm]; exact sTick_1_w s w_s hm
def bitsF : List Bool → Int → Int → Int
  | [], _, a => a
  | b :: l, k, a => bitsF l (k + 1) (if b then bOr .u8 a (bShl .u8 1 k) else a)
def getF (l : List Bool) : Int := bitsF l 0 0
theorem getF_eq (b0 b1 b2 b3 b4 b5 b6 : Bool) : getF [b0, b1, b2, b3, b4, false, b5, b6] =
    (if b0 then 1 else 0) + (if b1 then 2 else 0) + (if b2 then 4 else 0) + (if b3 then 8 else 0) + (if b4 then 16 else 0) + (if b5 then 64 else 0) + (if b6 then 128 else 0) := by
  revert b0 b1 b2 b3 b4 b5 b6; decide +kernel
def sLives (s : Snd) : List Bool := [tLive s.tones_0, tLive s.tones_1, tLive s.tones_2, tLive s.tones_3, decide (s.sample.left > 0), false, s.irq, s.sample.irq]
def sGet (s : Snd) : Snd × Int := ({ s with irq := false }, getF (sLives s))
theorem sGet_loop (s : Snd) : ∀ (k : Nat) (a : Int), k ≤ 8 → LoopR (sGet_L1 s) (((8 - k : Nat) : Int), a) (8, bitsF ((sLives s).drop (8 - k)) ((8 - k : Nat) : Int) a)
  | 0, a, _ => .last (.p3 (xd := (8, a)) rfl)
  | k + 1, a, hk => by
    have hd : (sLives s).drop (8 - (k + 1)) = (sLives s).getD (8 - (k + 1)) false :: (sLives s).drop (8 - k) := by
      have hl : 8 - (k + 1) < (sLives s).length := by show _ < 8; omega
      rw [List.drop_eq_getElem_cons hl, show 8 - (k + 1) + 1 = 8 - k by omega]
      congr 1
      rw [List.getD_eq_getElem?_getD, List.getElem?_eq_getElem hl]; rfl
    have e : i64.wrap (((8 - (k + 1) : Nat) : Int) + 1) = ((8 - k : Nat) : Int) := by rw [IntKind.wrap_i64]; omega
    have hn : (Int.toNat ((8 - (k + 1) : Nat) : Int)) = 8 - (k + 1) := by omega
    have c1 : (decide (((8 - (k + 1) : Nat) : Int) < 8)) = true := by simp; omega
    rw [hd]
    simp only [bitsF]
    rw [show (((8 - (k + 1) : Nat) : Int) + 1) = ((8 - k : Nat) : Int) by omega]
    cases hb : (sLives s).getD (8 - (k + 1)) false with
    | true =>
      have st := sGet_L1.p1 (s := s) (xd := (((8 - (k + 1) : Nat) : Int), a)) c1 (by simp) (by simp only [hn]; exact hb)
      simp only [e] at st
      exact .more st (sGet_loop s k _ (by omega))
    | false =>
      have st := sGet_L1.p2 (s := s) (xd := (((8 - (k + 1) : Nat) : Int), a)) c1 (by simp) (by simp only [hn]; exact hb)
      simp only [e] at st
      exact .more st (sGet_loop s k _ (by omega))
theorem sGet_ok (s : Snd) : FnSpec Tryd.prog 14 1005 [.pointer (some ⟨1000, 0, none⟩)] (Snd.H0 s) (.int .u8 ((sGet s).2)) (Snd.H0 ((sGet s).1)) := sGet_p1 s _ (sGet_loop s 8 0 (by decide))
theorem sGet_w (s : Snd) (w_s : Snd.ok s) : Snd.ok (sGet s).1 := ⟨w_s.tones_0, w_s.tones_1, w_s.tones_2, w_s.tones_3, w_s.sample⟩
end Go.Proofs.YtgpcfjokmonlgaaDoor
namespace Go.Proofs.YtgpcfjokmonlgaaDoor
open Go VX
set_option linter.unusedVariables false
set_option linter.unusedSimpArgs false
set_option maxRecDepth 100000
def sClock (s : Snd) : Snd :=
  if (sTick s).even = true then
    (mClock ({ (sTick s) with tones_0 := (tClock ((sTick s).tones_0)), tones_1 := (tClock ((sTick s).tones_1)), tones_2 := (tClock ((sTick s).tones_2)), tones_3 := (tClock ((sTick s).tones_3)), even := (!((sTick s).even)) } : Snd))
  else
    (mClock ({ (sTick s) with tones_2 := (tClock ((sTick s).tones_2)), tones_3 := (tClock ((sTick s).tones_3)), even := (!((sTick s).even)) } : Snd))
theorem sClock_ok (s : Snd) (hm : Man s) : FnSpec Tryd.prog 15 1005 [.pointer (some ⟨1000, 0, none⟩)] ([tb1, tb2] ++ (Snd.H0 s)) (.tuple ⟨[]⟩) (Snd.H0 (sClock s)) := by
  unfold sClock
  rcases bt ((sTick s).even) with c1 | c1
  · rw [if_pos c1]
    exact fn_of_x hG hM Tryd.func15 (by kernel_rfl) (by kernel_rfl) 400 [.no, .call [(1, 1), (1000, 1000), (1001, 1001), (1002, 1002), (1003, 1003), (1004, 1004)] [] 1005 (.tuple ⟨[]⟩) (Snd.H0 (sTick s)), .lit 2, .call [(1003, 1000)] [] 1001 (.tuple ⟨[]⟩) [(1000, Tone.blk (tClock ((sTick s).tones_2)))], .lit 3, .call [(1004, 1000)] [] 1001 (.tuple ⟨[]⟩) [(1000, Tone.blk (tClock ((sTick s).tones_3)))], .yes, .lit 0, .call [(1001, 1000)] [] 1001 (.tuple ⟨[]⟩) [(1000, Tone.blk (tClock ((sTick s).tones_0)))], .lit 1, .call [(1002, 1000)] [] 1001 (.tuple ⟨[]⟩) [(1000, Tone.blk (tClock ((sTick s).tones_1)))], .call [(2, 2), (1000, 1000), (1001, 1001), (1002, 1002), (1003, 1003), (1004, 1004)] [] 1005 (.tuple ⟨[]⟩) (Snd.H0 (mClock ({ (sTick s) with tones_0 := (tClock ((sTick s).tones_0)), tones_1 := (tClock ((sTick s).tones_1)), tones_2 := (tClock ((sTick s).tones_2)), tones_3 := (tClock ((sTick s).tones_3)), even := (!((sTick s).even)) } : Snd)))] (J T0 (J (sTick_ok s hm) (J (Eq.refl (2 : Int)) (J (by decide : 2 < 4) (J (tClock_ok ((sTick s).tones_2)) (J (Eq.refl (3 : Int)) (J (by decide : 3 < 4) (J (tClock_ok ((sTick s).tones_3)) (J c1 (J (Eq.refl (0 : Int)) (J (by decide : 0 < 4) (J (tClock_ok ((sTick s).tones_0)) (J (Eq.refl (1 : Int)) (J (by decide : 1 < 4) (J (tClock_ok ((sTick s).tones_1)) (J (mClock_ok ({ (sTick s) with tones_0 := (tClock ((sTick s).tones_0)), tones_1 := (tClock ((sTick s).tones_1)), tones_2 := (tClock ((sTick s).tones_2)), tones_3 := (tClock ((sTick s).tones_3)), even := (!((sTick s).even)) } : Snd)) trivial)))))))))))))))) (by kernel_rfl)
  · rw [if_neg (nt c1)]
    exact fn_of_x hG hM Tryd.func15 (by kernel_rfl) (by kernel_rfl) 400 [.no, .call [(1, 1), (1000, 1000), (1001, 1001), (1002, 1002), (1003, 1003), (1004, 1004)] [] 1005 (.tuple ⟨[]⟩) (Snd.H0 (sTick s)), .lit 2, .call [(1003, 1000)] [] 1001 (.tuple ⟨[]⟩) [(1000, Tone.blk (tClock ((sTick s).tones_2)))], .lit 3, .call [(1004, 1000)] [] 1001 (.tuple ⟨[]⟩) [(1000, Tone.blk (tClock ((sTick s).tones_3)))], .no, .call [(2, 2), (1000, 1000), (1001, 1001), (1002, 1002), (1003, 1003), (1004, 1004)] [] 1005 (.tuple ⟨[]⟩) (Snd.H0 (mClock ({ (sTick s) with tones_2 := (tClock ((sTick s).tones_2)), tones_3 := (tClock ((sTick s).tones_3)), even := (!((sTick s).even)) } : Snd)))] (J T0 (J (sTick_ok s hm) (J (Eq.refl (2 : Int)) (J (by decide : 2 < 4) (J (tClock_ok ((sTick s).tones_2)) (J (Eq.refl (3 : Int)) (J (by decide : 3 < 4) (J (tClock_ok ((sTick s).tones_3)) (J c1 (J (mClock_ok ({ (sTick s) with tones_2 := (tClock ((sTick s).tones_2)), tones_3 := (tClock ((sTick s).tones_3)), even := (!((sTick s).even)) } : Snd)) trivial)))))))))) (by kernel_rfl)
theorem sClock_w (s : Snd) (w_s : Snd.ok s) (hm : Man s) : Snd.ok (sClock s) := by
  unfold sClock
  rcases bt ((sTick s).even) with c1 | c1
  · rw [if_pos c1]
    exact (mClock_w ({ (sTick s) with tones_0 := (tClock ((sTick s).tones_0)), tones_1 := (tClock ((sTick s).tones_1)), tones_2 := (tClock ((sTick s).tones_2)), tones_3 := (tClock ((sTick s).tones_3)), even := (!((sTick s).even)) } : Snd) (⟨(tClock_w ((sTick s).tones_0) ((sTick_w s w_s hm).tones_0)), (tClock_w ((sTick s).tones_1) ((sTick_w s w_s hm).tones_1)), (tClock_w ((sTick s).tones_2) ((sTick_w s w_s hm).tones_2)), (tClock_w ((sTick s).tones_3) ((sTick_w s w_s hm).tones_3)), (sTick_w s w_s hm).sample⟩ : Snd.ok ({ (sTick s) with tones_0 := (tClock ((sTick s).tones_0)), tones_1 := (tClock ((sTick s).tones_1)), tones_2 := (tClock ((sTick s).tones_2)), tones_3 := (tClock ((sTick s).tones_3)), even := (!((sTick s).even)) } : Snd)))
  · rw [if_neg (nt c1)]
    exact (mClock_w ({ (sTick s) with tones_2 := (tClock ((sTick s).tones_2)), tones_3 := (tClock ((sTick s).tones_3)), even := (!((sTick s).even)) } : Snd) (⟨(sTick_w s w_s hm).tones_0, (sTick_w s w_s hm).tones_1, (tClock_w ((sTick s).tones_2) ((sTick_w s w_s hm).tones_2)), (tClock_w ((sTick s).tones_3) ((sTick_w s w_s hm).tones_3)), (sTick_w s w_s hm).sample⟩ : Snd.ok ({ (sTick s) with tones_2 := (tClock ((sTick s).tones_2)), tones_3 := (tClock ((sTick s).tones_3)), even := (!((sTick s).even)) } : Snd)))
def sCopy (s : Snd) : Snd :=
  ({ s with tones_0 := (tCopy s.tones_0), tones_1 := (tCopy s.tones_1), tones_2 := (tCopy s.tones_2), tones_3 := (tCopy s.tones_3), sample := ({ s.sample with reg := (upd (upd (upd (upd (fun _ => 0) 0 (s.sample.reg 0)) 1 (s.sample.reg 1)) 2 (s.sample.reg 2)) 3 (s.sample.reg 3)) } : Smp) } : Snd)
theorem sCopy_ok (s : Snd) : FnSpec Tryd.prog 27 1005 [.pointer (some ⟨1000, 0, none⟩)] (Snd.H0 s) (.pointer (some ⟨1005, 0, none⟩)) ((Snd.H0 s) ++ (Snd.H 1005 1006 1007 1008 1009 (sCopy s))) := by
  unfold sCopy
  exact fn_of_x hG hM Tryd.func27 (by kernel_rfl) (by kernel_rfl) 400 [.no, .segs [.one (.pointer none), .one (.pointer none), .one (.pointer none), .one (.pointer none), .ints .u8 4 (fun _ => 0), .one (.int .u8 0), .one (.int .u8 0), .one (.bool false), .one (.int .u8 0), .one (.int .u8 0), .one (.bool false), .one (.int .u16 0), .one (.int .u16 0), .one (.int .i64 0), .one (.bool false), .one (.int .i64 0), .one (.int .i64 0), .one (.bool false), .one (.bool false), .one (.bool false)], .unroll, .yes, .lit 0, .call [(1001, 1000)] [(1001, 1006)] 1001 (.pointer (some ⟨1001, 0, none⟩)) [(1000, Tone.blk s.tones_0), (1001, Tone.blk (tCopy s.tones_0))], .lit 0, .unroll, .yes, .lit 1, .call [(1002, 1000)] [(1001, 1007)] 1001 (.pointer (some ⟨1001, 0, none⟩)) [(1000, Tone.blk s.tones_1), (1001, Tone.blk (tCopy s.tones_1))], .lit 1, .unroll, .yes, .lit 2, .call [(1003, 1000)] [(1001, 1008)] 1001 (.pointer (some ⟨1001, 0, none⟩)) [(1000, Tone.blk s.tones_2), (1001, Tone.blk (tCopy s.tones_2))], .lit 2, .unroll, .yes, .lit 3, .call [(1004, 1000)] [(1001, 1009)] 1001 (.pointer (some ⟨1001, 0, none⟩)) [(1000, Tone.blk s.tones_3), (1001, Tone.blk (tCopy s.tones_3))], .lit 3, .unroll, .no] (J T0 (J T1 (J (Eq.refl (0 : Int)) (J (by decide : 0 < 4) (J (tCopy_ok s.tones_0) (J (Eq.refl (0 : Int)) (J (by decide : 0 < 4) (J T1 (J (Eq.refl (1 : Int)) (J (by decide : 1 < 4) (J (tCopy_ok s.tones_1) (J (Eq.refl (1 : Int)) (J (by decide : 1 < 4) (J T1 (J (Eq.refl (2 : Int)) (J (by decide : 2 < 4) (J (tCopy_ok s.tones_2) (J (Eq.refl (2 : Int)) (J (by decide : 2 < 4) (J T1 (J (Eq.refl (3 : Int)) (J (by decide : 3 < 4) (J (tCopy_ok s.tones_3) (J (Eq.refl (3 : Int)) (J (by decide : 3 < 4) (J T0 trivial)))))))))))))))))))))))))) (by kernel_rfl)
theorem sCopy_w (s : Snd) (w_s : Snd.ok s) : Snd.ok (sCopy s) := by
  unfold sCopy
  exact (⟨(tCopy_w s.tones_0 w_s.tones_0), (tCopy_w s.tones_1 w_s.tones_1), (tCopy_w s.tones_2 w_s.tones_2), (tCopy_w s.tones_3 w_s.tones_3), (⟨(rng_upd (rng_upd (rng_upd (rng_upd (fun _ => (by decide : rng 256 0)) 0 (w_s.sample.reg 0)) 1 (w_s.sample.reg 1)) 2 (w_s.sample.reg 2)) 3 (w_s.sample.reg 3)), w_s.sample.level, w_s.sample.next, w_s.sample.row, w_s.sample.bits, w_s.sample.timer, w_s.sample.at_⟩ : Smp.ok ({ s.sample with reg := (upd (upd (upd (upd (fun _ => 0) 0 (s.sample.reg 0)) 1 (s.sample.reg 1)) 2 (s.sample.reg 2)) 3 (s.sample.reg 3)) } : Smp))⟩ : Snd.ok ({ s with tones_0 := (tCopy s.tones_0), tones_1 := (tCopy s.tones_1), tones_2 := (tCopy s.tones_2), tones_3 := (tCopy s.tones_3), sample := ({ s.sample with reg := (upd (upd (upd (upd (fun _ => 0) 0 (s.sample.reg 0)) 1 (s.sample.reg 1)) 2 (s.sample.reg 2)) 3 (s.sample.reg 3)) } : Smp) } : Snd))
def nilPut (at_ : Int) (b : Int) : Unit :=
  ()
theorem nilPut_ok (at_ : Int) (b : Int) : FnSpec Tryd.prog 12 1000 [.pointer none, .int .u16 at_, .int .u8 b] [] (.tuple ⟨[]⟩) [] := by
  exact fn_of_x hG hM Tryd.func12 (by kernel_rfl) (by kernel_rfl) 400 [.yes, .yes, .yes, .yes, .yes, .yes, .yes] (J T1 (J T1 (J T1 (J T1 (J T1 (J T1 (J T1 trivial))))))) (by kernel_rfl)
def nilClock  : Unit :=
  ()
theorem nilClock_ok  : FnSpec Tryd.prog 15 1000 [.pointer none] [] (.tuple ⟨[]⟩) [] := by
  exact fn_of_x hG hM Tryd.func15 (by kernel_rfl) (by kernel_rfl) 400 [.yes] (J T1 trivial) (by kernel_rfl)
def nilOut  : Int :=
  0
theorem nilOut_ok  : FnSpec Tryd.prog 18 1000 [.pointer none] [] (.int .i64 nilOut) [] := by
  unfold nilOut
  exact fn_of_x hG hM Tryd.func18 (by kernel_rfl) (by kernel_rfl) 400 [.yes] (J T1 trivial) (by kernel_rfl)
def nilIRQ  : Bool :=
  false
theorem nilIRQ_ok  : FnSpec Tryd.prog 16 1000 [.pointer none] [] (.bool nilIRQ) [] := by
  unfold nilIRQ
  exact fn_of_x hG hM Tryd.func16 (by kernel_rfl) (by kernel_rfl) 400 [.no, .no, .no, .no, .no, .no, .no] (J T0 (J T0 (J T0 (J T0 (J T0 (J T0 (J T0 trivial))))))) (by kernel_rfl)
def nilGet  : Int :=
  0
theorem nilGet_ok  : FnSpec Tryd.prog 14 1000 [.pointer none] [] (.int .u8 nilGet) [] := by
  unfold nilGet
  exact fn_of_x hG hM Tryd.func14 (by kernel_rfl) (by kernel_rfl) 400 [.yes] (J T1 trivial) (by kernel_rfl)
theorem nilGet_w  : rng 256 nilGet := by
  unfold nilGet
  exact (by decide : rng 256 0)
def nilAsks  : Int × Bool :=
  (0, false)
theorem nilAsks_ok  : FnSpec Tryd.prog 26 1000 [.pointer none] [] (.tuple ⟨[.int .u16 nilAsks.1, .bool nilAsks.2]⟩) [] := by
  unfold nilAsks
  exact fn_of_x hG hM Tryd.func26 (by kernel_rfl) (by kernel_rfl) 400 [.yes, .yes, .yes, .yes, .yes, .yes, .yes] (J T1 (J T1 (J T1 (J T1 (J T1 (J T1 (J T1 trivial))))))) (by kernel_rfl)
def nilGive (b : Int) : Unit :=
  ()
theorem nilGive_ok (b : Int) : FnSpec Tryd.prog 17 1000 [.pointer none, .int .u8 b] [] (.tuple ⟨[]⟩) [] := by
  exact fn_of_x hG hM Tryd.func17 (by kernel_rfl) (by kernel_rfl) 400 [.no] (J T0 trivial) (by kernel_rfl)
def nilCopy  : Unit :=
  ()
theorem nilCopy_ok  : FnSpec Tryd.prog 27 1000 [.pointer none] [] (.pointer none) [] := by
  exact fn_of_x hG hM Tryd.func27 (by kernel_rfl) (by kernel_rfl) 400 [.yes] (J T1 trivial) (by kernel_rfl)
end Go.Proofs.YtgpcfjokmonlgaaDoor
namespace Go.Proofs.YtgpcfjokmonlgaaDoor
open Go VX
open Go.IntKind (i64 u8 u16)
set_option linter.unusedVariables false
set_option linter.unusedSimpArgs false
set_option maxRecDepth 100000
def awake  : Bool :=
  ((sOut sNew) == 12765)
theorem awake_ok  : FnSpec Tryd.prog 10 1000 [] [tb0, tb3] (.bool awake) [] := by
  unfold awake
  exact fn_of_x hG hM Tryd.func10 (by kernel_rfl) (by kernel_rfl) 400 [.call [(0, 0)] [(1000, 1000), (1001, 1001), (1002, 1002), (1003, 1003), (1004, 1004)] 1000 (.pointer (some ⟨1000, 0, none⟩)) (Snd.H0 sNew), .callr [(3, 3), (1000, 1000), (1001, 1001), (1002, 1002), (1003, 1003), (1004, 1004)] [1000, 1001, 1002, 1003, 1004] [] 1005 (.int .i64 (sOut sNew)) []] (J (sNew_ok) (J (sOut_ok sNew (sNew_w)) trivial)) (by kernel_rfl)
def rLength (n : Int) : Int :=
  if ((Int.tmod n 2) == 1) = true then
    (List.getD ([254, 2, 4, 6, 8, 10, 12, 14, 16, 18, 20, 22, 24, 26, 28, 30] : List Int) (Int.toNat (i64.wrap (Int.tdiv n 2))) 0)
  else
    if (decide (n < 16)) = true then
      (List.getD ([10, 20, 40, 80, 160, 60, 14, 26] : List Int) (Int.toNat (i64.wrap (Int.tdiv n 2))) 0)
    else
      (List.getD ([12, 24, 48, 96, 192, 72, 16, 32] : List Int) (Int.toNat (i64.wrap ((i64.wrap (Int.tdiv n 2)) - 8))) 0)
theorem rLength_ok (n : Int) (hn : 0 ≤ n ∧ n < 32) : FnSpec Tryd.prog 13 1000 [.int .i64 n] [] (.int .i64 (rLength n)) [] := by
  unfold rLength
  rcases bt ((Int.tmod n 2) == 1) with c1 | c1
  · rw [if_pos c1]
    have o1 : 0 ≤ (i64.wrap (Int.tdiv n 2)) ∧ (i64.wrap (Int.tdiv n 2)) < ((16 : Nat) : Int) := by have e := Int.tdiv_eq_ediv_of_nonneg (b := 2) hn.1; simp only [decide_eq_true_eq, decide_eq_false_iff_not, e, IntKind.wrap_i64] at *; omega
    have o2 : (Int.toNat (i64.wrap (Int.tdiv n 2))) < 16 := by have e := Int.tdiv_eq_ediv_of_nonneg (b := 2) hn.1; simp only [decide_eq_true_eq, decide_eq_false_iff_not, e, IntKind.wrap_i64] at *; omega
    exact fn_of_x hG hM Tryd.func13 (by kernel_rfl) (by kernel_rfl) 400 [.yes, .sym, .among 16] (J (by decide : ((2 : Int) ≠ 0)) (J c1 (J (by decide : ((2 : Int) ≠ 0)) (J o1 (J o2 trivial))))) (by kernel_rfl)
  · rw [if_neg (nt c1)]
    rcases bt (decide (n < 16)) with c2 | c2
    · rw [if_pos c2]
      have o1 : 0 ≤ (i64.wrap (Int.tdiv n 2)) ∧ (i64.wrap (Int.tdiv n 2)) < ((8 : Nat) : Int) := by have e := Int.tdiv_eq_ediv_of_nonneg (b := 2) hn.1; simp only [decide_eq_true_eq, decide_eq_false_iff_not, e, IntKind.wrap_i64] at *; omega
      have o2 : (Int.toNat (i64.wrap (Int.tdiv n 2))) < 8 := by have e := Int.tdiv_eq_ediv_of_nonneg (b := 2) hn.1; simp only [decide_eq_true_eq, decide_eq_false_iff_not, e, IntKind.wrap_i64] at *; omega
      exact fn_of_x hG hM Tryd.func13 (by kernel_rfl) (by kernel_rfl) 400 [.no, .yes, .sym, .among 8] (J (by decide : ((2 : Int) ≠ 0)) (J c1 (J c2 (J (by decide : ((2 : Int) ≠ 0)) (J o1 (J o2 trivial)))))) (by kernel_rfl)
    · rw [if_neg (nt c2)]
      have o1 : 0 ≤ (i64.wrap ((i64.wrap (Int.tdiv n 2)) - 8)) ∧ (i64.wrap ((i64.wrap (Int.tdiv n 2)) - 8)) < ((8 : Nat) : Int) := by have e := Int.tdiv_eq_ediv_of_nonneg (b := 2) hn.1; simp only [decide_eq_true_eq, decide_eq_false_iff_not, e, IntKind.wrap_i64] at *; omega
      have o2 : (Int.toNat (i64.wrap ((i64.wrap (Int.tdiv n 2)) - 8))) < 8 := by have e := Int.tdiv_eq_ediv_of_nonneg (b := 2) hn.1; simp only [decide_eq_true_eq, decide_eq_false_iff_not, e, IntKind.wrap_i64] at *; omega
      exact fn_of_x hG hM Tryd.func13 (by kernel_rfl) (by kernel_rfl) 400 [.no, .no, .sym, .among 8] (J (by decide : ((2 : Int) ≠ 0)) (J c1 (J c2 (J (by decide : ((2 : Int) ≠ 0)) (J o1 (J o2 trivial)))))) (by kernel_rfl)
end Go.Proofs.YtgpcfjokmonlgaaDoor
namespace Go.Proofs.YtgpcfjokmonlgaaDoor.VX
open Go Go.RowKit Go.WideShapes Go.ChangeShapes Go.WideElems
set_option linter.unusedSimpArgs false
set_option linter.unusedVariables false
def HandedAt (W : World) (z : Nat) (cells : Nat → List Value) (N d : Nat) (v : Value) : Prop :=
  ∃ b, b < W.heap.size ∧ (∀ μ ty, BlkRel μ ⟨[.gap d, .rows N z cells], ty, true⟩ W.heap[b]?) ∧ ∀ (μ : Mu) (id : Nat), μ id = some b → VRel μ (.slice (some ⟨id, 0, some d⟩) N 0) v
theorem lt_of_some {α : Type} {a : Array α} {i : Nat} {x : α} (h : a[i]? = some x) : i < a.size := by
  apply Classical.byContradiction
  intro hc
  rw [Array.getElem?_eq_none (by omega)] at h
  cases h
theorem open_handed {H : Type} {enc : TypeId × Value → H} {P : Program} {W : World} {r : Reach} {b0 base : Nat} {sp : Nat → Bool} {held : Bool} {t e : TypeId} {v : Value} {dd : DataW H} {p : List MemPlace} {z : Nat}
    (ht : P.underlying t = some (.slice e)) (hz : P.cellsOf e = z) (hpos : 0 < z) {α : Type} (cells : α → List Value) (ok : α → Prop) (x0 : α) (hx0 : ok x0) (hfl : ∀ a, (cells a).all scalar = true)
    (open1 : ∀ (fuel : Nat) (cs : List Value) (x : DataW H × List MemPlace), DataW.trod enc P W base sp held fuel e cs = some x → ∃ a, ok a ∧ cs = cells a)
    (hany : ∃ (b : Nat) (cs : Array Value) (ty : TypeId) (fr : Nat × Nat), W.heap[b]? = some (Obj.cells cs ty fr))
    (hval : Value.okWide P W r b0 t v) (h : DataW.Trod enc P W base sp held t v dd p) :
    ∃ (N d : Nat) (g : Nat → α), (∀ j, ok (g j)) ∧ HandedAt W z (fun i => cells (g i)) N d v := by
  obtain ⟨ba, ca, ta, fa, hba⟩ := hany
  have empty : ∀ (a : Option Addr) (c : Nat), v = .slice a 0 c → ∃ (N d : Nat) (g : Nat → α), (∀ j, ok (g j)) ∧ HandedAt W z (fun i => cells (g i)) N d v := by
    rintro a c rfl
    refine ⟨0, 0, fun _ => x0, fun _ => hx0, ba, lt_of_some hba, fun μ ty => ⟨ca, ta, fa, hba, (fun hro => nomatch hro), fun off u hu => ?_⟩, fun μ id hid => .sliceE _ _ _ _ _ _⟩
    exfalso
    simp only [Blk.get?] at hu
    have e5 : segsGet? [.gap 0, .rows 0 z (fun i => cells x0)] off = (bif Nat.blt off 0 then none else bif Nat.blt (off - 0) (0 * z) then (Seg.rows 0 z (fun i => cells x0)).get? (off - 0) else none) := rfl
    rw [e5, Nat.zero_mul] at hu
    have e6 : ∀ n, Nat.blt n 0 = false := fun n => by cases h : Nat.blt n 0 with | false => rfl | true => have := blt_tt h; omega
    rw [e6, e6] at hu
    simp at hu
  obtain ⟨a, len, cap, rfl⟩ := okWide_slice ht hval
  obtain ⟨fuel, hf⟩ := h
  rcases Go.Deep.open_slice ht hf with ⟨h1, _⟩ | ⟨a', len', cap', m, n, D, Pl, h1, _, hl, _, hm, _, hel⟩
  · simp [Value.cells] at h1
    obtain ⟨rfl, rfl, rfl⟩ := h1
    exact empty _ _ rfl
  · simp [Value.cells] at h1
    obtain ⟨rfl, rfl, rfl⟩ := h1
    by_cases h0 : len = 0
    · subst h0
      exact empty _ _ rfl
    have hlm : len ≤ m := by rw [hm]; split <;> omega
    have hch : ∀ i, i < len → ∃ x : α, ok x ∧ ∀ j, j < z → W.cell? ((a'.add (i * z)).add j) = (cells x)[j]? := by
      intro i hi
      obtain ⟨cs', hc, ht'⟩ := hel i (by omega)
      obtain ⟨x, hx, rfl⟩ := open1 _ _ _ ht'
      rw [hz] at hc
      obtain ⟨_, _, hcell⟩ := World.cells?_some hc
      exact ⟨x, hx, hcell⟩
    haveI : Inhabited α := ⟨x0⟩
    obtain ⟨g0, hg0⟩ := Go.Deep.choose_lt (p := fun i x => ok x ∧ ∀ j, j < z → W.cell? ((a'.add (i * z)).add j) = (cells x)[j]?) hch
    obtain ⟨b, off, spot⟩ := a'
    have first : ∃ v0, W.cell? (((⟨b, off, spot⟩ : Addr).add (0 * z)).add 0) = some v0 := by
      obtain ⟨cs', hc, _⟩ := hel 0 (by omega)
      rw [hz] at hc
      obtain ⟨_, hl', hcell⟩ := World.cells?_some hc
      exact ⟨cs'[0]'(by omega), by rw [hcell 0 hpos, List.getElem?_eq_getElem]⟩
    obtain ⟨v0, hv0⟩ := first
    have hspot : spot = none := by
      have := World.cell?_spot hv0
      simpa [Addr.add] using this
    subst hspot
    have hblk : ∃ cs ty fr, W.heap[b]? = some (.cells cs ty fr) ∧ ∀ o u, W.cell? ⟨b, o, none⟩ = some u → cs[o]? = some u := by
      rw [add_plain, add_plain] at hv0
      unfold World.cell? at hv0
      split at hv0
      · rename_i c ty fr hh
        exact ⟨c, ty, fr, hh, fun o u hu => by unfold World.cell? at hu; simp only [hh] at hu; simpa using hu⟩
      · cases hv0
    obtain ⟨cs, ty0, fr, hh, hcs⟩ := hblk
    classical
    refine ⟨len, off, fun j => if j < len then g0 j else x0, fun j => (show ok (if j < len then g0 j else x0) by
      by_cases hj : j < len
      · rw [if_pos hj]; exact (hg0 j hj).1
      · rw [if_neg hj]; exact hx0), b, lt_of_some hh, fun μ ty => ⟨cs, ty0, fr, hh, (fun hro => nomatch hro), fun o u hu => ?_⟩, fun μ id hid => ?_⟩
    · have e5 : (Blk.get? ⟨[.gap off, .rows len z (fun i => cells (if i < len then g0 i else x0))], ty, true⟩ o) = (bif Nat.blt o off then none else bif Nat.blt (o - off) (len * z) then (Seg.rows len z (fun i => cells (if i < len then g0 i else x0))).get? (o - off) else none) := rfl
      rw [e5] at hu
      cases h1 : Nat.blt o off <;> rw [h1] at hu
      · simp only [cond_false] at hu
        cases h2 : Nat.blt (o - off) (len * z) <;> rw [h2] at hu
        · simp at hu
        · simp only [cond_true, Seg.get?, h2] at hu
          have hlt := blt_tt h2
          have hge := blt_ff h1
          have hq : (o - off) / z < len := Nat.div_lt_of_lt_mul (by rw [Nat.mul_comm]; exact hlt)
          have hr : (o - off) % z < z := Nat.mod_lt _ hpos
          rw [if_pos hq] at hu
          have hcell := (hg0 _ hq).2 _ hr
          rw [add_plain, add_plain, hu] at hcell
          have heq : off + (o - off) / z * z + (o - off) % z = o := by
            have := Nat.div_add_mod (o - off) z
            rw [Nat.mul_comm] at this
            omega
          rw [heq] at hcell
          exact ⟨u, hcs o u hcell, .of_scalar (List.all_eq_true.1 (hfl _) u (List.mem_of_getElem? hu))⟩
      · simp at hu
    · have := VRel.sliceS hid off 0 len 0 cap hl
      rwa [Nat.add_zero] at this
theorem trod_cell_int {H : Type} {enc : TypeId × Value → H} {P : Program} {W : World} {base : Nat} {sp : Nat → Bool} {held : Bool} {t : TypeId} {fs : Array Field} {fuel : Nat} {cs : List Value} {x : DataW H × List MemPlace}
    (ht : P.underlying t = some (.struct fs)) (h : DataW.trod enc P W base sp held fuel t cs = some x) {i : Nat} {f : Field} (hf : fs[i]? = some f) {k : IntKind} (hu : P.underlying f.type = some (.int k)) (hc : P.cellsOf f.type = 1) :
    ∃ n, cs[f.offset]? = some (.int k n) ∧ (Lit.int k n).wf = true := by
  obtain ⟨xs, n, _, _, _, hl, he⟩ := DataW.trod_struct ht h
  have hi : i < xs.length := by rw [hl]; exact lt_of_some hf
  have := he i f hf
  rw [hc, List.getElem?_eq_getElem hi] at this
  obtain ⟨z, h1, _, h2⟩ := DataW.trod_int hu this
  have h0 : ((cs.drop f.offset).take 1)[0]? = some (.int k z) := by rw [h1]; rfl
  exact ⟨z, by simpa using h0, h2⟩
theorem trod_len {H : Type} {enc : TypeId × Value → H} {P : Program} {W : World} {base : Nat} {sp : Nat → Bool} {held : Bool} {t : TypeId} {fs : Array Field} {fuel : Nat} {cs : List Value} {x : DataW H × List MemPlace}
    (ht : P.underlying t = some (.struct fs)) (h : DataW.trod enc P W base sp held fuel t cs = some x) : cs.length = P.cellsOf t := by
  obtain ⟨xs, n, _, _, hl, _, _⟩ := DataW.trod_struct ht h
  exact hl
theorem open_arr_ints {H : Type} {enc : TypeId × Value → H} {P : Program} {W : World} {r : Reach} {b0 base : Nat} {sp : Nat → Bool} {held : Bool} {t e : TypeId} {n : Nat} {k : IntKind} {v : Value} {dd : DataW H} {p : List MemPlace}
    (ht : P.underlying t = some (.array n e)) (he : P.underlying e = some (.int k)) (hc : P.cellsOf e = 1) (hct : P.cellsOf t = n)
    (hval : Value.okWide P W r b0 t v) (h : DataW.Trod enc P W base sp held t v dd p) :
    ∃ f : Nat → Int, (∀ j, j < n → (Lit.int k (f j)).wf = true) ∧ v = .agg ⟨(List.range n).map fun j => .int k (f j)⟩ := by
  simp only [Value.okWide, ht] at hval
  obtain ⟨cs, rfl, hsz, _⟩ := hval
  obtain ⟨fuel, hf⟩ := h
  obtain ⟨xs, m, _, _, hl, hxl, hel⟩ := DataW.trod_array ht hf
  have hch : ∀ j, j < n → ∃ z : Int, (Lit.int k z).wf = true ∧ cs[j]? = some (.int k z) := by
    intro j hj
    have hE := hel j hj
    rw [hc, Nat.mul_one, List.getElem?_eq_getElem (by omega)] at hE
    obtain ⟨z, q1, _, q2⟩ := DataW.trod_int he hE
    refine ⟨z, q2, ?_⟩
    have h0 : (((Value.agg cs).cells.toList.drop j).take 1)[0]? = some (.int k z) := by rw [q1]; rfl
    simpa [Value.cells] using h0
  obtain ⟨f, hf2⟩ := Go.Deep.choose_lt (p := fun j z => (Lit.int k z).wf = true ∧ cs[j]? = some (.int k z)) hch
  refine ⟨f, fun j hj => (hf2 j hj).1, ?_⟩
  congr 1
  apply Array.ext
  · simp; omega
  · intro j h1 h2
    have hj : j < n := by omega
    have := (hf2 j hj).2
    rw [Array.getElem?_eq_getElem h1] at this
    have e2 : cs[j] = .int k (f j) := Option.some.inj this
    rw [e2]
    simp
def muH (P : Program) (b : Nat) : Mu := ⟨fun i => if i < P.globals.size then some i else if i = 1000 then some b else none, fun _ => 0, fun _ => none⟩
theorem muH_1000 {P : Program} (hG : P.globals.size ≤ 1000) (b : Nat) : muH P b 1000 = some b := by
  show (if 1000 < P.globals.size then some 1000 else if 1000 = 1000 then some b else none) = some b
  rw [if_neg (by omega), if_pos rfl]
theorem calls_of_spec_hand {P : Program} {f : FuncId} {A : List Value} {Hl H' : Heap} (hG : P.globals.size ≤ 1000) (sp : FnSpec P f 1001 A Hl (.bool true) H') {W : World} {args : Array Value} (hg : P.globals.size ≤ W.heap.size) {b : Nat} (hb0 : b < W.heap.size)
    (hb : ∀ i B, lk Hl i = some B → B.ro = true ∧ ∃ b', muH P b i = some b' ∧ BlkRel (muH P b) B W.heap[b']?) (ha : VRels (muH P b) A args.toList) :
    Calls P f args W fun e W' => e = .returned (.bool true) ∧ Below W.heap.size W W' := by
  have hr : Rep (muH P b) (lk Hl) W := by
    refine ⟨fun i B e => (hb i B e).2, fun i j A B b e1 e2 _ _ _ => ⟨(hb i A e1).1, (hb j B e2).1⟩, fun i b' e => ?_, fun i B b e hr => (by rw [(hb i B e).1] at hr; cases hr), (fun b cs e => nomatch e), fun i B b e hr => (by rw [(hb i B e).1] at hr; cases hr)⟩
    simp only [muH] at e
    split at e
    · simp at e; omega
    · split at e
      · simp at e; omega
      · cases e
  have := sp.runs (muH P b) W args.toList (fun g h => by simp [muH, h]) (fun i hi => by simp only [muH]; rw [if_neg (by omega), if_neg (by omega)]) ha hr
  refine this.mono fun e W' ⟨μ', rv, _, _, hv, he, k⟩ => ?_
  cases hv
  exact ⟨he, ⟨k.os, k.tape, k.output, k.size, fun b hb' => k.same b hb' (by rintro ⟨i, B, e, hr, _⟩; rw [(hb i B e).1] at hr; cases hr)⟩⟩
end Go.Proofs.YtgpcfjokmonlgaaDoor.VX
namespace Go.Proofs.YtgpcfjokmonlgaaDoor.VX
open Go Go.RowKit Go.WideShapes Go.ChangeShapes Go.WideElems
set_option linter.unusedSimpArgs false
set_option linter.unusedVariables false
theorem tbl_cells2 {P : Program} {W : World} {laid : List (String × DataW Unit)} (h : laidMet P laid W) {n : String} {d : DataW Unit} (hm : (n, d) ∈ laid) {L : List (List Int)} {k : IntKind} (hd : d = .agg (L.map fun l => .agg (l.map fun x => .lit (.int k x)))) {g : Nat} (hg : P.globalNamed n = some g)
    {ta tr te : TypeId} (ht : (P.globals[g]?).map (·.type) = some ta) {n1 n2 : Nat} (hu : P.underlying ta = some (.array n1 tr)) (hur : P.underlying tr = some (.array n2 te)) (hue : P.underlying te = some (.int k)) (hcr : P.cellsOf tr = n2) (hc : P.cellsOf te = 1)
    (hl : L.length = n1) (hl2 : ∀ l ∈ L, l.length = n2) :
    ∃ cs t fr, W.heap[g]? = some (.cells cs t fr) ∧ ∀ r j, r < n1 → j < n2 → cs[r * n2 + j]? = some (.int k ((L.getD r []).getD j 0)) := by
  obtain ⟨ps, hv, _, _⟩ := h
  obtain ⟨g', t', cs, fuel, p, e1, e2, e3, e4⟩ := laid_entry hv hm
  obtain rfl := Option.some.inj (hg.symm.trans e1)
  obtain rfl := Option.some.inj (ht.symm.trans e2)
  obtain ⟨xs, m, _, ex, _, hxl, hel⟩ := DataW.trod_array hu e4
  have hxs : (xs.map (·.1)) = L.map fun l => .agg (l.map fun x => .lit (.int k x)) := by
    have := (Prod.mk.inj ex).1
    rw [hd] at this
    exact (DataW.agg.inj this).symm
  have hcell : ∀ r j, r < n1 → j < n2 → cs[r * n2 + j]? = some (.int k ((L.getD r []).getD j 0)) := by
    intro r j hr hj
    have hE := hel r hr
    rw [hcr, List.getElem?_eq_getElem (by omega)] at hE
    obtain ⟨ys, m2, _, ey, _, hyl, hyel⟩ := DataW.trod_array hur hE
    have hF := hyel j hj
    rw [hc, Nat.mul_one, List.getElem?_eq_getElem (by omega)] at hF
    obtain ⟨z, q1, q2, _⟩ := DataW.trod_int hue hF
    have e4 : (xs.map (·.1))[r]? = (L.map fun l => (DataW.agg (l.map fun x => .lit (.int k x)) : DataW Unit))[r]? := by rw [hxs]
    rw [List.getElem?_map, List.getElem?_map, List.getElem?_eq_getElem (by omega : r < xs.length), List.getElem?_eq_getElem (by omega : r < L.length)] at e4
    have e5 : xs[r].1 = DataW.agg ((L[r]'(by omega)).map fun x => .lit (.int k x)) := Option.some.inj e4
    have e6 : (ys.map (·.1)) = (L[r]'(by omega)).map fun x => DataW.lit (.int k x) := by
      have := (Prod.mk.inj (ey : (xs[r].1, xs[r].2) = _)).1
      exact DataW.agg.inj (Eq.trans (Eq.symm this) e5)
    have e7 : (ys.map (·.1))[j]? = ((L[r]'(by omega)).map fun x => (DataW.lit (.int k x) : DataW Unit))[j]? := by rw [e6]
    have hlr : (L[r]'(by omega)).length = n2 := hl2 _ (List.getElem_mem _)
    rw [List.getElem?_map, List.getElem?_map, List.getElem?_eq_getElem (by omega : j < ys.length), List.getElem?_eq_getElem (by omega : j < (L[r]'(by omega)).length), q2] at e7
    have hz : z = (L.getD r []).getD j 0 := by
      simp only [Option.map_some, Option.some.injEq, DataW.lit.injEq, Lit.int.injEq, true_and] at e7
      rw [e7, List.getD, List.getD, List.getElem?_eq_getElem (by omega : r < L.length)]
      simp only [Option.getD_some]
      rw [List.getElem?_eq_getElem (by omega)]; rfl
    rw [← hz]
    have h0 : ((((cs.toList.drop (r * n2)).take n2).drop j).take 1)[0]? = some (.int k z) := by rw [q1]; rfl
    rw [List.getElem?_take, List.getElem?_drop, List.getElem?_take, List.getElem?_drop] at h0
    simp only [Nat.lt_one_iff, if_true, Nat.add_zero, hj] at h0
    simpa using h0
  have hheap : ∃ t fr, W.heap[g]? = some (.cells cs t fr) := by
    simp only [World.var?, hg, Option.bind_some] at e3
    split at e3
    · rename_i c t fr hh
      simp only [Option.some.injEq] at e3
      subst e3
      exact ⟨_, _, hh⟩
    · simp at e3
  obtain ⟨t, fr, hh⟩ := hheap
  exact ⟨cs, t, fr, hh, hcell⟩
theorem blk_ones {μ : Mu} {o : Option Obj} {cs : Array Value} {t : TypeId} {fr : Nat × Nat} (hh : o = some (.cells cs t fr)) (l : List Value) (hs : l.all scalar = true) (hl : ∀ (j : Nat) (v : Value), l[j]? = some v → cs[j]? = some v) (ty : TypeId) :
    BlkRel μ ⟨l.map .one, ty, true⟩ o := by
  refine ⟨cs, t, fr, hh, (fun hro => nomatch hro), fun off v hv => ?_⟩
  have hg : ∀ (l : List Value) (off : Nat), segsGet? (l.map .one) off = l[off]? := by
    intro l
    induction l with
    | nil => intro off; rfl
    | cons c l ih =>
      intro off
      cases off with
      | zero => rfl
      | succ off =>
        simp only [List.map_cons, segsGet?, Seg.size]
        have : Nat.blt (off + 1) 1 = false := by cases h : Nat.blt (off + 1) 1 with | false => rfl | true => have := blt_tt h; omega
        rw [this]
        simpa using ih off
  have hv' : l[off]? = some v := by rw [← hg l off]; exact hv
  exact ⟨v, hl off v hv', .of_scalar (List.all_eq_true.1 hs v (List.mem_of_getElem? hv'))⟩
def HandedInts (W : World) (k : IntKind) (f : Nat → Int) (N d : Nat) (v : Value) : Prop :=
  ∃ b, b < W.heap.size ∧ (∀ μ ty, BlkRel μ ⟨[.gap d, .ints k N f], ty, true⟩ W.heap[b]?) ∧ ∀ (μ : Mu) (id : Nat), μ id = some b → VRel μ (.slice (some ⟨id, 0, some d⟩) N 0) v
theorem handed_ints {W : World} {k : IntKind} {f : Nat → Int} {N d : Nat} {v : Value} (h : HandedAt W 1 (fun i => [.int k (f i)]) N d v) : HandedInts W k f N d v := by
  obtain ⟨b, hb, hB, hR⟩ := h
  refine ⟨b, hb, fun μ ty => ?_, hR⟩
  obtain ⟨cs, t, fr, ho, h1, h2⟩ := hB μ ty
  refine ⟨cs, t, fr, ho, (fun hro => nomatch hro), fun off u hu => h2 off u ?_⟩
  have e1 : (Blk.get? ⟨[.gap d, .ints k N f], ty, true⟩ off) = (bif Nat.blt off d then none else bif Nat.blt (off - d) N then (bif Nat.blt (off - d) N then some (.int k (f (off - d))) else none) else none) := rfl
  have e2 : (Blk.get? ⟨[.gap d, .rows N 1 fun i => [.int k (f i)]], ty, true⟩ off) = (bif Nat.blt off d then none else bif Nat.blt (off - d) (N * 1) then (bif Nat.blt (off - d) (N * 1) then [Value.int k (f ((off - d) / 1))][(off - d) % 1]? else none) else none) := rfl
  rw [e1] at hu
  rw [e2, Nat.mul_one, Nat.div_one, Nat.mod_one]
  exact hu
theorem open_bytes {H : Type} {enc : TypeId × Value → H} {P : Program} {W : World} {r : Reach} {b0 base : Nat} {sp : Nat → Bool} {held : Bool} {t e : TypeId} {v : Value} {dd : DataW H} {p : List MemPlace}
    (ht : P.underlying t = some (.slice e)) (he : P.underlying e = some (.int .u8)) (hz : P.cellsOf e = 1) (hany : ∃ (b : Nat) (cs : Array Value) (ty : TypeId) (fr : Nat × Nat), W.heap[b]? = some (Obj.cells cs ty fr))
    (hval : Value.okWide P W r b0 t v) (h : DataW.Trod enc P W base sp held t v dd p) :
    ∃ (N d : Nat) (f : Nat → Int), (∀ j, rng 256 (f j)) ∧ HandedInts W .u8 f N d v := by
  obtain ⟨N, d, g, hg, hh⟩ := open_handed ht hz (by decide) (fun a : Int => [.int .u8 a]) (rng 256) 0 (by decide) (fun _ => rfl) (fun fuel cs x hx => by
    obtain ⟨z, h1, _, h2⟩ := DataW.trod_int he hx
    exact ⟨z, wf_u8 h2, h1⟩) hany hval h
  exact ⟨N, d, g, hg, handed_ints hh⟩
theorem handed_le {H : Type} {enc : TypeId × Value → H} {P : Program} {W : World} {r : Reach} {b0 base : Nat} {sp : Nat → Bool} {held : Bool} {t e : TypeId} {v : Value} {dd : DataW H} {p : List MemPlace} {z N d : Nat} {cells : Nat → List Value}
    (ht : P.underlying t = some (.slice e)) (hval : Value.okWide P W r b0 t v) (h : DataW.Trod enc P W base sp held t v dd p) (hh : HandedAt W z cells N d v) : N ≤ 9223372036854775807 := by
  obtain ⟨b, _, _, hR⟩ := hh
  have hv := hR ⟨fun _ => some b, fun _ => 0, fun _ => none⟩ 1000 rfl
  obtain ⟨a, len, cap, rfl⟩ := okWide_slice ht hval
  obtain ⟨fuel, hf⟩ := h
  have hlen : len ≤ 9223372036854775807 := by
    rcases Go.Deep.open_slice ht hf with ⟨h1, _⟩ | ⟨a', len', cap', m, n, D, Pl, h1, _, hl, hm, _⟩
    · simp [Value.cells] at h1
      omega
    · simp [Value.cells] at h1
      obtain ⟨_, rfl, rfl⟩ := h1
      have : maxLen = 9223372036854775807 := by decide
      omega
  cases hv with
  | sliceS _ _ _ _ _ _ _ => exact hlen
  | sliceE _ _ _ _ _ _ => omega
end Go.Proofs.YtgpcfjokmonlgaaDoor.VX
namespace Go.Proofs.YtgpcfjokmonlgaaDoor
open Go VX Go.ChangeShapes Go.WideShapes Go.RowKit Go.Joins
set_option maxRecDepth 100000
set_option linter.unusedVariables false
theorem own_x : ownKnob Tryd.prog.godebug = none := by kernel_rfl
theorem laid_x : laidOutB Tryd.prog = true := by kernel_rfl
theorem low_x : decide (Tryd.prog.globals.size < (begin Tryd.prog (fun _ _ => 0) default).world.heap.size) = true := by kernel_rfl
abbrev laidT : List (String × DataW Unit) := [("kotatsu/tone.lengths", Rows.laid_kotatsu_tone_lengths), ("kotatsu/tone.noises", Rows.laid_kotatsu_tone_noises), ("kotatsu/tone.duties", Rows.laid_kotatsu_tone_duties)]
abbrev laidL : List (String × DataW Unit) := [("kotatsu/tone.lengths", Rows.laid_kotatsu_tone_lengths), ("kotatsu/tone.noises", Rows.laid_kotatsu_tone_noises), ("kotatsu/tone.duties", Rows.laid_kotatsu_tone_duties), ("kotatsu/sound.rates", Rows.laid_kotatsu_sound_rates), ("kotatsu/sound.when", Rows.laid_kotatsu_sound_when)]
def whenL : List (List Int) := [[7457, 14913, 22371, 29829], [7457, 14913, 22371, 37281]]
section
variable {W : World} {l : List (String × DataW Unit)} (h : laidMet Tryd.prog l W)
include h
theorem tab0_ok (hm : ("kotatsu/tone.noises", Rows.laid_kotatsu_tone_noises) ∈ l) (μ : Mu) : BlkRel μ tb0.2 W.heap[0]? :=
  tbl_ints h hm (L := noisesL) (k := .u16) (by kernel_rfl) (g := 0) (by kernel_rfl) (ta := 84) (te := 26) (by kernel_rfl) (len := 16) Tryd.underlying84 Tryd.underlying26 (by kernel_rfl) rfl _ 84
theorem tab2_ok (hm : ("kotatsu/sound.rates", Rows.laid_kotatsu_sound_rates) ∈ l) (μ : Mu) : BlkRel μ tb2.2 W.heap[2]? :=
  tbl_ints h hm (L := ratesL) (k := .u16) (by kernel_rfl) (g := 2) (by kernel_rfl) (ta := 84) (te := 26) (by kernel_rfl) (len := 16) Tryd.underlying84 Tryd.underlying26 (by kernel_rfl) rfl _ 84
theorem tab3_ok (hm : ("kotatsu/tone.duties", Rows.laid_kotatsu_tone_duties) ∈ l) (μ : Mu) : BlkRel μ tb3.2 W.heap[3]? :=
  tbl_ints h hm (L := dutiesL) (k := .u8) (by kernel_rfl) (g := 3) (by kernel_rfl) (ta := 60) (te := 5) (by kernel_rfl) (len := 4) Tryd.underlying60 Tryd.underlying5 (by kernel_rfl) rfl _ 60
theorem tab4_ok (hm : ("kotatsu/tone.lengths", Rows.laid_kotatsu_tone_lengths) ∈ l) (μ : Mu) : BlkRel μ tb4.2 W.heap[4]? :=
  tbl_ints h hm (L := lengthsL) (k := .u8) (by kernel_rfl) (g := 4) (by kernel_rfl) (ta := 92) (te := 5) (by kernel_rfl) (len := 32) Tryd.underlying92 Tryd.underlying5 (by kernel_rfl) rfl _ 92
theorem tab1_ok (hm : ("kotatsu/sound.when", Rows.laid_kotatsu_sound_when) ∈ l) (μ : Mu) : BlkRel μ tb1.2 W.heap[1]? := by
  obtain ⟨cs, t, fr, hh, hc⟩ := tbl_cells2 h hm (L := whenL) (k := .i64) (by kernel_rfl) (g := 1) (by kernel_rfl) (ta := 88) (tr := 44) (te := 3) (by kernel_rfl) (n1 := 2) (n2 := 4) Tryd.underlying88 Tryd.underlying44 Tryd.underlying3 (by kernel_rfl) (by kernel_rfl) rfl (by decide)
  refine blk_ones hh [.int .i64 7457, .int .i64 14913, .int .i64 22371, .int .i64 29829, .int .i64 7457, .int .i64 14913, .int .i64 22371, .int .i64 37281] rfl (fun j v hj => ?_) 88
  match j, hj with
  | 0, hj => cases hj; exact hc 0 0 (by decide) (by decide)
  | 1, hj => cases hj; exact hc 0 1 (by decide) (by decide)
  | 2, hj => cases hj; exact hc 0 2 (by decide) (by decide)
  | 3, hj => cases hj; exact hc 0 3 (by decide) (by decide)
  | 4, hj => cases hj; exact hc 1 0 (by decide) (by decide)
  | 5, hj => cases hj; exact hc 1 1 (by decide) (by decide)
  | 6, hj => cases hj; exact hc 1 2 (by decide) (by decide)
  | 7, hj => cases hj; exact hc 1 3 (by decide) (by decide)
  | j + 8, hj => simp at hj
end
theorem lk_cons {i j : Nat} {B C : Blk} {r : Heap} (h : lk ((j, C) :: r) i = some B) : (i = j ∧ B = C) ∨ (i ≠ j ∧ lk r i = some B) := by
  simp only [lk] at h
  cases e : Nat.beq i j <;> rw [e] at h
  · exact .inr ⟨beq_ff e, by simpa using h⟩
  · exact .inl ⟨beq_tt e, by simpa using h.symm⟩
theorem globs5 : 5 ≤ Tryd.prog.globals.size := of_decide_eq_true (by kernel_rfl)
section
variable {W : World}
theorem tabsT_ok (h : laidMet Tryd.prog laidT W) : ∀ i B, lk [tb0, tb3, tb4] i = some B → i < Tryd.prog.globals.size ∧ B.ro = true ∧ BlkRel (muG Tryd.prog) B W.heap[i]? := by
  intro i B hB
  have hs := globs5
  rcases lk_cons hB with ⟨rfl, rfl⟩ | ⟨_, hB⟩
  · exact ⟨by omega, rfl, tab0_ok h (by simp [laidT]) _⟩
  rcases lk_cons hB with ⟨rfl, rfl⟩ | ⟨_, hB⟩
  · exact ⟨by omega, rfl, tab3_ok h (by simp [laidT]) _⟩
  rcases lk_cons hB with ⟨rfl, rfl⟩ | ⟨_, hB⟩
  · exact ⟨by omega, rfl, tab4_ok h (by simp [laidT]) _⟩
  · cases hB
theorem tabs_ok (h : laidMet Tryd.prog laidL W) : ∀ i B, lk [tb0, tb1, tb2, tb3, tb4] i = some B → i < Tryd.prog.globals.size ∧ B.ro = true ∧ BlkRel (muG Tryd.prog) B W.heap[i]? := by
  intro i B hB
  have hs := globs5
  rcases lk_cons hB with ⟨rfl, rfl⟩ | ⟨_, hB⟩
  · exact ⟨by omega, rfl, tab0_ok h (by simp [laidL]) _⟩
  rcases lk_cons hB with ⟨rfl, rfl⟩ | ⟨_, hB⟩
  · exact ⟨by omega, rfl, tab1_ok h (by simp [laidL]) _⟩
  rcases lk_cons hB with ⟨rfl, rfl⟩ | ⟨_, hB⟩
  · exact ⟨by omega, rfl, tab2_ok h (by simp [laidL]) _⟩
  rcases lk_cons hB with ⟨rfl, rfl⟩ | ⟨_, hB⟩
  · exact ⟨by omega, rfl, tab3_ok h (by simp [laidL]) _⟩
  rcases lk_cons hB with ⟨rfl, rfl⟩ | ⟨_, hB⟩
  · exact ⟨by omega, rfl, tab4_ok h (by simp [laidL]) _⟩
  · cases hB
theorem any_cells (h : laidMet Tryd.prog laidL W) : ∃ (b : Nat) (cs : Array Value) (ty : TypeId) (fr : Nat × Nat), W.heap[b]? = some (Obj.cells cs ty fr) := by
  obtain ⟨cs, t, fr, e, _⟩ := tab0_ok h (by simp [laidL]) (muG Tryd.prog)
  exact ⟨0, cs, t, fr, e⟩
theorem tabs_hand (h : laidMet Tryd.prog laidL W) {b : Nat} {B : Blk} (hro : B.ro = true) (hB : BlkRel (muH Tryd.prog b) B W.heap[b]?) : ∀ i B', lk [tb0, tb1, tb2, tb3, tb4, (1000, B)] i = some B' → B'.ro = true ∧ ∃ b', muH Tryd.prog b i = some b' ∧ BlkRel (muH Tryd.prog b) B' W.heap[b']? := by
  intro i B' hB'
  have hs := globs5
  have hmu : ∀ i, i < 5 → muH Tryd.prog b i = some i := fun i hi => by simp only [muH]; rw [if_pos (by omega)]
  rcases lk_cons hB' with ⟨rfl, rfl⟩ | ⟨_, hB'⟩
  · exact ⟨rfl, 0, hmu 0 (by decide), tab0_ok h (by simp [laidL]) _⟩
  rcases lk_cons hB' with ⟨rfl, rfl⟩ | ⟨_, hB'⟩
  · exact ⟨rfl, 1, hmu 1 (by decide), tab1_ok h (by simp [laidL]) _⟩
  rcases lk_cons hB' with ⟨rfl, rfl⟩ | ⟨_, hB'⟩
  · exact ⟨rfl, 2, hmu 2 (by decide), tab2_ok h (by simp [laidL]) _⟩
  rcases lk_cons hB' with ⟨rfl, rfl⟩ | ⟨_, hB'⟩
  · exact ⟨rfl, 3, hmu 3 (by decide), tab3_ok h (by simp [laidL]) _⟩
  rcases lk_cons hB' with ⟨rfl, rfl⟩ | ⟨_, hB'⟩
  · exact ⟨rfl, 4, hmu 4 (by decide), tab4_ok h (by simp [laidL]) _⟩
  rcases lk_cons hB' with ⟨rfl, rfl⟩ | ⟨_, hB'⟩
  · exact ⟨hro, b, muH_1000 hG b, hB⟩
  · cases hB'
end
theorem open_act {H : Type} {enc : TypeId × Value → H} {W : World} {base : Nat} {sp : Nat → Bool} {held : Bool} (fuel : Nat) (cs : List Value) (x : DataW H × List MemPlace) (h : DataW.trod enc Tryd.prog W base sp held fuel 34 cs = some x) : ∃ a, Act.ok a ∧ cs = Act.cells a := by
  obtain ⟨a, e0, w0⟩ := trod_cell_int Tryd.underlying34 h (i := 0) rfl Tryd.underlying5 (by kernel_rfl)
  obtain ⟨b, e1, w1⟩ := trod_cell_int Tryd.underlying34 h (i := 1) rfl Tryd.underlying26 (by kernel_rfl)
  obtain ⟨c, e2, w2⟩ := trod_cell_int Tryd.underlying34 h (i := 2) rfl Tryd.underlying5 (by kernel_rfl)
  obtain ⟨d, e3, w3⟩ := trod_cell_int Tryd.underlying34 h (i := 3) rfl Tryd.underlying26 (by kernel_rfl)
  have hl : cs.length = 4 := (trod_len Tryd.underlying34 h).trans (by kernel_rfl)
  match cs, hl with
  | [x0, x1, x2, x3], _ =>
    simp at e0 e1 e2 e3
    subst e0 e1 e2 e3
    exact ⟨⟨a, b, c, d⟩, ⟨wf_u8 w0, wf_u16 w1, wf_u8 w2, wf_u16 w3⟩, rfl⟩
theorem open_acts {H : Type} {enc : TypeId × Value → H} {W : World} {r : Reach} {b0 base : Nat} {sp : Nat → Bool} {held : Bool} {v : Value} {d : DataW H} {p : List MemPlace} (h : laidMet Tryd.prog laidL W)
    (hval : Value.okWide Tryd.prog W r b0 32 v) (hd : DataW.Trod enc Tryd.prog W base sp held 32 v d p) : ∃ (N d : Nat) (g : Nat → Act), (∀ j, Act.ok (g j)) ∧ HandedAt W 4 (fun i => Act.cells (g i)) N d v :=
  open_handed Tryd.underlying32 (by kernel_rfl) (by decide) Act.cells Act.ok ⟨0, 0, 0, 0⟩ ⟨by decide, by decide, by decide, by decide⟩ (fun _ => rfl) open_act (any_cells h) hval hd
theorem open_actsL {H : Type} {enc : TypeId × Value → H} {W : World} {r : Reach} {b0 base : Nat} {sp : Nat → Bool} {held : Bool} {v : Value} {d : DataW H} {p : List MemPlace} (h : laidMet Tryd.prog laidL W)
    (hval : Value.okWide Tryd.prog W r b0 32 v) (hd : DataW.Trod enc Tryd.prog W base sp held 32 v d p) : ∃ (N d : Nat) (g : Nat → Act), ((∀ j, Act.ok (g j)) ∧ N ≤ 9223372036854775807) ∧ HandedAt W 4 (fun i => Act.cells (g i)) N d v := by
  obtain ⟨N, d, g, w, hh⟩ := open_acts h hval hd
  exact ⟨N, d, g, ⟨w, handed_le Tryd.underlying32 hval hd hh⟩, hh⟩
theorem open_bys {H : Type} {enc : TypeId × Value → H} {W : World} {r : Reach} {b0 base : Nat} {sp : Nat → Bool} {held : Bool} {v : Value} {d : DataW H} {p : List MemPlace} (h : laidMet Tryd.prog laidL W)
    (hval : Value.okWide Tryd.prog W r b0 55 v) (hd : DataW.Trod enc Tryd.prog W base sp held 55 v d p) : ∃ (N d : Nat) (f : Nat → Int), (∀ j, rng 256 (f j)) ∧ HandedInts W .u8 f N d v :=
  open_bytes Tryd.underlying55 Tryd.underlying5 (by kernel_rfl) (any_cells h) hval hd
end Go.Proofs.YtgpcfjokmonlgaaDoor
namespace Go.Proofs.YtgpcfjokmonlgaaDoor.VX
open Go IntWalk
def iterS {S : Type} (g : S → S) : Nat → S → S
  | 0, s => s
  | k + 1, s => iterS g k (g s)
theorem iterS_add {S : Type} (g : S → S) : ∀ (a b : Nat) (s : S), iterS g (a + b) s = iterS g b (iterS g a s)
  | 0, b, s => by simp [iterS]
  | a + 1, b, s => by rw [show a + 1 + b = (a + b) + 1 by omega]; simp only [iterS]; exact iterS_add g a b (g s)
theorem iterS_succ {S : Type} (g : S → S) (k : Nat) (s : S) : iterS g (k + 1) s = g (iterS g k s) := by rw [iterS_add g k 1 s]; rfl
theorem iterS_inv {S : Type} {g : S → S} {p : S → Prop} (h : ∀ s, p s → p (g s)) : ∀ (k : Nat) (s : S), p s → p (iterS g k s)
  | 0, _, hs => hs
  | k + 1, s, hs => iterS_inv h k (g s) (h s hs)
theorem iter_for {S R : Type} (g : S → S) (f : Int × S → (Int × S) ⊕ R) (N : Int) (w : Int → Int) (hw : ∀ i, 0 ≤ i → i < N → w (i + 1) = i + 1) (out : S → R)
    (hf : ∀ i s, 0 ≤ i → i < N → f (i, s) = .inl (w (i + 1), g s)) (ho : ∀ s, f (N, s) = .inr (out s)) : ∀ (k : Nat) (i : Int) (s : S), 0 ≤ i → i + k = N → iter f (k + 1) (i, s) = some (out (iterS g k s))
  | 0, i, s, h0, h => by
    have : i = N := by simpa using h
    subst this
    simp [iter, ho, iterS]
  | k + 1, i, s, h0, h => by
    have hlt : i < N := by omega
    rw [iter, hf i s h0 hlt]
    simp only
    rw [hw i h0 hlt]
    exact iter_for g f N w hw out hf ho k (i + 1) (g s) (by omega) (by omega)
theorem loop_for {S R : Type} {rel : Int × S → (Int × S) ⊕ R → Prop} (g : S → S) (N : Int) (p : Int → S → Prop) (hp : ∀ i s, 0 ≤ i → i < N → p i s → p (i + 1) (g s)) (out : S → R)
    (hf : ∀ i s, 0 ≤ i → i < N → p i s → rel (i, s) (.inl (i + 1, g s))) (ho : ∀ s, p N s → rel (N, s) (.inr (out s))) : ∀ (k : Nat) (i : Int) (s : S), 0 ≤ i → i + k = N → p i s → LoopR rel (i, s) (out (iterS g k s))
  | 0, i, s, h0, h, hs => by
    have : i = N := by simpa using h
    subst this
    exact .last (ho s hs)
  | k + 1, i, s, h0, h, hs => by
    have hlt : i < N := by omega
    exact .more (hf i s h0 hlt hs) (loop_for g N p hp out hf ho k (i + 1) (g s) (by omega) (by omega) (hp i s h0 hlt hs))
theorem loop_seq {S R : Type} {rel : S → S ⊕ R → Prop} (st : Nat → S) (n : Nat) (r : R) (hf : ∀ k, k < n → rel (st k) (.inl (st (k + 1)))) (ho : rel (st n) (.inr r)) : LoopR rel (st 0) r := by
  have : ∀ (j k : Nat), k + j = n → LoopR rel (st k) r := by
    intro j
    induction j with
    | zero => intro k h; have : k = n := by omega
              subst this; exact .last ho
    | succ j ih => intro k h; exact .more (hf k (by omega)) (ih (k + 1) (by omega))
  exact this n 0 (by omega)
theorem iter_seq {S R : Type} {f : S → S ⊕ R} (st : Nat → S) (n : Nat) (r : R) (hf : ∀ k, k < n → f (st k) = .inl (st (k + 1))) (ho : f (st n) = .inr r) : iter f (n + 1) (st 0) = some r := by
  have : ∀ (j k : Nat), k + j = n → iter f (j + 1) (st k) = some r := by
    intro j
    induction j with
    | zero => intro k h; have : k = n := by omega
              subst this; simp [iter, ho]
    | succ j ih => intro k h; rw [iter, hf k (by omega)]; exact ih (k + 1) (by omega)
  exact this n 0 (by omega)
section
variable {a : Int} (h : 0 ≤ a ∧ a < 256)
include h
theorem and8_1 : bAnd .u8 a 1 = a % 2 := by have := bAnd_field (k := .u8) rfl 0 1 (m := 1) rfl h.1 h.2 (by decide); simpa using this
theorem and8_3 : bAnd .u8 a 3 = a % 4 := by have := bAnd_field (k := .u8) rfl 0 2 (m := 3) rfl h.1 h.2 (by decide); simpa using this
theorem and8_7 : bAnd .u8 a 7 = a % 8 := by have := bAnd_field (k := .u8) rfl 0 3 (m := 7) rfl h.1 h.2 (by decide); simpa using this
theorem and8_15 : bAnd .u8 a 15 = a % 16 := by have := bAnd_field (k := .u8) rfl 0 4 (m := 15) rfl h.1 h.2 (by decide); simpa using this
theorem and8_127 : bAnd .u8 a 127 = a % 128 := by have := bAnd_field (k := .u8) rfl 0 7 (m := 127) rfl h.1 h.2 (by decide); simpa using this
theorem and8_8 : bAnd .u8 a 8 = a / 8 % 2 * 8 := by have := bAnd_field (k := .u8) rfl 3 1 (m := 8) rfl h.1 h.2 (by decide); simpa using this
theorem and8_16 : bAnd .u8 a 16 = a / 16 % 2 * 16 := by have := bAnd_field (k := .u8) rfl 4 1 (m := 16) rfl h.1 h.2 (by decide); simpa using this
theorem and8_32 : bAnd .u8 a 32 = a / 32 % 2 * 32 := by have := bAnd_field (k := .u8) rfl 5 1 (m := 32) rfl h.1 h.2 (by decide); simpa using this
theorem and8_64 : bAnd .u8 a 64 = a / 64 % 2 * 64 := by have := bAnd_field (k := .u8) rfl 6 1 (m := 64) rfl h.1 h.2 (by decide); simpa using this
theorem and8_128 : bAnd .u8 a 128 = a / 128 % 2 * 128 := by have := bAnd_field (k := .u8) rfl 7 1 (m := 128) rfl h.1 h.2 (by decide); simpa using this
theorem not8_128 : bAndNot .u8 a 128 = a % 128 := by
  rw [bAndNot_eq (k := .u8) rfl h.1 h.2 (by decide) (by decide), and8_128 h]; omega
end
theorem shr8 {k : IntKind} {a : Int} (s : Nat) (hs : s ≤ k.bits) : bShr k a (s : Int) = a / 2 ^ s := by
  unfold bShr
  rw [Int.toNat_natCast, Nat.min_eq_left hs, Int.fdiv_eq_ediv_of_nonneg _ (Int.le_of_lt (Int.pow_pos (by decide)))]
theorem shr8_1 (a : Int) : bShr .u8 a 1 = a / 2 := shr8 (k := .u8) 1 (by decide)
theorem shr8_3 (a : Int) : bShr .u8 a 3 = a / 8 := shr8 (k := .u8) 3 (by decide)
theorem shr8_4 (a : Int) : bShr .u8 a 4 = a / 16 := shr8 (k := .u8) 4 (by decide)
theorem shr8_6 (a : Int) : bShr .u8 a 6 = a / 64 := shr8 (k := .u8) 6 (by decide)
theorem shr16_1 (a : Int) : bShr .u16 a 1 = a / 2 := shr8 (k := .u16) 1 (by decide)
theorem shr16_6 (a : Int) : bShr .u16 a 6 = a / 64 := shr8 (k := .u16) 6 (by decide)
theorem shr16_8 (a : Int) : bShr .u16 a 8 = a / 256 := shr8 (k := .u16) 8 (by decide)
theorem and16_1 {a : Int} (h : 0 ≤ a ∧ a < 65536) : bAnd .u16 a 1 = a % 2 := by have := bAnd_field (k := .u16) rfl 0 1 (m := 1) rfl h.1 h.2 (by decide); simpa using this
theorem and16_255 {a : Int} (h : 0 ≤ a ∧ a < 65536) : bAnd .u16 a 255 = a % 256 := by have := bAnd_field (k := .u16) rfl 0 8 (m := 255) rfl h.1 h.2 (by decide); simpa using this
end Go.Proofs.YtgpcfjokmonlgaaDoor.VX
namespace Go.Proofs.YtgpcfjokmonlgaaDoor
open Go VX IntWalk
open Go.IntKind (i64 u8 u16)
set_option maxRecDepth 100000
set_option linter.unusedSimpArgs false
set_option linter.unusedVariables false
theorem awake_t : (!awake) = false := by decide +kernel
structure MInv (m : Smp) : Prop where
  ok : Smp.ok m
  bits : 1 ≤ m.bits ∧ m.bits ≤ 8
  level : m.level ≤ 127
  left : 0 ≤ m.left ∧ m.left ≤ 4081
def Smp.bit (m : Smp) : Smp := if m.speaks = false then m else
  { m with row := m.row / 2, level := if m.row % 2 = 1 then (if m.level ≤ 125 then m.level + 2 else m.level) else (if 2 ≤ m.level then m.level - 2 else m.level) }
def Smp.begin (m : Smp) : Smp := { m with at_ := 49152 + 64 * m.reg 2, left := 16 * m.reg 3 + 1 }
def Smp.clock (m : Smp) : Smp := if 0 < m.timer then { m with timer := m.timer - 1 } else
  if 1 < m.bits then { m.bit with timer := ratesT (m.reg 0 % 16).toNat - 1, bits := m.bits - 1 }
  else if m.waits = true then { m.bit with timer := ratesT (m.reg 0 % 16).toNat - 1, bits := 8, speaks := true, row := m.next, waits := false }
  else { m.bit with timer := ratesT (m.reg 0 % 16).toNat - 1, bits := 8, speaks := false }
def Smp.give (m : Smp) (b : Int) : Smp := if m.waits = true ∨ m.left ≤ 0 then m else
  if 1 < m.left then { m with next := b, waits := true, at_ := if m.at_ = 65535 then 32768 else m.at_ + 1, left := m.left - 1 }
  else if m.reg 0 / 64 % 2 = 1 then { m with next := b, waits := true, at_ := 49152 + 64 * m.reg 2, left := 16 * m.reg 3 + 1 }
  else if m.reg 0 / 128 % 2 = 1 then { m with next := b, waits := true, at_ := if m.at_ = 65535 then 32768 else m.at_ + 1, left := 0, irq := true }
  else { m with next := b, waits := true, at_ := if m.at_ = 65535 then 32768 else m.at_ + 1, left := 0 }
def Smp.enable (m : Smp) (on : Bool) : Smp := if on = true then (if m.left = 0 then { m.begin with irq := false } else { m with irq := false }) else { m with left := 0, irq := false }
theorem beg_eq (s : Snd) (h : MInv s.sample) : mBegin s = { s with sample := s.sample.begin } := by
  have h2 := h.ok.reg 2
  have h3 := h.ok.reg 3
  unfold rng at h2 h3
  unfold mBegin Smp.begin
  rw [u16_in (s.sample.reg 2) (by omega), u16_in (64 * s.sample.reg 2) (by omega), u16_in (49152 + _) (by omega), i64_in (s.sample.reg 3) (by omega), i64_in (16 * s.sample.reg 3) (by omega), i64_in (16 * s.sample.reg 3 + 1) (by omega)]
theorem bit_eq (s : Snd) (h : MInv s.sample) : mBit s = { s with sample := s.sample.bit } := by
  have hr := h.ok.row
  have hl := h.ok.level
  have hl2 := h.level
  unfold rng at hr hl
  unfold mBit Smp.bit
  rw [and8_1 hr, shr8_1]
  cases hs : s.sample.speaks with
  | false => simp
  | true =>
    by_cases hb : s.sample.row % 2 = 1
    · by_cases hc : s.sample.level ≤ 125
      · simp [hs, hb, hc, u8_in (s.sample.level + 2) (by omega)]
      · simp [hs, hb, hc]
    · have hb0 : s.sample.row % 2 = 0 := by omega
      by_cases hc : 2 ≤ s.sample.level
      · simp [hs, hb0, hc, u8_in (s.sample.level - 2) (by omega)]
      · simp [hs, hb0, hc]
theorem rates_pos (n : Nat) (h : n < 16) : 54 ≤ ratesT n ∧ ratesT n ≤ 428 := by
  have : ∀ n : Fin 16, 54 ≤ ratesT n.val ∧ ratesT n.val ≤ 428 := by decide +kernel
  exact this ⟨n, h⟩
theorem bit_inv {m : Smp} (h : MInv m) : MInv m.bit := by
  have hr := h.ok.row
  have hl := h.ok.level
  have hl2 := h.level
  unfold rng at hr hl
  unfold Smp.bit
  split
  · exact h
  · refine ⟨⟨h.ok.reg, ?_, h.ok.next, ?_, h.ok.bits, h.ok.timer, h.ok.at_⟩, h.bits, ?_, h.left⟩
    · show rng 256 (if m.row % 2 = 1 then (if m.level ≤ 125 then m.level + 2 else m.level) else (if 2 ≤ m.level then m.level - 2 else m.level))
      unfold rng; repeat' split
      all_goals omega
    · show rng 256 (m.row / 2)
      unfold rng; omega
    · show (if m.row % 2 = 1 then (if m.level ≤ 125 then m.level + 2 else m.level) else (if 2 ≤ m.level then m.level - 2 else m.level)) ≤ (127 : Int)
      repeat' split
      all_goals omega
theorem bit_same (m : Smp) : m.bit.reg = m.reg ∧ m.bit.next = m.next ∧ m.bit.waits = m.waits ∧ m.bit.bits = m.bits ∧ m.bit.speaks = m.speaks ∧ m.bit.timer = m.timer ∧ m.bit.at_ = m.at_ ∧ m.bit.left = m.left ∧ m.bit.irq = m.irq := by
  unfold Smp.bit; split <;> simp
theorem mclk_eq (s : Snd) (h : MInv s.sample) : mClock s = { s with sample := s.sample.clock } := by
  have ht := h.ok.timer
  have h0 := h.ok.reg 0
  have hb := h.bits
  have hp := rates_pos (s.sample.reg 0 % 16).toNat (by omega)
  unfold rng at ht h0
  unfold mClock Smp.clock
  by_cases c : 0 < s.sample.timer
  · simp [c, u16_in (s.sample.timer - 1) (by omega)]
  rw [and8_15 h0, u16_in (ratesT (s.sample.reg 0 % 16).toNat - 1) (by omega)]
  have hk : MInv ({ s with sample := ({ s.sample with timer := ratesT (s.sample.reg 0 % 16).toNat - 1 } : Smp) } : Snd).sample := ⟨⟨h.ok.reg, h.ok.level, h.ok.next, h.ok.row, h.ok.bits, (by show rng 65536 (ratesT (s.sample.reg 0 % 16).toNat - 1); unfold rng; omega), h.ok.at_⟩, h.bits, h.level, h.left⟩
  rw [bit_eq _ hk]
  have e1 : (({ s.sample with timer := ratesT (s.sample.reg 0 % 16).toNat - 1 } : Smp)).bit = { s.sample.bit with timer := ratesT (s.sample.reg 0 % 16).toNat - 1 } := by
    unfold Smp.bit
    simp only
    split <;> rfl
  simp only [e1]
  obtain ⟨b1, b2, b3, b4, b5, b6, b7, b8, b9⟩ := bit_same s.sample
  rw [b4, b3, b2, u8_in (s.sample.bits - 1) (by omega)]
  by_cases c1 : 1 < s.sample.bits
  · have c2 : 0 < s.sample.bits - 1 := by omega
    simp [c, c1, c2]
  · have c2 : ¬ 0 < s.sample.bits - 1 := by omega
    cases hw : s.sample.waits <;> simp [c, c1, c2, hw]
theorem mclk_inv {m : Smp} (h : MInv m) : MInv m.clock := by
  have ht := h.ok.timer
  have h0 := h.ok.reg 0
  have hb := h.bits
  have hp := rates_pos (m.reg 0 % 16).toNat (by omega)
  have hi := bit_inv h
  unfold rng at ht h0
  have hT : rng 65536 (ratesT (m.reg 0 % 16).toNat - 1) := by unfold rng; omega
  unfold Smp.clock
  split
  · exact ⟨⟨h.ok.reg, h.ok.level, h.ok.next, h.ok.row, h.ok.bits, (by show rng 65536 (m.timer - 1); unfold rng; omega), h.ok.at_⟩, h.bits, h.level, h.left⟩
  split
  · exact ⟨⟨hi.ok.reg, hi.ok.level, hi.ok.next, hi.ok.row, (by show rng 256 (m.bits - 1); unfold rng; omega), hT, hi.ok.at_⟩, (by show 1 ≤ m.bits - 1 ∧ m.bits - 1 ≤ 8; omega), hi.level, hi.left⟩
  split
  · exact ⟨⟨hi.ok.reg, hi.ok.level, hi.ok.next, h.ok.next, (by show rng 256 8; decide), hT, hi.ok.at_⟩, (by show (1 : Int) ≤ 8 ∧ (8 : Int) ≤ 8; omega), hi.level, hi.left⟩
  · exact ⟨⟨hi.ok.reg, hi.ok.level, hi.ok.next, hi.ok.row, (by show rng 256 8; decide), hT, hi.ok.at_⟩, (by show (1 : Int) ≤ 8 ∧ (8 : Int) ≤ 8; omega), hi.level, hi.left⟩
theorem asks_eq (s : Snd) : mAsks s = decide (s.sample.waits = false ∧ 0 < s.sample.left) := by
  unfold mAsks
  cases s.sample.waits <;> simp
theorem give_eq (s : Snd) (b : Int) (h : MInv s.sample) (hb : rng 256 b) : sGive s b = { s with sample := s.sample.give b } := by
  have ha := h.ok.at_
  have h0 := h.ok.reg 0
  have hl := h.left
  unfold rng at ha h0
  show mGive s b = _
  unfold mGive Smp.give
  rw [asks_eq, and8_64 h0, and8_128 h0, i64_in (s.sample.left - 1) (by omega)]
  by_cases c0 : s.sample.waits = true ∨ s.sample.left ≤ 0
  · have c0' : ¬ (s.sample.waits = false ∧ 0 < s.sample.left) := by
      rintro ⟨q1, q2⟩; rcases c0 with c0 | c0
      · rw [q1] at c0; cases c0
      · omega
    simp [c0, c0']
  have c0' : s.sample.waits = false ∧ 0 < s.sample.left := by
    constructor
    · cases hw : s.sample.waits with
      | false => rfl
      | true => exact absurd (.inl hw) c0
    · exact Int.not_le.1 fun q => c0 (.inr q)
  rw [if_neg c0, if_neg (by simp [c0'])]
  have hinner : ∀ a : Int, rng 65536 a → rng 256 b →
      (if decide (s.sample.left - 1 > 0) = true then
        ({ s with sample := ({ s.sample with next := b, waits := true, at_ := a, left := s.sample.left - 1 } : Smp) } : Snd)
      else if (((s.sample.reg 0 / 64 % 2 * 64) : Int) != 0) = true then
          (mBegin ({ s with sample := ({ s.sample with next := b, waits := true, at_ := a, left := s.sample.left - 1 } : Smp) } : Snd))
        else
          if (((s.sample.reg 0 / 128 % 2 * 128) : Int) != 0) = true then
            ({ s with sample := ({ s.sample with next := b, waits := true, at_ := a, left := s.sample.left - 1, irq := true } : Smp) } : Snd)
          else
            ({ s with sample := ({ s.sample with next := b, waits := true, at_ := a, left := s.sample.left - 1 } : Smp) } : Snd)) =
      ({ s with sample := (if 1 < s.sample.left then { s.sample with next := b, waits := true, at_ := a, left := s.sample.left - 1 }
        else if s.sample.reg 0 / 64 % 2 = 1 then { s.sample with next := b, waits := true, at_ := 49152 + 64 * s.sample.reg 2, left := 16 * s.sample.reg 3 + 1 }
        else if s.sample.reg 0 / 128 % 2 = 1 then { s.sample with next := b, waits := true, at_ := a, left := 0, irq := true }
        else { s.sample with next := b, waits := true, at_ := a, left := 0 }) } : Snd) := by
    intro a ra rb
    by_cases c1 : 1 < s.sample.left
    · rw [if_pos (by simp; omega), if_pos c1]
    rw [if_neg (by simp; omega), if_neg c1]
    have e1 : s.sample.left - 1 = 0 := by omega
    rw [e1]
    by_cases c2 : s.sample.reg 0 / 64 % 2 = 1
    · rw [if_pos (by simp [c2]), if_pos c2, beg_eq ({ s with sample := ({ s.sample with next := b, waits := true, at_ := a, left := 0 } : Smp) } : Snd) ⟨⟨h.ok.reg, h.ok.level, rb, h.ok.row, h.ok.bits, h.ok.timer, ra⟩, h.bits, h.level, (by show (0 : Int) ≤ 0 ∧ (0 : Int) ≤ 4081; omega)⟩]
      rfl
    rw [if_neg (by simp; omega), if_neg c2]
    by_cases c3 : s.sample.reg 0 / 128 % 2 = 1
    · rw [if_pos (by simp [c3]), if_pos c3]
    · rw [if_neg (by simp; omega), if_neg c3]
  by_cases q : s.sample.at_ = 65535
  · have e : (u16.wrap (s.sample.at_ + 1)) = 0 := by rw [q]; decide
    have e0 : ((0 : Int) == 0) = true := by decide
    rw [e, if_pos e0, hinner 32768 (by decide) hb]
    simp only [q, if_true]
  · rw [u16_in (s.sample.at_ + 1) (by omega), if_neg (by simp; omega), hinner (s.sample.at_ + 1) (by unfold rng; omega) hb]
    simp only [if_neg q]
theorem give_inv {m : Smp} (h : MInv m) {b : Int} (hb : rng 256 b) : MInv (m.give b) := by
  have ha := h.ok.at_
  have h2 := h.ok.reg 2
  have h3 := h.ok.reg 3
  have hl := h.left
  unfold rng at ha h2 h3
  have hA : rng 65536 (if m.at_ = 65535 then 32768 else m.at_ + 1) := by unfold rng; split <;> omega
  have hB : rng 65536 (49152 + 64 * m.reg 2) := by unfold rng; omega
  unfold Smp.give
  split
  · exact h
  split
  · exact ⟨⟨h.ok.reg, h.ok.level, hb, h.ok.row, h.ok.bits, h.ok.timer, hA⟩, h.bits, h.level, (by show 0 ≤ m.left - 1 ∧ m.left - 1 ≤ 4081; omega)⟩
  split
  · exact ⟨⟨h.ok.reg, h.ok.level, hb, h.ok.row, h.ok.bits, h.ok.timer, hB⟩, h.bits, h.level, (by show 0 ≤ 16 * m.reg 3 + 1 ∧ 16 * m.reg 3 + 1 ≤ 4081; omega)⟩
  split
  · exact ⟨⟨h.ok.reg, h.ok.level, hb, h.ok.row, h.ok.bits, h.ok.timer, hA⟩, h.bits, h.level, (by show (0 : Int) ≤ 0 ∧ (0 : Int) ≤ 4081; omega)⟩
  · exact ⟨⟨h.ok.reg, h.ok.level, hb, h.ok.row, h.ok.bits, h.ok.timer, hA⟩, h.bits, h.level, (by show (0 : Int) ≤ 0 ∧ (0 : Int) ≤ 4081; omega)⟩
theorem beg_inv {m : Smp} (h : MInv m) : MInv m.begin := by
  have h2 := h.ok.reg 2
  have h3 := h.ok.reg 3
  unfold rng at h2 h3
  exact ⟨⟨h.ok.reg, h.ok.level, h.ok.next, h.ok.row, h.ok.bits, h.ok.timer, (by show rng 65536 (49152 + 64 * m.reg 2); unfold rng; omega)⟩, h.bits, h.level, (by show 0 ≤ 16 * m.reg 3 + 1 ∧ 16 * m.reg 3 + 1 ≤ 4081; omega)⟩
theorem enable_eq (s : Snd) (on : Bool) (h : MInv s.sample) : mEnable s on = { s with sample := s.sample.enable on } := by
  unfold mEnable Smp.enable
  cases on
  · simp
  · by_cases c : s.sample.left = 0
    · rw [if_neg (by simp), if_pos (by simpa using c), beg_eq ({ s with sample := ({ s.sample with irq := false } : Smp) } : Snd) ⟨⟨h.ok.reg, h.ok.level, h.ok.next, h.ok.row, h.ok.bits, h.ok.timer, h.ok.at_⟩, h.bits, h.level, h.left⟩]
      simp [c, Smp.begin]
    · simp [c]
theorem enable_inv {m : Smp} (h : MInv m) (on : Bool) : MInv (m.enable on) := by
  unfold Smp.enable
  split
  · split
    · have := beg_inv h
      exact ⟨⟨this.ok.reg, this.ok.level, this.ok.next, this.ok.row, this.ok.bits, this.ok.timer, this.ok.at_⟩, this.bits, this.level, this.left⟩
    · exact ⟨⟨h.ok.reg, h.ok.level, h.ok.next, h.ok.row, h.ok.bits, h.ok.timer, h.ok.at_⟩, h.bits, h.level, h.left⟩
  · exact ⟨⟨h.ok.reg, h.ok.level, h.ok.next, h.ok.row, h.ok.bits, h.ok.timer, h.ok.at_⟩, h.bits, h.level, (by show (0 : Int) ≤ 0 ∧ (0 : Int) ≤ 4081; omega)⟩
def Smp.put (m : Smp) (r : Nat) (b : Int) : Smp :=
  if r = 0 then { m with reg := upd m.reg 0 b, irq := m.irq && decide (b / 128 % 2 = 1) }
  else if r = 1 then { m with reg := upd m.reg 1 b, level := b % 128 }
  else { m with reg := upd m.reg r b }
theorem mput_inv {m : Smp} (h : MInv m) (r : Nat) {b : Int} (hb : rng 256 b) : MInv (m.put r b) := by
  have hb' := hb
  unfold rng at hb'
  unfold Smp.put
  split
  · exact ⟨⟨rng_upd h.ok.reg _ hb, h.ok.level, h.ok.next, h.ok.row, h.ok.bits, h.ok.timer, h.ok.at_⟩, h.bits, h.level, h.left⟩
  split
  · exact ⟨⟨rng_upd h.ok.reg _ hb, (by show rng 256 (b % 128); unfold rng; omega), h.ok.next, h.ok.row, h.ok.bits, h.ok.timer, h.ok.at_⟩, h.bits, (by show b % 128 ≤ 127; omega), h.left⟩
  · exact ⟨⟨rng_upd h.ok.reg _ hb, h.ok.level, h.ok.next, h.ok.row, h.ok.bits, h.ok.timer, h.ok.at_⟩, h.bits, h.level, h.left⟩
theorem mput_eq (s : Snd) (b : Int) (hb : rng 256 b) : mPut_0 s b = { s with sample := s.sample.put 0 b } ∧ mPut_1 s b = { s with sample := s.sample.put 1 b } ∧ mPut_2 s b = { s with sample := s.sample.put 2 b } ∧ mPut_3 s b = { s with sample := s.sample.put 3 b } := by
  refine ⟨?_, ?_, rfl, rfl⟩
  · unfold mPut_0 Smp.put
    rw [and8_128 hb]
    have e : ((b / 128 % 2 * 128 : Int) != 0) = decide (b / 128 % 2 = 1) := by
      by_cases c : b / 128 % 2 = 1
      · simp [c]
      · have : b / 128 % 2 = 0 := by omega
        simp [this]
    rw [e]
    cases s.sample.irq <;> simp
  · unfold mPut_1 Smp.put
    rw [and8_127 hb]
    simp
def lastC (s : Snd) : Int := if s.manner = 1 then 37281 else 29829
def beat (s : Snd) (t : Tone) : Tone :=
  if s.count + 1 = 14913 ∨ s.count + 1 = lastC s then tHalf (tQuarter t) else if s.count + 1 = 7457 ∨ s.count + 1 = 22371 then tQuarter t else t
def tickS (s : Snd) : Snd :=
  { s with tones_0 := beat s s.tones_0, tones_1 := beat s s.tones_1, tones_2 := beat s s.tones_2, tones_3 := beat s s.tones_3,
           count := if s.count + 1 > lastC s then 0 else s.count + 1, irq := s.irq || (decide (s.count + 1 = 29829) && decide (s.manner = 0) && !s.bars) }
theorem tick_eq (s : Snd) (hm : Man s) (hc : 0 ≤ s.count ∧ s.count ≤ lastC s) : sTick s = tickS s := by
  have hl : lastC s ≤ 37281 := by unfold lastC; split <;> omega
  have e : i64.wrap (s.count + 1) = s.count + 1 := i64_in _ (by omega)
  unfold sTick tickS beat
  rcases hm with hm | hm
  · have hL : lastC s = 29829 := by unfold lastC; rw [if_neg (by omega)]
    rw [if_neg (by omega), hL]
    unfold sTick_0
    rw [e]
    by_cases h1 : s.count + 1 = 7457
    · cases hi : s.irq <;> simp [h1]
    by_cases h2 : s.count + 1 = 14913
    · cases hi : s.irq <;> simp [h2]
    by_cases h3 : s.count + 1 = 22371
    · cases hi : s.irq <;> simp [h3]
    by_cases h4 : s.count + 1 = 29829
    · cases hi : s.irq <;> simp [h4, hm]
    · have b1 : (s.count + 1 != 7457) = true := by simpa using h1
      have b2 : (s.count + 1 != 14913) = true := by simpa using h2
      have b3 : (s.count + 1 != 22371) = true := by simpa using h3
      have b4 : (s.count + 1 != 29829) = true := by simpa using h4
      rw [if_pos b1, if_pos b2, if_pos b3, if_pos b4]
      simp only [h1, h2, h3, h4, or_self, if_false, decide_false, Bool.false_and, Bool.or_false]
      by_cases h5 : s.count + 1 > 29829
      · rw [if_pos (by simpa using h5), if_pos h5]
      · rw [if_neg (by simpa using h5), if_neg h5]
  · have hL : lastC s = 37281 := by unfold lastC; rw [if_pos hm]
    rw [if_pos hm, hL]
    unfold sTick_1
    rw [e]
    have h0 : decide (s.manner = 0) = false := by simp; omega
    rw [h0]
    simp only [Bool.and_false, Bool.false_and, Bool.or_false]
    by_cases h1 : s.count + 1 = 7457
    · cases hi : s.irq <;> simp [h1]
    by_cases h2 : s.count + 1 = 14913
    · cases hi : s.irq <;> simp [h2]
    by_cases h3 : s.count + 1 = 22371
    · cases hi : s.irq <;> simp [h3]
    by_cases h4 : s.count + 1 = 37281
    · cases hi : s.irq <;> simp [h4]
    · have b1 : (s.count + 1 != 7457) = true := by simpa using h1
      have b2 : (s.count + 1 != 14913) = true := by simpa using h2
      have b3 : (s.count + 1 != 22371) = true := by simpa using h3
      have b4 : (s.count + 1 != 37281) = true := by simpa using h4
      rw [if_pos b1, if_pos b2, if_pos b3, if_pos b4]
      simp only [h1, h2, h3, h4, or_self, if_false]
      by_cases h5 : s.count + 1 > 37281
      · rw [if_pos (by simpa using h5), if_pos h5]
      · rw [if_neg (by simpa using h5), if_neg h5]
def clockS (s : Snd) : Snd :=
  { tickS s with tones_0 := if s.even = true then tClock (beat s s.tones_0) else beat s s.tones_0, tones_1 := if s.even = true then tClock (beat s s.tones_1) else beat s s.tones_1,
                 tones_2 := tClock (beat s s.tones_2), tones_3 := tClock (beat s s.tones_3), even := !s.even, sample := s.sample.clock }
theorem clock_eq (s : Snd) (hm : Man s) (hc : 0 ≤ s.count ∧ s.count ≤ lastC s) (h : MInv s.sample) : sClock s = clockS s := by
  unfold sClock clockS
  rw [tick_eq s hm hc]
  have e : (tickS s).even = s.even := rfl
  rw [e]
  cases s.even with
  | true =>
    rw [if_pos rfl]
    refine (mclk_eq _ ?_).trans ?_
    · exact h
    · rfl
  | false =>
    rw [if_neg (by decide)]
    refine (mclk_eq _ ?_).trans ?_
    · exact h
    · rfl
end Go.Proofs.YtgpcfjokmonlgaaDoor
namespace Go.Proofs.YtgpcfjokmonlgaaDoor
open Go VX IntWalk
set_option maxRecDepth 100000
set_option linter.unusedSimpArgs false
set_option linter.unusedVariables false
def tPutN (r : Nat) (t : Tone) (b : Int) : Tone := if r = 0 then tPut_0 t b else if r = 1 then tPut_1 t b else if r = 2 then tPut_2 t b else tPut_3 t b
def enS (s : Snd) (b : Int) : Snd :=
  { s with tones_0 := tEnable s.tones_0 (decide (b % 2 = 1)), tones_1 := tEnable s.tones_1 (decide (b / 2 % 2 = 1)), tones_2 := tEnable s.tones_2 (decide (b / 4 % 2 = 1)), tones_3 := tEnable s.tones_3 (decide (b / 8 % 2 = 1)),
           sample := s.sample.enable (decide (b / 16 % 2 = 1)) }
def reT (b : Int) (t : Tone) : Tone := if b / 128 % 2 = 1 then tHalf (tQuarter t) else t
def reS (s : Snd) (b : Int) : Snd :=
  { s with tones_0 := reT b s.tones_0, tones_1 := reT b s.tones_1, tones_2 := reT b s.tones_2, tones_3 := reT b s.tones_3,
           count := 0, manner := if b / 128 % 2 = 1 then 1 else 0, bars := decide (b / 64 % 2 = 1), irq := s.irq && !decide (b / 64 % 2 = 1) }
theorem bitd (x : Int) (m : Int) (hm : m ≠ 0) : ((x % 2 * m : Int) != 0) = decide (x % 2 = 1) := by
  by_cases c : x % 2 = 1
  · rw [c]; simp [hm]
  · have : x % 2 = 0 := by omega
    rw [this]; simp
theorem restart_eq (s : Snd) (b : Int) (hb : rng 256 b) : sRestart s b = reS s b := by
  unfold sRestart reS reT
  rw [and8_128 hb, and8_64 hb, bitd (b / 64) 64 (by decide), bitd (b / 128) 128 (by decide)]
  by_cases c : b / 128 % 2 = 1
  · cases hi : s.irq <;> simp [c]
  · cases hi : s.irq <;> simp [c]
theorem shb (b : Int) (hb : rng 256 b) (k : Nat) (hk : k < 8) : ((bAnd .u8 (bShr .u8 b (k : Int)) 1 : Int) != 0) = decide (b / 2 ^ k % 2 = 1) := by
  have h : bShr .u8 b (k : Int) = b / 2 ^ k := shr8 (k := .u8) k (by show k ≤ 8; omega)
  have h0 : 0 ≤ b / 2 ^ k := Int.ediv_nonneg hb.1 (Int.le_of_lt (Int.pow_pos (by decide)))
  have h1 : b / 2 ^ k ≤ b := Int.ediv_le_self _ hb.1
  have hb2 := hb.2
  rw [h, and8_1 ⟨h0, by omega⟩]
  have := bitd (b / 2 ^ k) 1 (by decide)
  rw [Int.mul_one] at this
  exact this
theorem en_eq (s : Snd) (b : Int) (h : MInv s.sample) (hb : rng 256 b) : sPut_21 s b = enS s b := by
  unfold sPut_21 enS
  have e0 := shb b hb 0 (by decide)
  have e1 := shb b hb 1 (by decide)
  have e2 := shb b hb 2 (by decide)
  have e3 := shb b hb 3 (by decide)
  simp only [Int.pow_zero, Int.ediv_one, Int.cast_ofNat_Int] at e0 e1 e2 e3
  rw [show (2 : Int) ^ 1 = 2 by decide] at e1
  rw [show (2 : Int) ^ 2 = 4 by decide] at e2
  rw [show (2 : Int) ^ 3 = 8 by decide] at e3
  rw [e0, e1, e2, e3, and8_16 hb, bitd (b / 16) 16 (by decide)]
  refine (enable_eq _ _ ?_).trans ?_
  · exact h
  · rfl
theorem put_ind {P : Snd → Prop} (s : Snd) (at_ b : Int) (hm : MInv s.sample) (hb : rng 256 b)
    (no : (at_ < 16384 ∨ 16407 < at_ ∨ at_ = 16404 ∨ at_ = 16406) → P s)
    (t0 : ∀ r : Nat, r < 4 → at_ = 16384 + r → P { s with tones_0 := tPutN r s.tones_0 b })
    (t1 : ∀ r : Nat, r < 4 → at_ = 16388 + r → P { s with tones_1 := tPutN r s.tones_1 b })
    (t2 : ∀ r : Nat, r < 4 → at_ = 16392 + r → P { s with tones_2 := tPutN r s.tones_2 b })
    (t3 : ∀ r : Nat, r < 4 → at_ = 16396 + r → P { s with tones_3 := tPutN r s.tones_3 b })
    (m : ∀ r : Nat, r < 4 → at_ = 16400 + r → P { s with sample := s.sample.put r b })
    (en : at_ = 16405 → P (enS s b)) (re : at_ = 16407 → P (reS s b)) : P (sPut s at_ b) := by
  have hmp := mput_eq s b hb
  unfold sPut
  split
  · rename_i h
    obtain h | h | h | h | h | h | h | h | h | h | h | h | h | h | h | h | h | h | h | h | h | h | h | h := (show at_ = 16384 ∨ at_ = 16385 ∨ at_ = 16386 ∨ at_ = 16387 ∨ at_ = 16388 ∨ at_ = 16389 ∨ at_ = 16390 ∨ at_ = 16391 ∨ at_ = 16392 ∨ at_ = 16393 ∨ at_ = 16394 ∨ at_ = 16395 ∨ at_ = 16396 ∨ at_ = 16397 ∨ at_ = 16398 ∨ at_ = 16399 ∨ at_ = 16400 ∨ at_ = 16401 ∨ at_ = 16402 ∨ at_ = 16403 ∨ at_ = 16404 ∨ at_ = 16405 ∨ at_ = 16406 ∨ at_ = 16407 by omega)
    · have := t0 0 (by decide) (by omega); subst h; exact this
    · have := t0 1 (by decide) (by omega); subst h; exact this
    · have := t0 2 (by decide) (by omega); subst h; exact this
    · have := t0 3 (by decide) (by omega); subst h; exact this
    · have := t1 0 (by decide) (by omega); subst h; exact this
    · have := t1 1 (by decide) (by omega); subst h; exact this
    · have := t1 2 (by decide) (by omega); subst h; exact this
    · have := t1 3 (by decide) (by omega); subst h; exact this
    · have := t2 0 (by decide) (by omega); subst h; exact this
    · have := t2 1 (by decide) (by omega); subst h; exact this
    · have := t2 2 (by decide) (by omega); subst h; exact this
    · have := t2 3 (by decide) (by omega); subst h; exact this
    · have := t3 0 (by decide) (by omega); subst h; exact this
    · have := t3 1 (by decide) (by omega); subst h; exact this
    · have := t3 2 (by decide) (by omega); subst h; exact this
    · have := t3 3 (by decide) (by omega); subst h; exact this
    · have := m 0 (by decide) (by omega); subst h; show P (mPut_0 s b); rw [hmp.1]; exact this
    · have := m 1 (by decide) (by omega); subst h; show P (mPut_1 s b); rw [hmp.2.1]; exact this
    · have := m 2 (by decide) (by omega); subst h; show P (mPut_2 s b); rw [hmp.2.2.1]; exact this
    · have := m 3 (by decide) (by omega); subst h; show P (mPut_3 s b); rw [hmp.2.2.2]; exact this
    · have := no (by omega); subst h; exact this
    · have := en h; subst h; show P (sPut_21 s b); rw [en_eq s b hm hb]; exact this
    · have := no (by omega); subst h; exact this
    · have := re h; subst h; show P (sRestart s b); rw [restart_eq s b hb]; exact this
  · exact no (by omega)
structure ClC (p : Int → Tone → Prop) : Prop where
  ok : ∀ k t, p k t → Tone.ok t
  q : ∀ k t, p k t → p k (tQuarter t)
  h : ∀ k t, p k t → p k (tHalf t)
  c : ∀ k t, p k t → p k (tClock t)
structure Cl (p : Int → Tone → Prop) : Prop extends ClC p where
  put : ∀ k t r b, r < 4 → rng 256 b → p k t → p k (tPutN r t b)
  en : ∀ k t on, p k t → p k (tEnable t on)
def CInv (s : Snd) : Prop := Man s ∧ 0 ≤ s.count ∧ s.count ≤ lastC s
structure SInv (p : Int → Tone → Prop) (s : Snd) : Prop where
  t0 : p 0 s.tones_0
  t1 : p 1 s.tones_1
  t2 : p 2 s.tones_2
  t3 : p 3 s.tones_3
  m : MInv s.sample
  c : CInv s
theorem SInv.ok {p : Int → Tone → Prop} (cl : ClC p) {s : Snd} (h : SInv p s) : Snd.ok s := ⟨cl.ok _ _ h.t0, cl.ok _ _ h.t1, cl.ok _ _ h.t2, cl.ok _ _ h.t3, h.m.ok⟩
theorem man_cases {s : Snd} (h : Man s) : (s.manner = 0 ∧ lastC s = 29829) ∨ (s.manner = 1 ∧ lastC s = 37281) := by
  rcases h with h | h
  · exact .inl ⟨h, by unfold lastC; rw [if_neg (by omega)]⟩
  · exact .inr ⟨h, by unfold lastC; rw [if_pos h]⟩
theorem cinv_clock {s : Snd} (h : CInv s) : CInv (clockS s) := by
  obtain ⟨hm, h0, h1⟩ := h
  have hl : 29829 ≤ lastC s := by rcases man_cases hm with ⟨_, e⟩ | ⟨_, e⟩ <;> rw [e] <;> decide
  refine ⟨hm, ?_, ?_⟩
  · show 0 ≤ if s.count + 1 > lastC s then 0 else s.count + 1
    split <;> omega
  · show (if s.count + 1 > lastC s then 0 else s.count + 1) ≤ lastC s
    split <;> omega
theorem beat_p {p : Int → Tone → Prop} (cl : ClC p) (s : Snd) (k : Int) (t : Tone) (h : p k t) : p k (beat s t) := by
  unfold beat
  split
  · exact cl.h _ _ (cl.q _ _ h)
  split
  · exact cl.q _ _ h
  · exact h
theorem sinv_clock {p : Int → Tone → Prop} (cl : ClC p) {s : Snd} (h : SInv p s) : sClock s = clockS s ∧ SInv p (sClock s) := by
  have e := clock_eq s h.c.1 h.c.2 h.m
  refine ⟨e, ?_⟩
  rw [e]
  refine ⟨?_, ?_, cl.c _ _ (beat_p cl s _ _ h.t2), cl.c _ _ (beat_p cl s _ _ h.t3), mclk_inv h.m, cinv_clock h.c⟩
  · show p 0 (if s.even = true then tClock (beat s s.tones_0) else beat s s.tones_0)
    split
    · exact cl.c _ _ (beat_p cl s _ _ h.t0)
    · exact beat_p cl s _ _ h.t0
  · show p 1 (if s.even = true then tClock (beat s s.tones_1) else beat s s.tones_1)
    split
    · exact cl.c _ _ (beat_p cl s _ _ h.t1)
    · exact beat_p cl s _ _ h.t1
theorem cinv_re (s : Snd) (b : Int) : CInv (reS s b) := by
  unfold CInv Man lastC reS
  by_cases c : b / 128 % 2 = 1 <;> simp [c]
theorem re_p {p : Int → Tone → Prop} (cl : ClC p) (b : Int) (k : Int) (t : Tone) (h : p k t) : p k (reT b t) := by
  unfold reT
  split
  · exact cl.h _ _ (cl.q _ _ h)
  · exact h
theorem sinv_re {p : Int → Tone → Prop} (cl : ClC p) {s : Snd} (h : SInv p s) (b : Int) : SInv p (reS s b) :=
  ⟨re_p cl b _ _ h.t0, re_p cl b _ _ h.t1, re_p cl b _ _ h.t2, re_p cl b _ _ h.t3, h.m, cinv_re s b⟩
theorem sinv_give {p : Int → Tone → Prop} {s : Snd} (h : SInv p s) {b : Int} (hb : rng 256 b) : SInv p (sGive s b) := by
  rw [give_eq s b h.m hb]
  exact ⟨h.t0, h.t1, h.t2, h.t3, give_inv h.m hb, h.c⟩
theorem sinv_get {p : Int → Tone → Prop} {s : Snd} (h : SInv p s) : SInv p (sGet s).1 := ⟨h.t0, h.t1, h.t2, h.t3, h.m, h.c⟩
theorem sinv_put {p : Int → Tone → Prop} (cl : Cl p) {s : Snd} (h : SInv p s) (at_ : Int) {b : Int} (hb : rng 256 b) : SInv p (sPut s at_ b) := by
  refine put_ind s at_ b h.m hb (fun _ => h) (fun r hr _ => ?_) (fun r hr _ => ?_) (fun r hr _ => ?_) (fun r hr _ => ?_) (fun r hr _ => ?_) (fun _ => ?_) (fun _ => ?_)
  · exact ⟨cl.put _ _ _ _ hr hb h.t0, h.t1, h.t2, h.t3, h.m, h.c⟩
  · exact ⟨h.t0, cl.put _ _ _ _ hr hb h.t1, h.t2, h.t3, h.m, h.c⟩
  · exact ⟨h.t0, h.t1, cl.put _ _ _ _ hr hb h.t2, h.t3, h.m, h.c⟩
  · exact ⟨h.t0, h.t1, h.t2, cl.put _ _ _ _ hr hb h.t3, h.m, h.c⟩
  · exact ⟨h.t0, h.t1, h.t2, h.t3, mput_inv h.m r hb, h.c⟩
  · exact ⟨cl.en _ _ _ h.t0, cl.en _ _ _ h.t1, cl.en _ _ _ h.t2, cl.en _ _ _ h.t3, enable_inv h.m _, h.c⟩
  · exact sinv_re cl.toClC h b
theorem new_minv : MInv sNew.sample := ⟨sNew_w.sample, by decide, by decide, by decide⟩
theorem new_cinv : CInv sNew := ⟨.inl rfl, by decide, by decide⟩
end Go.Proofs.YtgpcfjokmonlgaaDoor
namespace Go.Proofs.YtgpcfjokmonlgaaDoor.VX
open Go
set_option linter.unusedVariables false
def stN : Nat → (Nat → Int) → (Nat → Int) → Nat → Int
  | 0, a, _ => a
  | n + 1, a, F => upd (stN n a F) n (F n)
theorem stN_lt : ∀ (n : Nat) (a F : Nat → Int) (j : Nat), stN n a F j = if j < n then F j else a j
  | 0, a, F, j => by simp [stN]
  | n + 1, a, F, j => by
    simp only [stN, upd]
    cases h : Nat.beq j n
    · have hne : j ≠ n := fun e => by subst e; rw [Nat.beq_refl] at h; cases h
      simp only [cond_false]
      rw [stN_lt n a F j]
      by_cases c : j < n
      · rw [if_pos c, if_pos (by omega)]
      · rw [if_neg c, if_neg (by omega)]
    · obtain rfl := Nat.eq_of_beq_eq_true h
      simp
inductive VW : Value → Value → Prop
  | refl (v : Value) : VW v v
  | nil (z : Nat) (l : List Value) (hs : l.all solid = true) : VW (.slice none 0 0) (.func (.yield z) ⟨l⟩ ⟨[.bool false]⟩)
theorem VW.rel {μ : Mu} {v v' r : Value} (h : VW v v') (hr : VRel μ v r) : VRel μ v' r := by
  cases h with
  | refl => exact hr
  | nil z l hs =>
    have e := VRel.eq_of_scalar (v := .slice none 0 0) rfl hr
    subst e
    exact .lst z l false hs ⟨none, 0, 0, rfl⟩ (fun h => by cases h)
inductive SW : List Seg → List Seg → Prop
  | nil : SW [] []
  | cons (s : Seg) {a b : List Seg} (h : SW a b) : SW (s :: a) (s :: b)
  | one {v v' : Value} (hv : VW v v') {a b : List Seg} (h : SW a b) : SW (.one v :: a) (.one v' :: b)
theorem SW.refl : ∀ l : List Seg, SW l l
  | [] => .nil
  | s :: l => .cons s (SW.refl l)
theorem SW.size {a b : List Seg} (h : SW a b) : segsSize a = segsSize b := by
  induction h with
  | nil => rfl
  | cons s h ih => simp only [segsSize, ih]
  | one hv h ih => simp only [segsSize, Seg.size, ih]
theorem SW.get {a b : List Seg} (h : SW a b) : ∀ (o : Nat) (u : Value), segsGet? b o = some u → ∃ v, segsGet? a o = some v ∧ VW v u := by
  induction h with
  | nil => intro o u e; cases e
  | cons s h ih =>
    intro o u e
    simp only [segsGet?] at e ⊢
    cases c : Nat.blt o s.size <;> rw [c] at e
    · exact ih _ _ e
    · exact ⟨u, e, .refl u⟩
  | one hv h ih =>
    rename_i v v' a b
    intro o u e
    simp only [segsGet?, Seg.size] at e ⊢
    cases c : Nat.blt o 1 <;> rw [c] at e
    · exact ih _ _ e
    · simp only [cond_true, Seg.get?] at e ⊢
      cases d : Nat.beq o 0 <;> rw [d] at e
      · cases e
      · simp only [cond_true, Option.some.injEq] at e ⊢
        subst e
        exact ⟨v, rfl, hv⟩
inductive HW : Heap → Heap → Prop
  | nil : HW [] []
  | cons (i : Nat) {B B' : Blk} (hs : SW B.segs B'.segs) (ht : B.ty = B'.ty) (hr : B.ro = B'.ro) {a b : Heap} (h : HW a b) : HW ((i, B) :: a) ((i, B') :: b)
theorem HW.refl : ∀ h : Heap, HW h h
  | [] => .nil
  | (i, B) :: r => .cons i (SW.refl _) rfl rfl (HW.refl r)
theorem HW.lk {a b : Heap} (h : HW a b) : ∀ (i : Nat) (B' : Blk), VX.lk b i = some B' → ∃ B, VX.lk a i = some B ∧ SW B.segs B'.segs ∧ B.ty = B'.ty ∧ B.ro = B'.ro := by
  induction h with
  | nil => intro i B' e; cases e
  | cons j hs ht hr h ih =>
    intro i B' e
    simp only [VX.lk] at e ⊢
    cases c : Nat.beq i j <;> rw [c] at e
    · exact ih i B' e
    · simp only [cond_true, Option.some.injEq] at e ⊢
      subst e
      exact ⟨_, rfl, hs, ht, hr⟩
theorem FnSpec.weak {P : Program} {g : FuncId} {A : List Value} {H : Heap} {n0 : Nat} {v : Value} {H' H2 : Heap} (f : FnSpec P g n0 A H v H') (hw : HW H' H2) : FnSpec P g n0 A H v H2 := by
  refine ⟨f.enters, fun μ w rargs hg hn ha hr => (f.runs μ w rargs hg hn ha hr).mono ?_⟩
  rintro e w' ⟨μ', rv, hle, rep, hv, he, k⟩
  refine ⟨μ', rv, hle, ⟨?_, ?_, rep.bound, ?_, rep.frz, ?_⟩, hv, he, { k with old := ?_ }⟩
  · intro i B' hB'
    obtain ⟨B, hB, hs, ht, hro⟩ := hw.lk i B' hB'
    obtain ⟨b, hb, cs, t, fr, ho, h1, h2⟩ := rep.blk i B hB
    refine ⟨b, hb, cs, t, fr, ho, fun h => ?_, fun off u hu => ?_⟩
    · obtain ⟨q1, q2, q3⟩ := h1 (hro.trans h)
      exact ⟨q1.trans ht, q2, by unfold Blk.size; rw [← hs.size]; exact q3⟩
    · obtain ⟨x, hx, vw⟩ := hs.get off u hu
      obtain ⟨r, hr1, hr2⟩ := h2 off x hx
      exact ⟨r, hr1, vw.rel hr2⟩
  · intro i j A' B' b hA' hB' hi hj hij
    obtain ⟨A, hA, _, _, hra⟩ := hw.lk i A' hA'
    obtain ⟨B, hB, _, _, hrb⟩ := hw.lk j B' hB'
    obtain ⟨q1, q2⟩ := rep.apart i j A B b hA hB hi hj hij
    exact ⟨hra.symm.trans q1, hrb.symm.trans q2⟩
  · intro i B' b hB' hro hb
    obtain ⟨B, hB, _, _, hr2⟩ := hw.lk i B' hB'
    exact rep.size i B b hB (hr2.trans hro) hb
  · intro i B' b hB' hro hb
    obtain ⟨B, hB, _, _, hr2⟩ := hw.lk i B' hB'
    exact rep.nofz i B b hB (hr2.trans hro) hb
  · intro i B' b hB' hb hlt
    obtain ⟨B, hB, _, _, hr2⟩ := hw.lk i B' hB'
    obtain ⟨i0, B0, e0, m0, r0⟩ := k.old i B b hB hb hlt
    exact ⟨i0, B0, e0, m0, fun h => r0 (hr2.trans h)⟩
end Go.Proofs.YtgpcfjokmonlgaaDoor.VX
