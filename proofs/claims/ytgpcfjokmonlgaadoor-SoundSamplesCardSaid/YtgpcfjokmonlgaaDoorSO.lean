/-
  What the sound puts out. Written by gen_sound.py. No condition.
-/
import Derived.Test.YtgpcfjokmonlgaaDoorSC
namespace Go.Proofs.YtgpcfjokmonlgaaDoor
open Go VX
set_option linter.unusedVariables false
set_option linter.unusedSimpArgs false
set_option maxRecDepth 100000

/-- (*kotatsu/sound.Sound).Out -/
def sOut (s : Snd) : Int :=
  (IntKind.i64.wrap ((IntKind.i64.wrap ((IntKind.i64.wrap ((IntKind.i64.wrap (752 * (IntKind.i64.wrap ((sOut1_0 s) + (sOut1_1 s))))) + (IntKind.i64.wrap (851 * (sOut1_2 s))))) + (IntKind.i64.wrap (494 * (sOut1_3 s))))) + (IntKind.i64.wrap (335 * (IntKind.i64.wrap s.sample.level)))))
theorem sOut_p1 (s : Snd) (w_s : Snd.ok s) : FnSpec Tryd.prog 18 1005 [.pointer (some ⟨1000, 0, none⟩)] ([tb3] ++ (Snd.HL 1000 1001 1002 1003 1004 s)) (.int .i64 (IntKind.i64.wrap ((IntKind.i64.wrap ((IntKind.i64.wrap ((IntKind.i64.wrap (752 * (IntKind.i64.wrap ((sOut1_0 s) + (sOut1_1 s))))) + (IntKind.i64.wrap (851 * (sOut1_2 s))))) + (IntKind.i64.wrap (494 * (sOut1_3 s))))) + (IntKind.i64.wrap (335 * (IntKind.i64.wrap s.sample.level)))))) [] := by
  exact fn_of_x hG hM Tryd.func18 (by kernel_rfl) (by kernel_rfl) 400 [.no, .callr [(3, 3), (1000, 1000), (1001, 1001), (1002, 1002), (1003, 1003), (1004, 1004), (1005, 1005)] [1005] [] 1006 (.int .i64 (sOut1_0 s)) [], .callr [(3, 3), (1000, 1000), (1001, 1001), (1002, 1002), (1003, 1003), (1004, 1004), (1005, 1005)] [1005] [] 1006 (.int .i64 (sOut1_1 s)) [], .callr [(3, 3), (1000, 1000), (1001, 1001), (1002, 1002), (1003, 1003), (1004, 1004), (1005, 1005)] [1005] [] 1006 (.int .i64 (sOut1_2 s)) [], .callr [(3, 3), (1000, 1000), (1001, 1001), (1002, 1002), (1003, 1003), (1004, 1004), (1005, 1005)] [1005] [] 1006 (.int .i64 (sOut1_3 s)) []] (J (Eq.refl false) (J (sOut1_0_ok s w_s) (J (sOut1_1_ok s w_s) (J (sOut1_2_ok s w_s) (J (sOut1_3_ok s w_s) trivial))))) (by kernel_rfl)
theorem sOut_ok (s : Snd) (w_s : Snd.ok s) : FnSpec Tryd.prog 18 1005 [.pointer (some ⟨1000, 0, none⟩)] ([tb3] ++ (Snd.HL 1000 1001 1002 1003 1004 s)) (.int .i64 (sOut s)) [] := by
  exact sOut_p1 s w_s

end Go.Proofs.YtgpcfjokmonlgaaDoor
