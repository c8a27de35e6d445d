/-
  The picture: a new one. No condition.
-/
import Derived.Test.YtgnhhnmpeklciaaPB
namespace Go.Proofs.Ytgnhhnmpeklciaa
open Go VX
set_option linter.unusedVariables false
set_option linter.unusedSimpArgs false
set_option maxRecDepth 1000000

def picZero : Pic := { tiles := fun _ => 0, names := fun _ => 0, colours := fun _ => 0, men := fun _ => 0, man := 0, scroll := { V := 0, T := 0, X := 0, W := false }, control := 0, mask := 0, flags := 0, waits := 0, bus := 0, upright := false, line := 0, dot := 0, odd := false, frames := 0, screen := fun _ => 0 }
theorem new_ok : FnSpec Try.prog 14 1000 [] [] (.pointer (some ⟨1000, 0, none⟩)) [(1000, Pic.bl picZero (.slice none 0 0) false)] := by
  exact fn_of_x hG hM Try.func14 (by kernel_rfl) (by kernel_rfl) 400 [.segs (Pic.bl picZero (.slice none 0 0) false).segs] trivial (by kernel_rfl)
theorem rng0 : rng 256 (0 : Int) := by decide
theorem zero_ok : Pic.ok picZero := ⟨fun _ => rng0, fun _ => rng0, fun _ => rng0, fun _ => rng0, rng0, ⟨(by decide : rng 65536 (0 : Int)), (by decide : rng 65536 (0 : Int)), rng0⟩, rng0, rng0, rng0, rng0, rng0, fun _ => rng0⟩
end Go.Proofs.Ytgnhhnmpeklciaa
