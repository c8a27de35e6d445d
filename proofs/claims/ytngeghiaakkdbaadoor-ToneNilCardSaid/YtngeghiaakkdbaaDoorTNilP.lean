/-
  Layer 11: the plain law of a nil tone. No condition.
-/
import Derived.Test.YtngeghiaakkdbaaDoorTF
namespace Go.Proofs.YtngeghiaakkdbaaDoor
open Go VX IntWalk
set_option maxRecDepth 100000
set_option linter.unusedSimpArgs false
set_option linter.unusedVariables false

theorem put_high (t : Tone) (reg b : Int) (h : rng 256 reg) : tPut t (IntKind.u8.wrap (4 + (Int.tmod reg 252))) b = t := by
  obtain ⟨h1, h2⟩ := h
  have e : Int.tmod reg 252 = reg % 252 := Int.tmod_eq_emod_of_nonneg h1
  unfold tPut
  rw [if_pos]
  rw [e, u8_in _ (by omega), i64_in _ (by omega)]
  simp
  omega

theorem nil_true (kind reg b : Int) (on : Bool) (hr : rng 256 reg) (hb : rng 256 b) : FnSpec Tryd.prog 10 1000 [.int .u8 kind, .int .u8 reg, .int .u8 b, .bool on] [(0, ⟨[.ints .u16 16 noisesT], 60, true⟩), (1, ⟨[.ints .u8 4 dutiesT], 39, true⟩), (2, ⟨[.ints .u8 32 lengthsT], 64, true⟩)] (.bool true) [] := by
  have f : (!(tLive (tEnable (tClock (tCopy (tQuarter (tPut_3 (tPut_0 (tEnable tNew_2 true) 133) 0)))) false))) = true := by decide +kernel
  have k1 : (((tOut (tPut (tQuarter (tPut_3 (tPut_0 (tEnable tNew_2 true) 133) 0)) (IntKind.u8.wrap (4 + (Int.tmod reg 252))) b)) : Int) == 15) = true := by rw [put_high _ _ _ hr]; decide +kernel
  have k2 : (((tOut (tEnable (tClock (tCopy (tQuarter (tPut_3 (tPut_0 (tEnable tNew_2 true) 133) 0)))) false)) : Int) == 14) = true := by decide +kernel
  have k3 : (tLive (tPut (tQuarter (tPut_3 (tPut_0 (tEnable tNew_2 true) 133) 0)) (IntKind.u8.wrap (4 + (Int.tmod reg 252))) b)) = true := by rw [put_high _ _ _ hr]; decide +kernel
  rcases bt (decide ((kind : Int) > 3)) with c | c
  · have := lawNil_p1 kind reg b on hb awake_t c (by rw [c]; rfl) k1 k2 k3
    rw [f] at this; exact this
  · rcases bt ((kind : Int) == 3) with d | d
    · have := lawNil_p2 kind reg b on hb awake_t c d (by rw [c]; rfl) k1 k2 k3
      rw [f] at this; exact this
    · have := lawNil_p3 kind reg b on hb awake_t c d (by rw [c]; rfl) k1 k2 k3
      rw [f] at this; exact this

end Go.Proofs.YtngeghiaakkdbaaDoor
