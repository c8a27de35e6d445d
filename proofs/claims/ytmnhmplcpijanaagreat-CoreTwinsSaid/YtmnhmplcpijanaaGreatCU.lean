/-
  Instructions as trees of accesses, in numbers; and that the core's own trees are these. No condition.
-/
import Derived.Test.YtmnhmplcpijanaaGreatCT
import Derived.Test.YtmnhmplcpijanaaGreatVO
namespace Go.Proofs.YtmnhmplcpijanaaGreat
open Go VX
set_option linter.unusedVariables false
set_option linter.unusedSimpArgs false
set_option maxRecDepth 100000

-- ---------------------------------------------------------------- numbers

theorem w16 {x : Int} : IntKind.u16.wrap x = x % 65536 := by rw [IntKind.wrap_u16]
theorem w8 {x : Int} : IntKind.u8.wrap x = x % 256 := by rw [IntKind.wrap_u8]
theorem w16_in {x : Int} (h : rng 256 x) : IntKind.u16.wrap x = x := by rw [w16]; obtain ⟨h1, h2⟩ := h; omega
theorem w8_in {x : Int} (h : rng 256 x) : IntKind.u8.wrap x = x := by rw [w8]; obtain ⟨h1, h2⟩ := h; omega
theorem w16_in2 {x : Int} (h : rng 65536 x) : IntKind.u16.wrap x = x := by rw [w16]; obtain ⟨h1, h2⟩ := h; omega

theorem pair_bits {lo hi : Int} (hl : rng 256 lo) (hh : rng 256 hi) : bOr .u16 (bShl .u16 (IntKind.u16.wrap hi) 8) (IntKind.u16.wrap lo) = lo + 256 * hi := by
  rw [w16_in hl, w16_in hh]
  obtain ⟨l1, l2⟩ := hl; obtain ⟨h1, h2⟩ := hh
  have e : bShl .u16 hi 8 = hi * 256 := by
    unfold bShl
    have : min (Int.toNat 8) (IntKind.u16.bits) = 8 := rfl
    rw [this, show ((2 : Int) ^ 8) = 256 from rfl, w16]; omega
  rw [e, bOr_low rfl 8 (by omega) (by show hi * 256 < 65536; omega) l1 (by show lo < 256; omega) (by show hi * 256 % 256 = 0; omega) (by decide)]
  omega

theorem stack_bits {s : Int} (h : rng 256 s) : bOr .u16 256 (IntKind.u16.wrap s) = 256 + s := by
  rw [w16_in h]
  obtain ⟨h1, h2⟩ := h
  rw [bOr_low rfl 8 (by omega) (by decide) h1 (by show s < 256; omega) (by decide) (by decide)]

theorem page_bits {a : Int} (h : rng 65536 a) (e : Int) : bOr .u16 (bAnd .u16 a 65280) (IntKind.u16.wrap (IntKind.u8.wrap e)) = a / 256 * 256 + e % 256 := by
  rw [w16_in (rng_wrap_u8 e), w8]
  obtain ⟨h1, h2⟩ := h
  have e1 : bAnd .u16 a 65280 = a / 256 * 256 := by
    have := bAnd_field (k := .u16) rfl 8 8 (a := a) (m := 65280) (by rfl) h1 (by show a < 65536; omega) (by decide)
    rw [this]
    show a / 256 % 256 * 256 = a / 256 * 256
    omega
  rw [e1, bOr_low rfl 8 (by omega) (by show a / 256 * 256 < 65536; omega) (by omega) (by show e % 256 < 256; omega) (by show a / 256 * 256 % 256 = 0; omega) (by decide)]

theorem page2_bits {a b : Int} (h : rng 65536 a) (hb : rng 65536 b) : bOr .u16 (bAnd .u16 a 65280) (bAndNot .u16 b 65280) = a / 256 * 256 + b % 256 := by
  obtain ⟨h1, h2⟩ := h; obtain ⟨b1, b2⟩ := hb
  have e1 : ∀ a : Int, 0 ≤ a → a < 65536 → bAnd .u16 a 65280 = a / 256 * 256 := by
    intro a h1 h2
    have := bAnd_field (k := .u16) rfl 8 8 (a := a) (m := 65280) (by rfl) h1 (by show a < 65536; omega) (by decide)
    rw [this]
    show a / 256 % 256 * 256 = a / 256 * 256
    omega
  rw [bAndNot_eq rfl b1 (by show b < 65536; omega) (by decide) (by decide), e1 a h1 h2, e1 b b1 b2]
  rw [bOr_low rfl 8 (by omega) (by show a / 256 * 256 < 65536; omega) (by omega) (by show b - b / 256 * 256 < 256; omega) (by show a / 256 * 256 % 256 = 0; omega) (by decide)]
  omega

theorem high_bits {a : Int} (h : rng 65536 a) : IntKind.u8.wrap (bShr .u16 a 8) = a / 256 := by
  obtain ⟨h1, h2⟩ := h
  unfold bShr
  have : min (Int.toNat 8) (IntKind.u16.bits) = 8 := rfl
  rw [this, show ((2 : Int) ^ 8) = 256 from rfl, Int.fdiv_eq_ediv_of_nonneg _ (by decide), w8]
  omega

/-- A byte with its sign. -/
def sgn (m : Int) : Int := if m > 127 then m - 256 else m
theorem sgn_bits {m : Int} (h : rng 256 m) : IntKind.u16.wrap (IntKind.i8.wrap m) = (sgn m) % 65536 := by
  obtain ⟨h1, h2⟩ := h
  have e : IntKind.i8.wrap m = sgn m := by
    unfold sgn
    simp only [IntKind.wrap, IntKind.signed, IntKind.bits]
    try simp
    split <;> omega
  rw [e, w16]

end Go.Proofs.YtmnhmplcpijanaaGreat
